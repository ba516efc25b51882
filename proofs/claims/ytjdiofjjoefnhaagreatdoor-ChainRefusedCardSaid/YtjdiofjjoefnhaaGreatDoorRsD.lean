/- The reference's state of a chain: New, Apply. -/
import Derived.Test.YtjdiofjjoefnhaaGreatDoorMRs
set_option maxRecDepth 100000
set_option maxHeartbeats 8000000
namespace Go.Proofs.YtjdiofjjoefnhaaGreatDoor
open Tryz Go.ChangeShapes Go.WideShapes Go.ChangeAt Go.RowKit Go.Sort
theorem tp (r:i4): ∀(l m:List jO) (s:j8),mF r s (l++m)=if mF r s l=0 then mF r (om s l) m else mF r s l
 | [],m,s=>by simp [mF,om]
 |t::l,m,s=>by
  show(if h7 r s t=0 then (if jA s t=0 then mF r (kD s t) (l++m)else jA s t)else h7 r s t)=(if (if h7 r s t=0 then (if jA s t=0 then mF r (kD s t) l else jA s t)else h7 r s t)=0 then mF r (om (kD s t) l) m else (if h7 r s t=0 then (if jA s t=0 then mF r (kD s t) l else jA s t)else h7 r s t));by_cases h1:h7 r s t=0
  ·by_cases h2:jA s t=0
   ·rw [g7 h1,g7 h2,g7 h1,g7 h2];exact tp r l m _
   ·rw [g7 h1,g3 h2,g7 h1,g3 h2,g3 h2]
  ·rw [g3 h1,g3 h1,g3 h1]
theorem Co (r:i4)(s:j8)(t:jO):mF r s [t]=BR r s t:=by
 show(if h7 r s t=0 then (if jA s t=0 then (0:Int)else jA s t)else h7 r s t)=_;unfold BR;by_cases h1:h7 r s t=0
 ·rw [g7 h1,g7 h1]
  split
  ·rename_i h;exact h.symm
  ·rfl
 ·rw [g3 h1,g3 h1]
theorem GB {r:i4}{s:j8}{l:List jO}{k:Nat}(u:k<l.length)(j:mF r s (l.take k)=0)(h1:BR r (om s (l.take k)) l[k]≠0):mF r s l=BR r (om s (l.take k)) l[k]:=by
 have e:l=l.take k++([l[k]]++l.drop (k+1)):=by
  rw [<-Tt,<-z4 u,Tp]
 conv=>lhs;rw [e]
 rw [tp,g7 j,tp,Co,g3 h1]
theorem z8: ∀(l:List jO) (s:j8),(om s l).past=s.past/\(om s l).roots=s.roots
 | [],_=>⟨rfl,rfl⟩
 |t::l,s=>z8 l (kD s t)
structure H7 (r:i4)(X:Array Value)(w0:World)(s:j8)(v:ug)(w:World):Prop where
 cs:w.heap[w0.heap.size]? =some (.cells (ij r s v) 58 (0,0))
 cb:w.heap[w0.heap.size+1]? =some (.cells X 44 (0,0))
 cr:w.heap[w0.heap.size+2]? =some (.cells vs 58 (0,0))
 mx:BW w0 w
 size:w0.heap.size+3<=w.heap.size
abbrev wT (SP:UO)(n k:Nat):Prop:=(SP k/\k<n)\/n+4<=k
structure ApAt (SP:UO)(r:i4)(X:Array Value)(w0:World)(s:j8)(v:ug)(x:j8)(vx:ug)(w:World):Prop where
 fr:H7 r X w0 s v w
 cx:w.heap[w0.heap.size+3]? =some (.cells (ij r x vx) 58 (0,0))
 data:nc (wT SP w0.heap.size) w x vx
 size:w0.heap.size+4<=w.heap.size
section
variable {SP:UO} {r:i4} {X:Array Value} {w0 w w':World} {s x x2:j8} {v vx JZ:ug}
theorem H7.c' (h:H7 r X w0 s v w)(j:BW w w'):H7 r X w0 s v w':=
 ⟨b' j h.cs,b' j h.cb,b' j h.cr,h.mx.trans (j.mono (by have:=h.size;omega)),iu h.size j.size⟩
theorem H7.row (h:H7 r X w0 s v w)(cs:Array Value):H7 r X w0 s v (w.setRow (w0.heap.size+3) cs):=
 ⟨by rw [setRow_other _ _ _ _ UN];exact h.cs,by rw [setRow_other _ _ _ _ UN];exact h.cb,by rw [setRow_other _ _ _ _ UN];exact h.cr,below_setRow h.mx UN _,by rw [Uy];exact h.size⟩
theorem ApAt.c' (h:ApAt SP r X w0 s v x vx w)(j:BW w w'):ApAt SP r X w0 s v x vx w':=
 ⟨h.fr.c' j,b' j h.cx,h.data.c' j,iu h.size j.size⟩
theorem ApAt.store (h:ApAt SP r X w0 s v x vx w)(i:Nat)(u:Value)(j:(ij r x vx).setIfInBounds i u=ij r x2 JZ)(y:nc (wT SP w0.heap.size) w x2 JZ):ApAt SP r X w0 s v x2 JZ (w.setCell ⟨w0.heap.size+3,i,none⟩ u):=by
 refine⟨⟨hB h.fr.cs (by show _≠w0.heap.size+3;omega),hB h.fr.cb (by show _≠w0.heap.size+3;omega),hB h.fr.cr (by show _≠w0.heap.size+3;omega),j4 h.fr.mx UN _ (by have:=h.size;omega),by have:=h.fr.size;simpa [World.setCell]using this⟩,?_,y.keep ((h9 w _ _ _).mono λk _ z=>by show k≠_;omega),by have:=h.size;simpa [World.setCell]using this⟩;rw [<-j];exact h6 h.cx
theorem ApAt.row (h:ApAt SP r X w0 s v x vx w)(j:nc (wT SP w0.heap.size) w x2 JZ):ApAt SP r X w0 s v x2 JZ (w.setRow (w0.heap.size+3) (ij r x2 JZ)):=
 ⟨h.fr.row _,kr _ _ _ _ _ _ h.cx,j.keep ((i9 w _ _).mono λk _ u=>by show k≠_;omega),by rw [Uy];exact h.size⟩
theorem H7.start (h:H7 r X w0 s v w)(z:w.heap.size=w0.heap.size+3)(y:nc (λk=>SP k/\k<w0.heap.size) w s v):ApAt SP r X w0 s v s v ((w.alloc (.cells vs 58)).setRow (w0.heap.size+3) (ij r s v)):=by
 have j:=jc w (.cells vs 58);exact⟨(h.c' j).row _,kr _ _ _ _ _ _ (z▸gY w _),((y.c' j).mono λk _ u=> .inl u).keep ((i9 _ _ _).mono λk _ u=>by show k≠_;omega),by rw [Uy,U4];omega⟩
end
def xL (SP:UO)(r:i4)(s:j8)(b:hV)(w:World)(e:Ending)(w':World):Prop:= ∃(s2:j8) (v2:ug),e= .returned (.tuple #[.agg (ij r s2 v2),UZ (jF r s b)])/\(jF r s b=0->s2=lX r s b/\nc (wT SP w.heap.size) w' s2 v2)/\BW w w'
theorem xL.bad {SP:UO}{r:i4}{s:j8}{v:ug}{b:hV}{w wr:World}{err:Int}(h:jF r s b=err)(u:err≠0)(j:BW w wr):xL SP r s b w (.returned (.tuple #[.agg (ij r s v),UZ err])) (wr.setRow (w.heap.size+2) (ij r s v)):=
 ⟨s,v,by rw [h],λy=>absurd (h▸y) u,below_setRow j UN _⟩
theorem i7.bound {S:UO}{w:World}{b:hV}{xa:UP}{xc:Nat}(h:i7 S w b xa xc):i7 (λk=>k<w.heap.size) w b xa xc:=
 ⟨h.parent,h.f',h.hJ,h.work,h.e',my.mono h.hQ λ_ h _=>h⟩
theorem GA {n:Nat}{w:World}{len cap:Nat}{l:List jO}{b o:Nat}(h:my.rel (λk=>k<n) w [.slice (some ⟨b,o,none⟩) len cap] l)(k:Nat)(u:k<l.length):b<n:=by
 obtain⟨y,off,es,e,j, -⟩:=g4.at h k u;simp only [pd,qd]at e;obtain⟨rfl, -, -⟩:=e;exact j
theorem Jj {r:i4}{s:j8}{t:jO}(h:BR r s t=0):h7 r s t=0/\jA s t=0:=by
 unfold BR at h;split at h
 ·rename_i h1;exact⟨h1,h⟩
 ·rename_i h1;exact absurd h h1
structure D2 (X:Nat)(v1 v10:Value)(w':World):Prop where
 c1:w'.cell? ⟨X,1,none⟩=some v1
 c10:w'.cell? ⟨X,10,none⟩=some v10
theorem D2.of {X:Nat}{v1 v10:Value}{w':World}{cs:Array Value}{t:TypeId}(h:w'.heap[X]? =some (.cells cs t (0,0)))(h1:cs[1]? =some v1)(j:cs[10]? =some v10):D2 X v1 v10 w':=
 ⟨by rw [(a' h).1];exact h1,by rw [(a' h).1];exact j⟩
structure Md (B1:Nat)(l1:List Value)(b o:Nat)(l2:List Value)(w':World):Prop where
 c1: ∀i,w'.cell? ⟨B1,i,none⟩=(List.toArray l1)[i]?
 r2:w'.rangeAt b o l2
theorem F2 {w:World}{b o:Nat}{v0 v1 v2 y z G K U V Y:Value}(c0:w.cell? ⟨b,o,none⟩=some v0)(c1:w.cell? ⟨b,o+1,none⟩=some v1)(c2:w.cell? ⟨b,o+2,none⟩=some v2)(ab:w.cell? ⟨b,o+3,none⟩=some y)(ad:w.cell? ⟨b,o+4,none⟩=some z)(ae:w.cell? ⟨b,o+5,none⟩=some G)(af:w.cell? ⟨b,o+6,none⟩=some K)(ag:w.cell? ⟨b,o+7,none⟩=some U)(ah:w.cell? ⟨b,o+8,none⟩=some V)(ai:w.cell? ⟨b,o+9,none⟩=some Y):w.rangeAt b o [v0,v1,v2,y,z,G,K,U,V,Y]:=λj v u=>by
 match j with
 |0=>simp at u;subst u;exact c0
 |1=>simp at u;subst u;exact c1
 |2=>simp at u;subst u;exact c2
 |3=>simp at u;subst u;exact ab
 |4=>simp at u;subst u;exact ad
 |5=>simp at u;subst u;exact ae
 |6=>simp at u;subst u;exact af
 |7=>simp at u;subst u;exact ag
 |8=>simp at u;subst u;exact ah
 |9=>simp at u;subst u;exact ai
 |j+10=>simp at u
theorem Md.next {B1 b o:Nat}{l1 l2:List Value}{w w':World}(h:Md B1 l1 b o l2 w)(u:B1<w.heap.size)(j:BW w w'):Md B1 l1 b o l2 w':=
 ⟨λi=>by rw [<-h.c1 i];exact TL (w:=w) (j.block B1 u),mj h.r2 j⟩
theorem Md.row {B1 b o g:Nat}{l1 l2:List Value}{w:World}(h:Md B1 l1 b o l2 w)(h1:B1≠g)(h2:b≠g)(cs:Array Value):Md B1 l1 b o l2 (w.setRow g cs):=
 ⟨λi=>by rw [<-h.c1 i];exact TL (w:=w) (setRow_other w g _ cs h1),λj v u=>by
  rw [<-h.r2 j v u];exact TL (w:=w) (setRow_other w g _ cs h2)⟩
theorem rC (SP:UO)(w:World)(r:i4)(hr:oo r)(cy:r.depth<=11)(s:j8)(v:ug)(h:nc SP w s v)(N:Nat)(ok:nm r s N)(db:N<=80000)(cB:H4 r s)(cA:s.marks.Pairwise (· < ·))(cY:s.past.length<=100000)(S:UO)(b:hV)(xa:UP)(xc:Nat)(bM:i7 S w b xa xc)(dd:b.hQ.length<=64):
 Calls prog 41 #[.agg (pH r s v),.agg (jI b xa xc)] w (xL SP r s b w):=by
 obtain⟨ck,b2,b3⟩:=vu w (.cells (pH r s v) 58) (.cells (jI b xa xc) 44) (.cells mo 58);have bi:=hd (hd (jc w (.cells (pH r s v) 58)) (.cells (jI b xa xc) 44)) (.cells mo 58);have ak:(((w.alloc (.cells (pH r s v) 58)).alloc (.cells (jI b xa xc) 44)).alloc (.cells mo 58)).heap.size=w.heap.size+3:=by rw [U4,U4,U4]
 have ai:Hi (H7 r (jI b xa xc) w s v (((w.alloc (.cells (pH r s v) 58)).alloc (.cells (jI b xa xc) 44)).alloc (.cells mo 58))):=⟨ck,b2,b3,bi,Nat.le_of_eq ak.symm⟩;have b1:Hi (nc (λk=>SP k/\k<w.heap.size) (((w.alloc (.cells (pH r s v) 58)).alloc (.cells (jI b xa xc) 44)).alloc (.cells mo 58)) s v):=(h.mono (S':=λk=>SP k/\k<w.heap.size) λk ad cZ=>⟨cZ,ad⟩).c' bi;obtain⟨cg,ax,cM,b9,cI,b7,b8,b5⟩:=Mb ak (bM.bound.c' bi) bM.pos hr cy ok cB cA;have a5:Hi (jF r s b=if b.f'=s.past.length+1 then (if b.hJ<18446744069414584321 then (if mF r s b.hQ=0 then kV (om s b.hQ).book b.hJ (jh (r.iz+nD 0 b.hQ))else mF r s b.hQ)else 1)else 18):=rfl;clear ck b2 b3 bi ak h bM hr cy ok cB cA;go_in;go_upto_region 1 with(fail);generalize (((w.alloc (.cells (pH r s v) 58)).alloc (.cells (jI b xa xc) 44)).alloc (.cells mo 58))=W at*;obtain⟨ao,ay⟩:=a' ai.o.cs;obtain⟨aO,aP⟩:=a' ai.o.cb;simp only [ij]at ao;have bC:wrap64 ((s.past.length:Int)+1)=(s.past.length:Int)+1:=by unfold wrap64;omega
 by_cases h1:b.f'=s.past.length+1;rotate_left
 ·have HQ:=Hd (a5.o.trans (g3 h1))
  have au:(b.f' != (s.past.length:Int)+1)=true:=(by rw [iB];exact h1);have aw:Hi ((18:Int)≠0):=(by show _≠_;omega);clear h1 a5
  go_wp2_with (first
   |(refine kf rfl _ _ rfl w.heap.size rfl _ _ _ _ ai.o.cs underlying58 rfl UQ ?_)
   |(refine kI rfl _ _ _ rfl (w.heap.size+2) _ rfl rfl _ _ ai.o.cr UQ rfl UQ ?_))
  (try simp only [Exit.inBlock,Exit.then])
  refine iQ (v:= .tuple #[.agg (ij r s v),UZ 18]) ?_ rfl (xL.bad HQ.o aw.o ai.o.mx);exact ky results41 rfl (kr _ _ _ _ _ _ ai.o.cr) underlying58 rfl UQ
 have a4:=Hd (a5.o.trans (g7 h1));have au:(b.f' != (s.past.length:Int)+1)=false:=by rw [jt];exact h1
 clear h1 a5;by_cases h2:b.hJ<18446744069414584321;rotate_left
 ·have HQ:=Hd (a4.o.trans (g3 h2))
  have aQ:decide ((18446744069414584321:Int)<=b.hJ)=true:=iP UN;have aw:Hi ((1:Int)≠0):=(by show _≠_;omega);clear h2 a4
  go_wp2_with (first
   |(refine kf rfl _ _ rfl w.heap.size rfl _ _ _ _ ai.o.cs underlying58 rfl UQ ?_)
   |(refine kI rfl _ _ _ rfl (w.heap.size+2) _ rfl rfl _ _ ai.o.cr UQ rfl UQ ?_))
  (try simp only [Exit.inBlock,Exit.then])
  refine iQ (v:= .tuple #[.agg (ij r s v),UZ 1]) ?_ rfl (xL.bad HQ.o aw.o ai.o.mx);exact ky results41 rfl (kr _ _ _ _ _ _ ai.o.cr) underlying58 rfl UQ
 have bk:=Hd (a4.o.trans (g7 h2));have aQ:decide ((18446744069414584321:Int)<=b.hJ)=false:=iH UN;clear h2 a4
 go_upto_region 6 with(first
  |(refine kf rfl _ _ rfl w.heap.size rfl _ _ _ _ ai.o.cs underlying58 rfl UQ ?_)
  |(refine kI rfl _ _ _ rfl W.heap.size _ rfl rfl _ _ (gY W (.cells mo 58)) UQ rfl UQ ?_))
 have bK:=cg.o;rw [bK];obtain⟨cQ,bJ,ae⟩: ∃q,(W.alloc (.cells mo 58)).setRow (w.heap.size+3) (ij r s v)=q/\Hi (ApAt SP r (jI b xa xc) w s v s v q):=⟨_,rfl,ai.o.start bK b1.o⟩;have b0:Hi (i7 (λk=>k<w.heap.size) cQ b xa xc):=by
  show i7 _ _ _ _ _;rw [<-bJ];exact(ax.o.c' (hd (g' _ _) _)).keep ((i9 _ _ _).mono λk _ ad=>by have cX:k<w.heap.size:=ad;show k≠_;omega)
 rw [bJ];clear bJ bK cg ai b1 ax ao ay aO aP au aQ bC;go_wp2;go_loopw [7,8,9] (λc7 c6 bT wr=> ∃(k:Nat) (x:j8) (vx:ug) (f:Int),k<=b.hQ.length/\bT= UZ k/\c7= U2 f/\c6= I0/\Hi (mF r s (b.hQ.take k)=0)/\Hi (x=om s (b.hQ.take k))/\Hi (f=nD 0 (b.hQ.take k))/\Hi (nm r x (N+4*k))/\Hi (H4 r x)/\Hi (x.marks.Pairwise (· < ·))/\Hi (ApAt SP r (jI b xa xc) w s v x vx wr)/\Hi (i7 (λk=>k<w.heap.size) wr b xa xc)) (λ_ _ bT _=>b.hQ.length-(intOf bT).toNat)
 case atStart=>exact⟨0,s,v,0,iy _,rfl,rfl,rfl,rfl,rfl,rfl,b7,b8,b5,ae,b0⟩
 case round=>
  clear ae b0 b7 b8 b5;obtain⟨k,x,vx,f,ad,rfl,rfl,rfl,aW,aF,a8,aq,aV,bt,ae,ax⟩:=hrel;obtain⟨aM,c3⟩: ∃x,x=wr:=⟨_,rfl⟩;subst c3;have aD:Hi (x.past=s.past/\x.roots=s.roots):=(by show _/\_;rw [aF.o];exact z8 _ _);have b4:Hi (N+4*k<=80256):=Hd UN;obtain⟨aO,aP⟩:=a' ae.o.fr.cb;by_cases hlt:k<b.hQ.length
  ·as_aux_lemma=>
   obtain⟨aH,off,ma,oa,pa,mc,oc,pc,rfl,cV,cv,c0,c1,c2,cl,cn,K,Y,co,aN,cp⟩:=oq ax.o.hQ k hlt;obtain⟨aE,bA⟩:=ik (F2 c0 c1 c2 cl cn K Y co aN cp) cv;have bf:Hi (BR r x b.hQ[k]≠0->jF r s b=BR r x b.hQ[k]):=λbP=>by
    have cT:mF r s b.hQ=BR r x b.hQ[k]:=(by rw [aF.o]at bP⊢;exact GB hlt aW.o bP);rw [bk.o,cT,g3 bP]
   have bb:Hi (BR r x b.hQ[k]=0->mF r s (b.hQ.take (k+1))=0/\kD x b.hQ[k]=om s (b.hQ.take (k+1))):=λc5=>by
    rw [z4 hlt,tp,g7 aW.o,Co,<-aF.o,xX,<-aF.o];exact⟨c5,rfl⟩
   have bp:Hi (jh (f+b.hQ[k].jn)=nD 0 (b.hQ.take (k+1))):=by
    show _=_;rw [z4 hlt,vG,<-a8.o];rfl
   have be:=Hd (cM.o _ (z3 hlt));have cH:Hi (aH<w.heap.size):=GA ax.o.hQ k hlt;obtain⟨t,bR⟩:=iF (b.hQ[k]);have ch:=Hd bR;rw [bR]at aE bA bf bb bp be;have de:(0:Int)<=(k:Int):=UN;have df:(k:Int)<(b.hQ.length:Int):=UN;clear cv c0 c1 c2 cl cn K Y co aN cp cV bR aW aF a8;go_upto_region 11 with(fail);clear aO aP;refine qS (S:=Md (w.heap.size+1) [b.parent,UZ b.f',b.hJ,b.work,b.e',.slice (some ⟨aH,off,none⟩) b.hQ.length xc] aH (off+k*10) [t.g5,.slice ma t.marks.length mc,.slice oa t.outs.length oc,t.iK,t.wd,t.jn,t.acc,t.e',UZ t.exp,.slice pa t.proof.length pc]) UQ (⟨(a' ae.o.fr.cb).1,aE.o⟩) (λhHeld=> ?_);go_simp;refine kL 1 ?_;go_simp;refine Gu 2 rfl (λbU aI=>by have c1:=aI.c1;go_simp;all_goals with_reducible rfl) ?_;go_simp;refine kL 3 ?_;go_simp;refine kL 4 ?_;go_simp;refine xp 5 rfl (pe (by rfl) _ _ rfl (aH) (off+k*10) rfl [t.g5,.slice ma t.marks.length mc,.slice oa t.outs.length oc,t.iK,t.wd,t.jn,t.acc,t.e',UZ t.exp,.slice pa t.proof.length pc] _ (λbU aI=>aI.r2) underlying87 rfl UQ) ?_;go_simp;refine l8 0 rfl (λG z=> ?_);refine qA rfl _ _ rfl (w.heap.size+3) rfl _ _ _ _ (b' (Br aM).drew ae.o.cx) underlying58 rfl UQ ?_;refine z.out _ _ hHeld (λhHeld=> ?_);clear z G;go_simp;refine l8 6 rfl (λG z=> ?_);go_simp;refine(BE _ _ r b9.o x vx (ae.o.data.c' (Br aM).drew) _ aq.o (by have:=b4.o;omega) aV.o bt.o (by rw [aD.o.1];exact cY) _ t ma oa pa mc oc pc (bA.o.c' (Br aM).drew)).mono ?_;rintro e bj⟨s2,v2,rfl,hgood,hb5⟩;have bN:=d' (Br aM).drew hb5;obtain⟨al,bY,bq⟩:=kT (ae.o.c' bN) (ax.o.c' bN) hgood;have cU:=hHeld.next (by have:=ae.o.size;exact jg UN (Br aM).drew.size) hb5;clear hb5 bN hgood;clear hHeld;refine z.out _ _ (cU) (λhHeld=> ?_);clear z G;go_simp;refine kL 7 ?_;go_simp;refine kL 8 ?_;go_simp;refine kL 9 ?_;go_simp;refine l8 10 rfl (λG z=> ?_);refine k6 rfl _ _ _ rfl (w.heap.size+3) _ rfl rfl _ _ al.o.cx UQ rfl UQ ?_;refine z.out _ _ (hHeld.row UN (by have:=cH.o;omega) _) (λhHeld=> ?_);clear z G;go_simp;refine kL 11 ?_;go_simp;refine mA UQ ?_ _;obtain⟨U,aL⟩:=iF (bj.setRow (w.heap.size+3) (ij r s2 v2));have aT:Hi (H7 r #[b.parent,UZ b.f',b.hJ,b.work,b.e',.slice (some ⟨aH,off,none⟩) b.hQ.length xc] w s v U):=(by show H7 _ _ _ _ _ _;rw [<-aL];exact al.o.fr.row _);have bZ:Hi (i7 (λk=>k<w.heap.size) U b (some ⟨aH,off,none⟩) xc):=by
    show i7 _ _ _ _ _;rw [<-aL];exact bY.o.keep ((i9 _ _ _).mono λk _ ad=>by have cX:k<w.heap.size:=ad;show k≠_;omega)
   by_cases ar:BR r x t=0;rotate_left
   ·have HQ:=Hd (bf.o ar)
    have aw:=Hd ar;have au:(BR r x t != 0)=true:=(by rw [iB];exact ar);have aQ:(BR r x t==0)=false:=(by rw [je];exact ar);obtain⟨y,hy⟩:=iF (BR r x t);rw [hy]at au aQ HQ aw⊢;rw [aL];clear hy ar aL bb bf bq
    go_wp2_with (first
     |(refine kf rfl _ _ rfl w.heap.size rfl _ _ _ _ aT.o.cs underlying58 rfl UQ ?_)
     |(refine kI rfl _ _ _ rfl (w.heap.size+2) _ rfl rfl _ _ aT.o.cr UQ rfl UQ ?_))
    (try simp only [Exit.inBlock,Exit.then])
    refine iQ (v:= .tuple #[.agg (ij r s v),UZ y]) ?_ rfl (xL.bad HQ.o aw.o aT.o.mx);exact ky results41 rfl (kr _ _ _ _ _ _ aT.o.cr) underlying58 rfl UQ
   ·obtain⟨a2,cz⟩:=bq.o ar
    obtain⟨cq,cu⟩:=bb.o ar;obtain⟨f1,cS⟩:=Jj ar;have cO:=Hd cq;have cP:Hi (s2=om s (b.hQ.take (k+1))):=a2.trans cu;have cL:Hi (nm r s2 (N+4*(k+1))):=(by show nm _ _ _;rw [a2];exact xm aq.o f1 be.o);have cN:Hi (H4 r s2):=(by show H4 _ _;rw [a2];exact It aq.o aV.o f1 be.o);have cK:Hi (s2.marks.Pairwise (· < ·)):=(by show s2.marks.Pairwise _;rw [a2];exact oS _ _ bt.o);have V:Hi (ApAt SP r #[b.parent,UZ b.f',b.hJ,b.work,b.e',.slice (some ⟨aH,off,none⟩) b.hQ.length xc] w s v s2 v2 U):=by
     show ApAt _ _ _ _ _ _ _ _ _;rw [<-aL];have ak:=ae.o.size;exact al.o.row (cz.mono λk _ ad=>by have bF:r5 (wT SP w.heap.size) aM.heap.size k:=ad;rcases bF with⟨h1, -⟩|h1;exact h1;exact .inr UN)
    rw [ar,aL];clear ar a2 cz cq cu f1 cS aL bb bf bq al bY ae ax aq aV bt be aE bA;obtain⟨da,dg, -, -, -, -, -, -,cC, -, -, -, -, -, -, -,K, -⟩:=oq bZ.o.hQ k hlt;simp only [pd,qd]at cC;obtain⟨rfl,rfl, -⟩:=cC;rw [ch.o]at K;obtain⟨aO,aP⟩:=a' aT.o.cb;obtain⟨bV,bH⟩:=iF (IntKind.u64.wrap (f+t.jn));have a9:Hi (bV=nD 0 (b.hQ.take (k+1))):=Hd (by rw [<-bH];exact bp.o);clear bp ch;have c4:wrap64 ((k:Int)+1)=(k:Int)+1:=(by unfold wrap64;omega);go_wp2_with fail
    (try rw [bH])
    clear bH K aO aP;go_roundw
    case rel=>exact⟨k+1,s2,v2,bV,UN,by go_num,rfl,rfl,cO,cP,a9,cL,cN,cK,V,bZ⟩
    case measure=>first|(rw [c4];exact rW hlt (pb k))|exact rW hlt (pb k)
  ·as_aux_lemma=>
   obtain rfl:k=b.hQ.length:=UN;have bQ:=aW.o;have bS:=aF.o;have bO:=a8.o;rw [Sw]at bQ bS bO;obtain⟨bW,aX,a9⟩:=kT (bk.o.trans (g7 bQ)) bS bO;have cJ:Hi (iZ b.hJ):=ax.o.hJ;clear bQ bS bO aW aF a8 hlt ad bk;obtain⟨ao,ay⟩:=a' ae.o.cx;obtain⟨cE,q1⟩:=a' ae.o.fr.cs;simp only [ij]at ao cE;obtain⟨AM,bh⟩:=iF (IntKind.u64.wrap (r.iz+f));have cG:Hi (iZ AM):=Hd (by rw [<-bh];exact sA _);have a6:Hi (jF r s b=kV x.book b.hJ AM):=by
    show _=_;rw [bW.o,<-aX.o,<-a9.o,<-bh]
   have bm:Hi ((ju r s b).book=jH x.book b.hJ AM):=by
    show jH (om s b.hQ).book b.hJ (jh (r.iz+nD 0 b.hQ))=_;rw [<-aX.o,<-a9.o,<-bh]
   clear bW;go_wp2_with fail;refine(wE _ aM vx.ba vx.bc x.book ae.o.data.book (by have:=aq.o.book;have:=b4.o;omega) aq.o.up aV.o.jD b.hJ AM cJ.o cG.o).mono ?_;rintro e bj⟨af,K,rfl,cD,hb5⟩;have ak:=ae.o.size;obtain⟨al,cd⟩:=ik (ae.o.c' hb5) ((ih).mono cD (S':=wT SP w.heap.size) λk _ ad=> .inr (iu ak ad));obtain⟨aj,cw⟩:=iF (jH x.book b.hJ AM);rw [cw]at cd bm⊢;clear cw cD hb5 bh ao ay cE q1 aO aP ak;obtain⟨ao,ay⟩:=a' al.o.cx;simp only [ij]at ao;have ap:=Hd (al.o.store (x2:= { x with book:=aj }) (JZ:= { vx with ba:=af,bc:=K }) 12 (.slice af aj.length K) rfl ⟨al.o.data.leaves,al.o.data.marks,cd.o,al.o.data.hidden,al.o.data.roots⟩);by_cases aK:kV x.book b.hJ AM=0;rotate_left
   ·have HQ:=Hd a6.o
    have aw:=Hd aK;have au:(kV x.book b.hJ AM != 0)=true:=(by rw [iB];exact aK);have aQ:(kV x.book b.hJ AM==0)=false:=(by rw [je];exact aK);obtain⟨y,hy⟩:=iF (kV x.book b.hJ AM);rw [hy]at au aQ HQ aw⊢;clear hy aK a6;go_upto_region 16 with(fail);generalize bj.setCell ⟨w.heap.size+3,12,none⟩ (.slice af aj.length K)=cF at*;have a7:=Hd ap.o.fr;clear ap ao ay
    go_wp2_with (first
     |(refine kf rfl _ _ rfl w.heap.size rfl _ _ _ _ a7.o.cs underlying58 rfl UQ ?_)
     |(refine kI rfl _ _ _ rfl (w.heap.size+2) _ rfl rfl _ _ a7.o.cr UQ rfl UQ ?_))
    (try simp only [Exit.inBlock,Exit.then])
    refine iQ (v:= .tuple #[.agg (ij r s v),UZ y]) ?_ rfl (xL.bad HQ.o aw.o a7.o.mx);exact ky results41 rfl (kr _ _ _ _ _ _ a7.o.cr) underlying58 rfl UQ
   have bX:Hi (jF r s b=0):=a6.o.trans aK;rw [aK];clear aK a6;go_upto_region 16 with(fail);generalize bj.setCell ⟨w.heap.size+3,12,none⟩ (.slice af aj.length K)=cF at*;clear ao ay al ae;obtain⟨ao,ay⟩:=a' ap.o.cx;simp only [ij]at ao;have bC:wrap64 ((x.past.length:Int)+1)=(x.past.length:Int)+1:=(by rw [aD.o.1];unfold wrap64;omega);have cR:((x.past++ [pG s b]).length:Int)=(x.past.length:Int)+1:=US;have V:=Hd (ap.o.store (x2:= { x with book:=aj,past:=x.past++ [pG s b] }) (JZ:= { vx with ba:=af,bc:=K }) 9 (UZ ((x.past.length:Int)+1)) (by rw [<-cR];rfl) ⟨ap.o.data.leaves,ap.o.data.marks,ap.o.data.book,ap.o.data.hidden,ap.o.data.roots⟩);go_upto_region 19 with(fail);generalize cF.setCell ⟨w.heap.size+3,9,none⟩ (UZ ((x.past.length:Int)+1))=U at*;clear ao ay ap bC;obtain⟨D,bG⟩: ∃D:Nat,r.depth=D:=lv (by have:=b9.o.d0;omega);have ah:=Hd bG;have bn:Hi (D<=11):=Hd (by have:=cI.o;omega);have br:Hi (x.leaves.length<=2^D):=by
    show _<=_;have h1:=aq.o.count;have h2:=aq.o.tree.c1;rw [bG,jJ]at h2;have e:((2:Nat)^D:Nat)=((2:Int)^D):=(by push_cast;rfl);omega
   have aE:Hi (mT (ju r s b).tree r.depth.toNat=mS x.leaves D 0):=by
    show _=_;have h1:(ju r s b).tree=x.tree:=(by show(om s b.hQ).tree=_;rw [<-aX.o]);have h2:=aV.o.tree;rw [bG,jJ]at h2⊢;rw [h1];exact vB h2 br.o bn.o
   have bz:=Hd (Cq x.leaves aq.o.leaves D 0);obtain⟨aG,bI⟩:=iF (mS x.leaves D 0);rw [bI]at aE bz;have ce:=Hd bI;have bx:Hi (x.roots.length<=100002):=Hd (by have h1:=aq.o.roots;have h2:=congrArg List.length aD.o.1;omega);obtain⟨Z,bL⟩:=iF (x.roots++ [aG]);have bg:=Hd bL;have cj:Hi (Z.length<=100003):=Hd (by rw [<-bL,U3];have:=bx.o;simp;omega);have bo:=Hd (hd (Br U).drew (.cells #[] 24));have b6:=Hd ((Own.empty ib U.heap.size 24 (gY U.drew (.cells #[] 24)) (g9 _)).mono (F':=λk=>U.heap.size<=k) λj _ cW=>Nat.le_of_eq cW.symm);have cf:Hi (Src ib (wT SP w.heap.size) (U.drew.alloc (.cells #[] 24)) (.slice vx.ra x.roots.length vx.rc) x.roots):=Src.of_slice (gZ.c' V.o.data.roots bo.o);clear bI bL;refine qS (S:=D2 (w.heap.size+3) (UZ D) (.slice vx.la x.leaves.length vx.lc)) UQ ((D2.of (b' (Br U).drew V.o.cx) (by show some (Value.int .i64 r.depth)=_;rw [ah.o]) rfl)) (λhHeld=> ?_);go_simp;refine kL 1 ?_;go_simp;refine kL 4 ?_;go_simp;refine kL 5 ?_;go_simp;refine Gu 6 rfl (λbU aI=>by have c1:=aI.c1;go_simp;all_goals with_reducible rfl) ?_;go_simp;refine kL 7 ?_;go_simp;refine Gu 8 rfl (λbU aI=>by have c1:=aI.c10;go_simp;all_goals with_reducible rfl) ?_;go_simp;refine wpAnyH_ready (rs:= [0,2]) UQ US ?_;refine vV rfl (λG z=> ?_) (vV rfl (λG z=> ?_) AllReadyH.nil)
   ·go_simp
    clear hHeld;refine z.out _ _ (D2.of (b' (hd (Br U).drew (.cells #[] 24)) V.o.cx) (by show some (Value.int .i64 r.depth)=_;rw [ah.o]) rfl) (λhHeld=> ?_);clear z G;go_simp;refine l8 2 rfl (λG z=> ?_);have u0:=(a' (iq (o':=(.cells #[] 24)) V.o.cx)).1;go_simp;clear u0;refine z.out _ _ hHeld (λhHeld=> ?_);clear z G;go_simp;refine l8 3 rfl (λG z=> ?_);refine x3 (r:=ib) (B:=U.heap.size) (w0:=U) (v:= .slice (some ⟨U.drew.heap.size,0,none⟩) 0 0) (u:= .slice vx.ra x.roots.length vx.rc) rfl _ _ rfl iX (Plain.int .u64) rfl rfl (TB _) bo.o (g9 _) b6.o cf.o (by have:=bx.o;omega) UN ?_;intro bB aN c8 a1 aZ;obtain⟨bv,av⟩:=ik a1 aZ;clear a1 aZ hHeld;refine z.out _ _ (D2.of (b' av.o V.o.cx) (by show some (Value.int .i64 r.depth)=_;rw [ah.o]) rfl) (λhHeld=> ?_);clear z G;go_simp;refine l8 9 rfl (λG z=> ?_);go_simp;refine(vE _ _ D (by have:=bn.o;omega) vx.la vx.lc x.leaves (V.o.c' av.o).data.leaves br.o).mono ?_;rw [ce.o];rintro e c9⟨rfl,aJ⟩;obtain⟨bw,aA⟩:=ik (bv.o.c' aJ) (av.o.trans (aJ.mono av.o.size));clear aJ hHeld;refine z.out _ _ (D2.of (b' aA.o V.o.cx) (by show some (Value.int .i64 r.depth)=_;rw [ah.o]) rfl) (λhHeld=> ?_);clear z G;go_simp;refine l8 10 rfl (λG z=> ?_);go_simp;clear hHeld;refine z.out _ _ (D2.of (b' (hd aA.o (.cells #[aG] 24)) V.o.cx) (by show some (Value.int .i64 r.depth)=_;rw [ah.o]) rfl) (λhHeld=> ?_);clear z G;go_simp;refine l8 11 rfl (λG z=> ?_);refine ts (r:=ib) (B:=U.heap.size) (w0:=U) (v:= .slice bB x.roots.length aN) (y:=aG) (cs:= [U2 aG]) (S:=λ_=>True) rfl _ _ rfl iX (Plain.int .u64) rfl rfl bg.o aA.o (g9 _) bw.o ⟨rfl,D5 bz.o⟩ (by have:=cj.o;omega) UN ?_;intro ag Y wa a0 aY;obtain⟨ab,aU⟩:=ik (V.o.c' aY) a0.slice;clear a0 aY hHeld;refine z.out _ _ (D2.of ab.o.cx (by show some (Value.int .i64 r.depth)=_;rw [ah.o]) rfl) (λhHeld=> ?_);clear z G;go_simp;refine kL 12 ?_;go_simp;refine l8 13 rfl (λG z=> ?_);obtain⟨a3,au⟩:=a' ab.o.cx;simp only [ij]at a3;go_simp;refine z.out _ _ (D2.of (h6 ab.o.cx) (by show some (Value.int .i64 r.depth)=_;rw [ah.o]) rfl) (λhHeld=> ?_);clear z G hHeld;go_simp;refine mA UQ ?_ _
    (try simp only [Exit.then])
    have ak:=V.o.size;have az:=Hd (ab.o.store (x2:= { x with book:=aj,past:=x.past++ [pG s b],roots:=Z }) (JZ:= { vx with ba:=af,bc:=K,ra:=ag,rc:=Y }) 14 (.slice ag Z.length Y) rfl ⟨ab.o.data.leaves,ab.o.data.marks,ab.o.data.book,ab.o.data.hidden,gZ.mono aU.o λk _ ad=> .inr (iu ak ad)⟩);generalize wa.setCell ⟨w.heap.size+3,14,none⟩ (.slice ag Z.length Y)=wb at*;have aC:=Hd az.o.fr;clear ak a3 au ab aU V
    go_wp2_with (first
     |(refine kf rfl _ _ rfl (w.heap.size+3) rfl _ _ _ _ az.o.cx underlying58 rfl UQ ?_)
     |(refine kI rfl _ _ _ rfl (w.heap.size+2) _ rfl rfl _ _ aC.o.cr UQ rfl UQ ?_))
    (try simp only [Exit.inBlock,Exit.then])
    have hcells:ij r { x with book:=aj,past:=x.past++ [pG s b],roots:=Z } { vx with ba:=af,bc:=K,ra:=ag,rc:=Y }=ij r (lX r s b) { vx with ba:=af,bc:=K,ra:=ag,rc:=Y }/\nc (wT SP w.heap.size) wb (lX r s b) { vx with ba:=af,bc:=K,ra:=ag,rc:=Y }:=by
     have bD:lX r s b= { x with book:=aj,past:=x.past++ [pG s b],roots:=Z }:=by
      have bE:ju r s b= { x with book:=aj }:=by
       show { om s b.hQ with book:=(ju r s b).book }=_;rw [bm.o,<-aX.o]
      show { ju r s b with roots:=s.roots++ [mT (ju r s b).tree r.depth.toNat],past:=s.past++ [pG s b] }=_;rw [aE.o,bE,<-bg.o,aD.o.1,aD.o.2]
     rw [bD];exact⟨rfl,az.o.data⟩
    rw [hcells.1];refine iQ (v:= .tuple #[.agg (ij r (lX r s b) { vx with ba:=af,bc:=K,ra:=ag,rc:=Y }),I0]) ?_ rfl ⟨lX r s b,{ vx with ba:=af,bc:=K,ra:=ag,rc:=Y },by rw [bX.o],λ_=>⟨rfl,hcells.2.keep ((i9 _ _ _).mono λk _ ad=>by have bF:wT SP w.heap.size k:=ad;show k≠_;omega)⟩,below_setRow aC.o.mx UN _⟩;exact ky results41 rfl (kr _ _ _ _ _ _ aC.o.cr) underlying58 rfl UQ
   ·have u0:=(a' (b' (Br U).drew V.o.cx)).1
    go_simp;clear u0;refine z.out _ _ hHeld (λhHeld=> ?_);clear z G;go_simp;refine l8 0 rfl (λG z=> ?_);go_simp;clear hHeld;refine z.out _ _ (D2.of (b' (hd (Br U).drew (.cells #[] 24)) V.o.cx) (by show some (Value.int .i64 r.depth)=_;rw [ah.o]) rfl) (λhHeld=> ?_);clear z G;go_simp;refine l8 3 rfl (λG z=> ?_);refine x3 (r:=ib) (B:=U.heap.size) (w0:=U) (v:= .slice (some ⟨U.drew.heap.size,0,none⟩) 0 0) (u:= .slice vx.ra x.roots.length vx.rc) rfl _ _ rfl iX (Plain.int .u64) rfl rfl (TB _) bo.o (g9 _) b6.o cf.o (by have:=bx.o;omega) UN ?_;intro bB aN c8 a1 aZ;obtain⟨bv,av⟩:=ik a1 aZ;clear a1 aZ hHeld;refine z.out _ _ (D2.of (b' av.o V.o.cx) (by show some (Value.int .i64 r.depth)=_;rw [ah.o]) rfl) (λhHeld=> ?_);clear z G;go_simp;refine l8 9 rfl (λG z=> ?_);go_simp;refine(vE _ _ D (by have:=bn.o;omega) vx.la vx.lc x.leaves (V.o.c' av.o).data.leaves br.o).mono ?_;rw [ce.o];rintro e c9⟨rfl,aJ⟩;obtain⟨bw,aA⟩:=ik (bv.o.c' aJ) (av.o.trans (aJ.mono av.o.size));clear aJ hHeld;refine z.out _ _ (D2.of (b' aA.o V.o.cx) (by show some (Value.int .i64 r.depth)=_;rw [ah.o]) rfl) (λhHeld=> ?_);clear z G;go_simp;refine l8 10 rfl (λG z=> ?_);go_simp;clear hHeld;refine z.out _ _ (D2.of (b' (hd aA.o (.cells #[aG] 24)) V.o.cx) (by show some (Value.int .i64 r.depth)=_;rw [ah.o]) rfl) (λhHeld=> ?_);clear z G;go_simp;refine l8 11 rfl (λG z=> ?_);refine ts (r:=ib) (B:=U.heap.size) (w0:=U) (v:= .slice bB x.roots.length aN) (y:=aG) (cs:= [U2 aG]) (S:=λ_=>True) rfl _ _ rfl iX (Plain.int .u64) rfl rfl bg.o aA.o (g9 _) bw.o ⟨rfl,D5 bz.o⟩ (by have:=cj.o;omega) UN ?_;intro ag Y wa a0 aY;obtain⟨ab,aU⟩:=ik (V.o.c' aY) a0.slice;clear a0 aY hHeld;refine z.out _ _ (D2.of ab.o.cx (by show some (Value.int .i64 r.depth)=_;rw [ah.o]) rfl) (λhHeld=> ?_);clear z G;go_simp;refine kL 12 ?_;go_simp;refine l8 13 rfl (λG z=> ?_);obtain⟨a3,au⟩:=a' ab.o.cx;simp only [ij]at a3;go_simp;refine z.out _ _ (D2.of (h6 ab.o.cx) (by show some (Value.int .i64 r.depth)=_;rw [ah.o]) rfl) (λhHeld=> ?_);clear z G hHeld;go_simp;refine mA UQ ?_ _
    (try simp only [Exit.then])
    have ak:=V.o.size;have az:=Hd (ab.o.store (x2:= { x with book:=aj,past:=x.past++ [pG s b],roots:=Z }) (JZ:= { vx with ba:=af,bc:=K,ra:=ag,rc:=Y }) 14 (.slice ag Z.length Y) rfl ⟨ab.o.data.leaves,ab.o.data.marks,ab.o.data.book,ab.o.data.hidden,gZ.mono aU.o λk _ ad=> .inr (iu ak ad)⟩);generalize wa.setCell ⟨w.heap.size+3,14,none⟩ (.slice ag Z.length Y)=wb at*;have aC:=Hd az.o.fr;clear ak a3 au ab aU V
    go_wp2_with (first
     |(refine kf rfl _ _ rfl (w.heap.size+3) rfl _ _ _ _ az.o.cx underlying58 rfl UQ ?_)
     |(refine kI rfl _ _ _ rfl (w.heap.size+2) _ rfl rfl _ _ aC.o.cr UQ rfl UQ ?_))
    (try simp only [Exit.inBlock,Exit.then])
    have hcells:ij r { x with book:=aj,past:=x.past++ [pG s b],roots:=Z } { vx with ba:=af,bc:=K,ra:=ag,rc:=Y }=ij r (lX r s b) { vx with ba:=af,bc:=K,ra:=ag,rc:=Y }/\nc (wT SP w.heap.size) wb (lX r s b) { vx with ba:=af,bc:=K,ra:=ag,rc:=Y }:=by
     have bD:lX r s b= { x with book:=aj,past:=x.past++ [pG s b],roots:=Z }:=by
      have bE:ju r s b= { x with book:=aj }:=by
       show { om s b.hQ with book:=(ju r s b).book }=_;rw [bm.o,<-aX.o]
      show { ju r s b with roots:=s.roots++ [mT (ju r s b).tree r.depth.toNat],past:=s.past++ [pG s b] }=_;rw [aE.o,bE,<-bg.o,aD.o.1,aD.o.2]
     rw [bD];exact⟨rfl,az.o.data⟩
    rw [hcells.1];refine iQ (v:= .tuple #[.agg (ij r (lX r s b) { vx with ba:=af,bc:=K,ra:=ag,rc:=Y }),I0]) ?_ rfl ⟨lX r s b,{ vx with ba:=af,bc:=K,ra:=ag,rc:=Y },by rw [bX.o],λ_=>⟨rfl,hcells.2.keep ((i9 _ _ _).mono λk _ ad=>by have bF:wT SP w.heap.size k:=ad;show k≠_;omega)⟩,below_setRow aC.o.mx UN _⟩;exact ky results41 rfl (kr _ _ _ _ _ _ aC.o.cr) underlying58 rfl UQ
end Go.Proofs.YtjdiofjjoefnhaaGreatDoor
