/- The state of a chain of the program: the transactions of a block. -/
import Derived.Test.YtjdiofjjoefnhaaGreatDoorPoC
set_option maxRecDepth 100000
set_option maxHeartbeats 4000000
namespace Go.Proofs.YtjdiofjjoefnhaaGreatDoor
open Tryz Go.ChangeShapes Go.WideShapes Go.ChangeAt Go.RowKit Go.Sort
theorem xX: ∀(l m:List jO) (s:j8),om s (l++m)=om (om s l) m
 | [],_,_=>rfl
 |t::l,m,s=>xX l m (kD s t)
theorem uA (r:i4): ∀(l m:List jO) (s:j8),mF r s l=0->mF r s (l++m)=mF r (om s l) m
 | [],_,_,_=>rfl
 |t::l,m,s,h=>by
  have j:(if h7 r s t=0 then (if jA s t=0 then mF r (kD s t) l else jA s t)else h7 r s t)=0:=h;show(if h7 r s t=0 then (if jA s t=0 then mF r (kD s t) (l++m)else jA s t)else h7 r s t)=_;split at j
  ·rename_i h1
   split at j
   ·rename_i h2
    rw [g7 h1,g7 h2];exact uA r l m (kD s t) j
   ·rename_i h2;exact absurd j h2
  ·rename_i h1;exact absurd j h1
theorem vG: ∀(l m:List jO) (f:Int),nD f (l++m)=nD (nD f l) m
 | [],_,_=>rfl
 |t::l,m,f=>vG l m (jh (f+t.jn))
theorem DP (l:List jO)(t:jO):mZ (l++ [t])=mZ l++t.marks:=by unfold mZ;rw [List.flatMap_append];simp
structure tS (r:i4)(N:Nat)(s0:j8)(l:List jO)(s:j8)(m:List Int):Prop where
 part:Part s0 s m
 ok:nm r s (N+4*l.length)
 err:mF r s0 l=0
 st:s=om s0 l
 ON:m=mZ l
 len:m.length<=4*l.length
theorem tS.zero {r:i4}{N:Nat}{s0:j8}(h:nm r s0 N):tS r N s0 [] s0 []:=⟨Part.refl _,h,rfl,rfl,rfl,US⟩
theorem tS.next {r:i4}{N:Nat}{s0 s:j8}{l:List jO}{m:List Int}(h:tS r N s0 l s m){t:jO}(j:h7 r s t=0)(u:jA s t=0)(y: ∀o∈t.outs,0<=o.g6):tS r N s0 (l++ [t]) (kD s t) (m++t.marks):=by
 refine⟨Al h.part j,?_,?_,?_,?_,?_⟩
 ·have:=xm h.ok j y
  rw [U3,TF,Nat.mul_add];exact this
 ·rw [uA r l [t] s0 h.err,<-h.st]
  show(if h7 r s t=0 then (if jA s t=0 then (0:Int)else jA s t)else h7 r s t)=0;rw [g7 j,g7 u]
 ·rw [xX,<-h.st];rfl
 ·rw [DP,<-h.ON]
 ·have h1:=(na (mv (lQ j).1).1).1
  have h2:=h.len;rw [U3,U3,TF];omega
theorem tS.check {r:i4}{N:Nat}{s0 s:j8}{l:List jO}{m:List Int}(h:tS r N s0 l s m){t:jO}(rest:List jO)(j:h7 r s t≠0):mF r s0 (l++t::rest)=h7 r s t:=by
 rw [uA r l (t::rest) s0 h.err,<-h.st];exact g3 j
theorem tS.PL {r:i4}{N:Nat}{s0 s:j8}{l:List jO}{m:List Int}(h:tS r N s0 l s m){t:jO}(rest:List jO)(j:h7 r s t=0)(u:jA s t≠0):mF r s0 (l++t::rest)=jA s t:=by
 rw [uA r l (t::rest) s0 h.err,<-h.st];exact(g7 j).trans (g3 u)
theorem yZ {r:i4}{s0:j8}{b:hV}(h:mF r s0 b.hQ≠0):mI r s0 b=mF r s0 b.hQ:=g3 h
def MV (p q:Nat)(I:UO)(v:p2)(u:UP)(w:World)(r:i4)(N:Nat)(s0:j8)(b:hV)(ta ba:UP)(tc bc:Nat)(w':World):Prop:=
 ∃(s':j8) (j:List Int),Part s0 s' j/\nm r s' (N+400)/\j.length<=300/\(mI r s0 b=0->s'=ju r s0 b/\j=mZ b.hQ)/\LU p q I v u w r s0 s' j ta ba tc bc w'
theorem nm.more {r:i4}{s:j8}{n n':Nat}(h:nm r s n)(j:n<=n'):nm r s n':=⟨h.tree,h.count,h.leaves,iu h.marks j,h.up,iu h.book j,h.hidden,h.roots⟩
theorem CQ {S:UO}{w:World}{t:jO}{ma oa pa:UP}{mc oc pc:Nat}(h:ks S w t ma oa pa mc oc pc): ∀o∈t.outs,0<=o.g6:=by
 intro o y;obtain⟨j,u,rfl⟩:=TH y;obtain⟨_,_,_,_,_,_,_,z,_⟩:=mp h.outs j u;exact(iE z).1
theorem DG (p q:Nat)(I:UO)(w:World)(r:i4)(hr:oo r)(s0:j8)(v:p2)(ta ad ba:UP)(tc bE bc:Nat)(h:vQ p q I w r s0 s0 [] v ta ad ba tc bE bc)(N:Nat)(ok:nm r s0 N)(cp:N<=80000)(cf:s0.past.length<=100000)(S:UO)(b:hV)(xa:UP)(xc:Nat)(aT:i7 S w b xa xc)(cq:b.hQ.length<=64)(bo: ∀k,S k-> ¬iw p v k/\k≠q/\iT ad≠some k):
 Calls prog 79 #[.pointer (some ⟨p,0,none⟩),.agg (jI b xa xc),.pointer (some ⟨q,0,none⟩)] w λe w'=>e= .returned (UZ (mI r s0 b))/\MV p q I v ad w r N s0 b ta ba tc bc w':=by
 have az:=jc w (.cells (jI b xa xc) 44);have bj:=Hd (gY w (.cells (jI b xa xc) 44));have b4:=Hd (h.c' az);have b0:Hi (my.rel (λk=>S k/\k<w.heap.size) (w.alloc (.cells (jI b xa xc) 44)) [.slice xa b.hQ.length xc] b.hQ):=my.c' (my.bound aT.hQ) az;have ax:Hi (kq p q I v ad w I v ad (w.alloc (.cells (jI b xa xc) 44))):=kq.below az;have bk:Hi ((w.alloc (.cells (jI b xa xc) 44)).heap.size=w.heap.size+1):=U4 ..;have bJ:Hi (¬iw p v w.heap.size/\w.heap.size≠q/\iT ad≠some w.heap.size):=by
  refine⟨λaq=> ?_,λe=> ?_,λe=> ?_⟩
  ·have:=h.at'.ki _ aq;omega
  ·have:=ii h.Gw;omega
  ·obtain⟨cur,z⟩:=kU h.own e;have:=ii z;omega
 obtain⟨bP,bU⟩:=ik ok hr;have aw:Hi (∀k,(S k/\k<w.heap.size)-> ¬iw p v k/\k≠q/\iT ad≠some k):=λk V=>bo k V.1;have bL:=Hd aT.hJ;clear az h aT ok bo hr;go_in;go_upto_region 1 with(fail);generalize w.alloc (.cells (jI b xa xc) 44)=W at*;obtain⟨ah,ai⟩:=a' bj.o;go_wp2;go_loopw [7,17] (λck a0 wr=> ∃(k:Nat) (s:j8) (m:List Int) (I':UO) (v':p2) (U:UP) (ak:Nat),k<=b.hQ.length/\a0= UZ k/\ck= U2 (nD 0 (b.hQ.take k))/\Hi (tS r N s0 (b.hQ.take k) s m)/\Hi (vQ p q I' wr r s0 s m v' ta U ba tc ak bc)/\Hi (kq p q I v ad W I' v' U wr)) (λ_ a0 _=>b.hQ.length-(intOf a0).toNat)
 case atStart=>exact⟨0,s0,[],I,v,ad,bE,iy _,rfl,rfl,tS.zero bP.o,b4,kq.refl _ _ _ _ _ _⟩
 case round=>
  obtain⟨k,s,m,I',v',U,ak,V,rfl,rfl,j,u,af⟩:=hrel;have bZ:Hi (∀k,(S k/\k<w.heap.size)-> ¬iw p v' k/\k≠q/\iT U≠some k):=λk V=>by
   refine⟨λaq=> ?_,(aw.o k V).2.1,λe=> ?_⟩
   ·rcases af.o.turn k aq with h1|h1
    ·exact(aw.o k V).1 h1
    ·have:=bk.o;omega
   ·rcases af.o.mm k e with h1|h1
    ·exact(aw.o k V).2.2 h1
    ·have:=bk.o;omega
  have bv:(b.hQ.take k).length=k:=(by rw [Tq];omega);by_cases hlt:k<b.hQ.length
  ·have bi:=Hd (my.keep b0.o (af.o.kept.mono λk _ V=>aw.o k V))
   obtain⟨co,off,ma,oa,pa,mc,oc,pc,cg,cd,ht,c0,c1,c2,ay,b6,b7,b8,K,aP,b9⟩:=oq bi.o k hlt;subst cg;have bB:b.hQ=b.hQ.take k++b.hQ[k]::b.hQ.drop (k+1):=by
    have h1:=Tp k b.hQ;rw [TU hlt]at h1;exact h1.symm
   have aZ:b.hQ.take (k+1)=b.hQ.take k++ [b.hQ[k]]:=z4 hlt;generalize b.hQ[k]=t at*;obtain⟨bg,bY⟩:=ik bB aZ;have bq:nD 0 (b.hQ.take (k+1))=jh (nD 0 (b.hQ.take k)+t.jn):=(by rw [aZ,vG];rfl);have a4:=Hd bq;have av:Hi (N+4*(b.hQ.take k).length<=80300/\m.length<=300):=by
    show _/\_;have h1:=j.o.len;rw [bv]at h1⊢;exact⟨UN,UN⟩
   have bR:Hi (s.past.length<=100000):=Hd (by rw [j.o.part.past];exact cf);have bh:=Hd ht;have bw:=CQ ht;have a8:=Hd bw;obtain⟨fs,aW⟩:=iF (nD 0 (b.hQ.take k));rw [aW]at a4;generalize ce:b.hQ.take k=cu at*;clear bq bB aZ ht bw ce;rw [aW];clear aW;go_upto_region 5 with(fail);have aA:=jc wr (.cells (jQ t ma mc oa oc pa pc) 87);have aJ:=Hd (gY wr (.cells (jQ t ma mc oa oc pa pc) 87));obtain⟨aK,bb,aN⟩:=kT (u.o.c' aA) (af.o.trans (kq.below aA)) (bh.o.c' aA);have bG:Hi (¬iw p v' wr.heap.size/\wr.heap.size≠q/\iT U≠some wr.heap.size):=by
    refine⟨λaq=> ?_,λe=> ?_,λe=> ?_⟩
    ·have:=u.o.at'.ki _ aq;omega
    ·have:=ii u.o.Gw;omega
    ·obtain⟨cur,z⟩:=kU u.o.own e;have:=ii z;omega
   clear aA u af bh ah ai c0 c1 c2 ay b6 b7 b8 K aP b9 bi cd;generalize wr.heap.size=B1 at*;generalize wr.alloc (.cells (jQ t ma mc oa oc pa pc) 87)=w1 at*;obtain⟨ah,ai⟩:=a' aJ.o;go_wp2_with fail;refine UR (DF p I' w1 r s v' aK.o.at' bU.o _ j.o.ok (by have:=av.o.1;omega) bR.o _ t ma oa pa mc oc pc aN.o) λw2 hb2=> ?_;obtain⟨a6,be,b1,a5⟩:=oX (aK.o.c' hb2) (bb.o.trans (kq.below hb2)) (aN.o.c' hb2) (b' hb2 aJ.o);clear hb2 ah ai aK bb aN aJ;by_cases z:h7 r s t=0
   ·rw [z]
    have HC:=Hd z;clear z;obtain⟨ah,ai⟩:=a' a5.o;go_wp2_with fail;refine(DI p q I' w2 r s0 s m v' ta U ba tc ak bc a6.o _ j.o.ok (by have:=av.o.1;omega) (by have:=av.o.2;omega) _ t ma oa pa mc oc pc b1.o bZ.o HC.o).mono ?_;rintro e cv⟨rfl,bm,bF,bn,ay,bC,aY⟩;obtain⟨a7,bf,bN⟩:=kT bC (be.o.trans aY) (hE aY.kept a5.o bG.o);clear bC aY ah ai;by_cases ab:jA s t=0
    ·rw [ab]
     have bM:=Hd (j.o.next HC.o ab a8.o);clear ab;obtain⟨ah,ai⟩:=a' bN.o;go_wp2;go_roundw
     case rel=>exact⟨k+1,kD s t,m++t.marks,bm,bF,bn,ay,UN,by go_num,by rw [a4.o],by rw [bY.o];exact bM,a7,bf⟩
     case measure=>exact UY
    ·have ae:Hi (mF r s0 b.hQ=jA s t):=by show _=_;rw [bg.o];exact j.o.PL _ HC.o ab
     have al:Hi (mI r s0 b=jA s t):=Hd (by rw [yZ (by rw [ae.o];exact ab),ae.o]);have ao:=Hd ab;have aC:(jA s t==0)=false:=(by rw [je];exact ab);have aD:(jA s t != 0)=true:=(by rw [iB];exact ab);obtain⟨y,hy⟩:=iF (jA s t);have aO:=Hd hy;rw [hy]at aC aD⊢;clear hy ab;go_wp2;go_ret;exact⟨g2 (by rw [al.o,aO.o]),kD s t,m++t.marks,Al j.o.part HC.o,(xm j.o.ok HC.o a8.o).more (by have:=bv;omega),by have h1:=(na (mv (lQ HC.o).1).1).1;have h2:=j.o.len;rw [U3];omega,λh=>absurd (al.o.symm.trans h) ao.o,bm,bF,bn,ay,a7.o,ax.o.trans bf.o⟩
   ·have ae:Hi (mF r s0 b.hQ=h7 r s t):=by show _=_;rw [bg.o];exact j.o.check _ z
    have al:Hi (mI r s0 b=h7 r s t):=Hd (by rw [yZ (by rw [ae.o];exact z),ae.o]);have ao:=Hd z;have aC:(h7 r s t==0)=false:=(by rw [je];exact z);have aD:(h7 r s t != 0)=true:=(by rw [iB];exact z);obtain⟨y,hy⟩:=iF (h7 r s t);have aO:=Hd hy;rw [hy]at aC aD⊢;clear hy z;go_wp2;go_ret;exact⟨g2 (by rw [al.o,aO.o]),s,m,j.o.part,j.o.ok.more UN,by have:=av.o.2;omega,λh=>absurd (al.o.symm.trans h) ao.o,I',v',U,ak,a6.o,ax.o.trans be.o⟩
  ·obtain rfl:k=b.hQ.length:=UN
   rw [Sw]at j⊢;have aj:=Hd (hE af.o.kept bj.o bJ.o);obtain⟨ah,ai⟩:=a' aj.o;have ae:Hi (mI r s0 b=kV s.book b.hJ (jh (r.iz+nD 0 b.hQ))):=Hd (by unfold mI;rw [g7 j.o.err,<-j.o.st]);have a2:Hi (ju r s0 b=⟨s.tree,s.leaves,s.marks,jH s.book b.hJ (jh (r.iz+nD 0 b.hQ)),s.hidden,s.roots,s.past⟩):=(by show ju r s0 b=_;unfold ju;rw [<-j.o.st]);have bO:Hi (iZ (jh (r.iz+nD 0 b.hQ))):=sA _;generalize nD 0 b.hQ=fs at*
   have bI:Hi (s.book.length<=100000):=Hd (by have h1:=j.o.ok.book;omega);obtain⟨G,aU⟩:=iF (jH s.book b.hJ (IntKind.u64.wrap (r.iz+fs)));obtain⟨ap,aV⟩:=iF (kV s.book b.hJ (IntKind.u64.wrap (r.iz+fs)));have aE:Hi (mI r s0 b=ap):=ae.o.trans aV;have aG:Hi (ju r s0 b=⟨s.tree,s.leaves,s.marks,G,s.hidden,s.roots,s.past⟩):=Hd (by rw [a2.o,<-aU]);obtain⟨a1,bK⟩:=ik aU aV;clear ae a2 aU aV;go_upto_region 13 with(fail);go_cut [12,13]from 14 (λch cj wc=> ∃b a c,ch= .pointer (some ⟨b,0,none⟩)/\cj= UZ ap/\Hi (wc.heap[b]? =some (.cells #[.slice a G.length c] 108 (0,0)))/\Hi (ih.rel (λk=>wr.heap.size<=k) wc [.slice a G.length c] G)/\Hi (BW wr wc))
   case first=>
    go_region_held3 (λw'=>BW wr w'/\(∀o,w'.cell? ⟨p,o,none⟩=(iL r s v')[o]?)/\(∀o,w'.cell? ⟨w.heap.size,o,none⟩=((jI b xa xc):Array Value)[o]?))
     (first
       |with_reducible exact kb.drew (kb.of u.o.at'.cell aj.o (g' _ _))
       |with_reducible exact ag.o
       |with_reducible exact kb.of u.o.at'.cell aj.o (hd ag.o.1 _)
       |exact kb.of u.o.at'.cell aj.o (j4 ag.o.1 (g9 _) _ ag.o.1.size)
       |with_reducible exact kb.drew (kb.of u.o.at'.cell aj.o (hd (g' _ _) _)))
     (first
       |(go_at_call 124;have a3:=Hd (‹BW wr _/\_› :kb (iL r s v') (jI b xa xc) p w.heap.size wr _)
         refine(yT I' _ v'.ba v'.bc s.book (u.o.c' a3.o.1).at'.data.book bI.o j.o.ok.up b.hJ (IntKind.u64.wrap (r.iz+fs)) bL.o bO.o).mono ?_;rw [a1.o,bK.o];rintro e au⟨Y,K,rfl,bx,hb5⟩;obtain⟨ag,a9⟩:=ik (kb.of u.o.at'.cell aj.o (d' a3.o.1 hb5)) bx;clear bx
         first
          |(have aX:au.heap[wr.heap.size]? =_:=b' hb5 (gY wr (.cells #[S0] 108));obtain⟨k0,k1⟩:=a' aX;have HQ:=Hd aX;clear aX)
          |skip))
    ·have aF:=Hd (gY au (.cells #[.slice Y G.length K] 108))
     have aM:=Hd ((ih).mono ((ih).c' a9.o (hd (g' _ _) (.cells #[.slice Y G.length K] 108))) (S':=λk=>wr.heap.size<=k) λk _ h=>h);have aI:=Hd (hd ag.o.1 (.cells #[.slice Y G.length K] 108));go_wp2;go_meet
     case rel=>exact⟨au.heap.size,Y,K,rfl,rfl,aF,aM,aI⟩
    ·have aF:Hi ((au.setCell ⟨wr.heap.size,0,none⟩ (.slice Y G.length K)).heap[wr.heap.size]? =some (.cells #[.slice Y G.length K] 108 (0,0))):=h6 HQ.o
     have aM:=Hd ((ih).mono ((ih).keep a9.o ((h9 au wr.heap.size 0 (.slice Y G.length K)).mono λk _ h=>by have aQ:(wr.alloc (.cells #[S0] 108)).heap.size<=k:=h;rw [U4]at aQ;show k≠_;omega)) (S':=λk=>wr.heap.size<=k) λk _ h=>by have aQ:(wr.alloc (.cells #[S0] 108)).heap.size<=k:=h;rw [U4]at aQ;show _<=k;omega);have aI:=Hd (j4 (i:=0) ag.o.1 (q:=wr.heap.size) (g9 _) (.slice Y G.length K) ag.o.1.size);go_wp2;go_meet
     case rel=>exact⟨wr.heap.size,Y,K,rfl,rfl,aF,aM,aI⟩
   case rest=>
    obtain⟨cn,b5,aP,rfl,rfl,bH,bV,aH⟩:=hcut;have aL:=Hd (u.o.c' aH.o);have br:=aL.o.at'.grow (B:=wr.heap.size) u.o.at'.ki;have bz:=(ih).mono bV.o (S':=λk=>I' k\/(wr.heap.size<=k/\k<wc.heap.size)) λk V h=> .inr ⟨h,V⟩;have bp:=br.xj bz
    have bt:Kept (λk=> ¬iw p v' k) wr (wc.setCell ⟨p,14,none⟩ (.slice b5 G.length aP)):=
     (Kept.of_below aH.o).trans (h9 wc p 14 _) λk _ h e=>h (.inl e)
    obtain⟨bD,bA⟩:=u.o.step bp bt (λ_ h=> .inl h) (λ_ h=> .inl h) (λk h=>h.elim .inl λh=> .inr h.1);obtain⟨bQ,bW⟩:=ik bD (af.o.trans bA);obtain⟨k0,k1⟩:=a' bH.o;obtain⟨cl,cw⟩:=a' aL.o.at'.cell;simp only [iL]at cl;clear br bz bp bt bD bA;by_cases ar:ap=0
    ·subst ar
     have bS:Hi (nm r (ju r s0 b) (N+400)):=by
      show nm _ _ _;rw [aG.o,<-a1.o];exact⟨j.o.ok.tree,j.o.ok.count,j.o.ok.leaves,by have h1:=j.o.ok.marks;show s.marks.length<=_;omega,uc j.o.ok.up _ _,by have h1:=j.o.ok.book;have h2:=s6 s.book b.hJ (IntKind.u64.wrap (r.iz+fs));show(jH _ _ _).length<=_;omega,j.o.ok.hidden,j.o.ok.roots⟩
     have bT:Hi (Part s0 (ju r s0 b) m):=by
      show Part _ _ _;rw [aG.o];exact⟨j.o.part.leaves,j.o.part.marks,j.o.part.nodup,j.o.part.fresh,j.o.part.roots,j.o.part.past⟩
     go_wp2;go_ret;rw [aE.o];exact⟨rfl,ju r s0 b,m,bT.o,bS.o,by have h2:=j.o.len;omega,λ_=>⟨rfl,j.o.ON⟩,_,_,U,ak,by rw [aG.o];exact bQ.o,ax.o.trans bW.o⟩
    ·have aC:(ap==0)=false:=by rw [je];exact ar
     have aD:(ap != 0)=true:=(by rw [iB];exact ar);have ao:=Hd ar;have bX:=Hd (ax.o.trans (af.o.trans (kq.below (p:=p) (q:=q) (I:=I') (v:=v') (ma:=U) aH.o)));clear ar;go_wp2;go_ret;exact⟨g2 aE.o.symm,s,m,j.o.part,j.o.ok.more UN,by have h2:=j.o.len;omega,λh=>absurd (aE.o.symm.trans h) ao.o,I',v',U,ak,aL.o,bX.o⟩
theorem wB (p:Nat)(I:UO)(w:World)(r:i4)(s:j8)(v:p2)(h:jm p I w r s v)(b:sl)(u:Nat)(aY:b.leaves=u)(aF:u<=s.leaves.length)(br:s.leaves.length<=1000000)(bk:s.marks.length<=1000000000)(bm:b.marks.length<=1000000)(ta z ba:UP)(tc G bc:Nat)(a0:gZ.rel I w [.slice ta b.tree.left.length tc] b.tree.left)(aT:ih.rel I w [.slice ba b.book.length bc] b.book)(S:UO)(ah:gZ.rel S w [.slice z b.marks.length G] b.marks)(aP: ∀k,S k-> ¬iw p v k)(aV:iZ b.hidden):
 Calls prog 80 #[.pointer (some ⟨p,0,none⟩),.agg #[UZ b.tree.depth,UZ b.tree.count,.slice ta b.tree.left.length tc,UZ (u:Nat),.slice z b.marks.length G,.slice ba b.book.length bc,b.hidden]] w λe w'=>e= .returned (.tuple #[])/\jm p I w' r (Ca s b) { v with ta:=ta,tc:=tc,ba:=ba,bc:=bc }/\Kept (λk=> ¬iw p v k) w w':=by
 have V:=jc w (.cells #[UZ b.tree.depth,UZ b.tree.count,.slice ta b.tree.left.length tc,UZ (u:Nat),.slice z b.marks.length G,.slice ba b.book.length bc,b.hidden] 145);have ae:=Hd (gY w (.cells #[UZ b.tree.depth,UZ b.tree.count,.slice ta b.tree.left.length tc,UZ (u:Nat),.slice z b.marks.length G,.slice ba b.book.length bc,b.hidden] 145));obtain⟨aw,bf,a4,a9⟩:=oX (h.c' V) (gZ.c' a0 V) ((ih).c' aT V) (gZ.c' ah V);have a7:Hi (Kept (λk=> ¬iw p v k) w (w.alloc (.cells #[UZ b.tree.depth,UZ b.tree.count,.slice ta b.tree.left.length tc,UZ (u:Nat),.slice z b.marks.length G,.slice ba b.book.length bc,b.hidden] 145))):=Kept.of_below V;have ai:Hi (¬iw p v w.heap.size):=λag=>by have:=h.ki _ ag;omega
 obtain⟨be,a6⟩:=ik aP aV;have aM:Hi (Ca s b=⟨b.tree,s.leaves.take u,qt s.marks b.marks,b.book,b.hidden,s.roots,s.past⟩):=by show j8.mk _ _ _ _ _ _ _=_;rw [aY,jJ]
 clear V h a0 aT ah aP aV aY;go_in;go_upto_region 1 with(fail);generalize w.alloc (.cells #[UZ b.tree.depth,UZ b.tree.count,.slice ta b.tree.left.length tc,UZ (u:Nat),.slice z b.marks.length G,.slice ba b.book.length bc,b.hidden] 145)=W at*;have y:=g0 ae.o;have j:=g0 aw.o.cell;simp only [iL]at j;refine hI 6 UQ UQ ?_;simp only [Tr,U6,Ty,Tg]
 repeat (first|go_big_quiet_step (fail)|quiet_step (fail))
 refine lz ?_;intro wq al;clear y j;obtain⟨ax,aJ⟩:=ik (aw.o.c' al) (gZ.c' a9.o al);have aH:Hi (Kept (λk=> ¬iw p v k) W wq):=Kept.of_below al;clear al;go_wp2_with fail;refine(EM v.sb v.mb S wq s.marks ax.o.data.marks z G b.marks aJ.o bm bk (λhh=>be.o _ hh (.inr (.inr (.inl rfl))))).mono ?_;rintro e w2⟨rfl,aZ,aD⟩;have ak:=Hd (ax.o.xn aZ aD);have aq:Hi (Kept (λk=> ¬iw p v k) W w2):=aH.o.trans (aD.mono (S':=λk=> ¬iw p v k) λk _ ag e=>ag (.inr (.inr (.inl e)))) λ_ _ h=>h;obtain⟨mk,ah⟩:=iF (qt s.marks b.marks);rw [ah]at ak aM;clear aZ aD ah ax aJ aH;have aN:=Hd (hE aq.o ae.o ai.o);obtain⟨y,ap⟩:=a' aN.o;obtain⟨j,ab⟩:=a' ak.o.cell;simp only [iL]at j;go_upto_region 3 with(fail);have aU: ∀k,I k-> ¬iw p v k:=λk hi ag=>aw.o.free k ag hi;have az:=ak.o.FZ (gZ.keep bf.o (aq.o.mono λk _=>aU k));have aE:Kept (λk=> ¬iw p v k) W (w2.setCells p 9 [UZ b.tree.depth,UZ b.tree.count,.slice ta b.tree.left.length tc]):=aq.o.trans (i2 w2 (q:=p) (S:=λk=> ¬iw p v k) (λh=>h (.inl rfl)) _ 9) λ_ _ h=>h;obtain⟨bv,ao⟩: ∃bo,bo=w2.setCells p 9 [UZ b.tree.depth,UZ b.tree.count,.slice ta b.tree.left.length tc]:=⟨_,rfl⟩;rw [<-ao]at az aE;simp only [World.setCells,Nat.reduceAdd]at ao;rw [<-ao];obtain⟨U,aj⟩:=ik az aE;clear ao az aE y ap j ab ak aN;have aO:=Hd (hE aj.o ae.o ai.o);have y:=g0 aO.o;have j:=g0 U.o.cell;simp only [iL]at j;have aC:s.leaves.length<=v.lc:=(g4.lens U.o.data.leaves.slice).2.1;have aG:=(g4.lens U.o.data.leaves.slice).2.2.2;have bn:(0:Int)<=(u:Int):=UN
 have a1:(u:Int)<=(s.leaves.length:Int):=UN
 have a2:u<=v.lc:=by have bq:s.leaves.length<=v.lc:=aC;omega
 go_cut [4]from 5 (λbt wc=>Hi (jm p I wc r ⟨b.tree,s.leaves.take u,mk,s.book,s.hidden,s.roots,s.past⟩ { v with ta:=ta,tc:=tc })/\Hi (Kept (λk=> ¬iw p v k) W wc))
 case first=>
  cases Y:v.la with
  |none=>
   have aA:v.lc=0:=aG Y;have aX:s.leaves.length=0:=UN;have bj:u=0:=UN;subst bj;rw [Y,aA,aX]at j;refine hI 8 UQ UQ ?_;simp only [Tr,U6,Ty,Tg]
   repeat (first|go_big_quiet_step (fail)|quiet_step (fail))
   refine lz ?_;intro K af;clear y j;have ad:=Hd (U.o.c' af);have ar:Hi (Kept (λk=> ¬iw p v k) W K):=aj.o.trans (Kept.of_below (S:=λk=> ¬iw p v k) af) λ_ _ h=>h;have bi:=Hd ad.o.cell;obtain⟨j,ab⟩:=a' bi.o;have ay:=Hd (ad.o.Az 0 aF);have au:Hi (Kept (λk=> ¬iw p v k) W (K.setCell ⟨p,12,none⟩ (.slice v.la 0 v.lc))):=ar.o.trans (h9 K p 12 _) λk _ h e=>h (.inl e);have a5:Hi (Value.slice v.la 0 v.lc= .slice none 0 0):=Hd (by rw [Y,aA]);clear aX aA Y aG aC a1 a2 aF;go_wp2;go_meet
   case rel=>rw [<-a5.o];exact⟨ay,au⟩
  |some bp=>
   rw [Y]at j;refine hI 8 UQ UQ ?_;simp only [Tr,U6,Ty,Tg]
   repeat (first|go_big_quiet_step (fail)|quiet_step (fail))
   refine lz ?_;intro K af;clear y j;have ad:=Hd (U.o.c' af);have ar:Hi (Kept (λk=> ¬iw p v k) W K):=aj.o.trans (Kept.of_below (S:=λk=> ¬iw p v k) af) λ_ _ h=>h;obtain⟨j,ab⟩:=a' ad.o.cell;have ay:=Hd (ad.o.Az u aF);have au:Hi (Kept (λk=> ¬iw p v k) W (K.setCell ⟨p,12,none⟩ (.slice v.la u v.lc))):=ar.o.trans (h9 K p 12 _) λk _ h e=>h (.inl e);go_wp2;go_meet
   case rel=>rw [<-Y];exact⟨ay,au⟩
 case rest=>
  obtain⟨aK,av⟩:=hcut;clear y j aO U aj aC aG bn a1 a2;have bg:=Hd (hE av.o ae.o ai.o);obtain⟨y,ap⟩:=a' bg.o;obtain⟨j,ab⟩:=a' aK.o.cell;simp only [iL]at j;go_upto_region 5 with(fail);have aQ:=aK.o.xj ((ih).keep a4.o (av.o.mono λk _=>aU k));have aW:Kept (λk=> ¬iw p v k) W (wc.setCell ⟨p,14,none⟩ (.slice ba b.book.length bc)):=av.o.trans (h9 wc p 14 _) λk _ h e=>h (.inl e);generalize wc.setCell ⟨p,14,none⟩ (.slice ba b.book.length bc)=a3 at*;obtain⟨aL,aI⟩:=ik aQ aW;clear aQ aW y ap j ab;have bh:=Hd (hE aI.o ae.o ai.o);obtain⟨y,ap⟩:=a' bh.o;obtain⟨j,ab⟩:=a' aL.o.cell;simp only [iL]at j;have bb:=Hd (aL.o.Ae b.hidden a6.o);have a8:Hi (Kept (λk=> ¬iw p v k) w (a3.setCell ⟨p,15,none⟩ (U2 b.hidden))):=(a7.o.trans aI.o λk _ h=>h).trans (h9 a3 p 15 _) λk _ h e=>h (.inl e);go_wp2;go_end0;exact⟨rfl,by rw [aM.o];exact bb.o,a8.o⟩
theorem wI {G:Type}{n:Nat}(v:G): ∀(css:List (List G)),(∀cs∈css,cs.length=n)-> ∀i j (_hi:i<css.length) (_hj:j<n),css.flatten.set (i*n+j) v=(css.set i (css[i].set j v)).flatten
 | [],_,i,j,hi,_=>by simp at hi
 |d::css,u,0,j,hi,z=>by
  have y:d.length=n:=u d US;simp only [T4,List.set_cons_zero,List.getElem_cons_zero,Nat.zero_mul,nC];rw [List.set_append,g7 UN]
 |d::css,u,i+1,j,hi,z=>by
  have y:d.length=n:=u d US;have U:i<css.length:=by simpa using hi
  have V:=wI v css (λcs K=>u cs (by simp [K])) i j U z;simp only [T4,List.set_cons_succ,List.getElem_cons_succ];rw [List.set_append,g3 (by rw [y,tC];omega),y,<-V];congr 2;rw [tC];omega
structure mG (e:TypeId)(n:Nat)(w:World)(g cap:Nat)(css:List (List Value)):Prop where
 lens: ∀cs∈css,cs.length=n
 le:css.length<=cap
 cell: ∃cur:Array Value,w.heap[g]? =some (.cells cur e (0,0))/\cur.size=cap*n/\cur.toList.take (css.length*n)=css.flatten
section
variable {e:TypeId} {n:Nat} {w w':World} {g cap:Nat} {css:List (List Value)}
theorem mG.lt (h:mG e n w g cap css):g<w.heap.size:=by obtain⟨cur,j, -⟩:=h.cell;exact ii j
theorem mG.at' (h:mG e n w g cap css)(j:w'.heap[g]? =w.heap[g]?):mG e n w' g cap css:=by
 obtain⟨cur,u,h2⟩:=h.cell;exact⟨h.lens,h.le,cur,j.trans u,h2⟩
theorem mG.keep {S:UO}(h:mG e n w g cap css)(u:Kept S w w')(j:S g):mG e n w' g cap css:=h.at' (u.block g h.lt j)
theorem mG.c' (h:mG e n w g cap css)(j:BW w w'):mG e n w' g cap css:=h.keep (S:=λk=>k<w.heap.size) (Kept.of_below j) h.lt
theorem mG.get (h:mG e n w g cap css)(i j:Nat)(hi:i<css.length)(y:j<n):w.cell? ⟨g,i*n+j,none⟩=some (css[i][j]'(by rw [h.lens _ (z3 hi)];exact y)):=by
 obtain⟨cur,G,h1,h2⟩:=h.cell;have z:=h.lens _ (z3 hi);have u:=pX h.lens i css[i] (by simp [hi]) j (css[i][j]'(by rw [z];exact y)) (by simp [z,y]);rw [<-h2,T9]at u;rw [(a' G).1,<-Array.getElem?_toList];split at u
 ·exact u
 ·simp at u
theorem mG.AY (h:mG e n w g cap css)(i:Nat):w.frozen? ⟨g,i,none⟩=false:=by
 obtain⟨cur,j, -⟩:=h.cell;exact(a' j).2 i
theorem mG.set (h:mG e n w g cap css)(i j:Nat)(hi:i<css.length)(z:j<n)(v:Value):mG e n (w.setCell ⟨g,i*n+j,none⟩ v) g cap (css.set i (css[i].set j v)):=by
 obtain⟨cur,y,h1,h2⟩:=h.cell;have G:=h.lens _ (z3 hi);refine⟨λcs u=> ?_,by rw [TG];exact h.le,cur.setIfInBounds (i*n+j) v,h6 y,by simpa using h1,?_⟩
 ·rcases List.mem_or_eq_of_mem_set u with u|rfl
  ·exact h.lens cs u
  ·rw [TG,G]
 ·rw [Array.toList_setIfInBounds,TG,<-wI v css h.lens i j hi z,<-h2,List.take_set]
end
theorem Own.Ib {α:Type}{r:kS α}{base:Nat}{e:TypeId}{F:UO}{w:World}{v:Value}{xs:List α}(h:Own r base e F w v xs)(ab:0<xs.length):
 ∃g cap css S,v= .slice (some ⟨g,0,none⟩) xs.length cap/\base<=g/\F g/\cap<=maxLen/\mG e r.n w g cap css/\css.length=xs.length/\(∀k,S k->F k/\k<w.heap.size/\k≠g)/\ ∀(i:Nat) (cs:List Value) (x:α),css[i]? =some cs->xs[i]? =some x->r.rel S w cs x:=by
 obtain⟨S,css,y,z,j,hr,Y⟩:=h;rcases Y.2 with⟨rfl,ad⟩|⟨g,cap,cur,rfl,U,V,h1,h2,G,K⟩
 ·omega
 ·exact⟨g,cap,css,S,rfl,U,(z g rfl).2,h2,⟨qj j hr,by rw [j];exact h1,cur,V,G,by rw [j];exact K⟩,j,
   λk u=>⟨(y k u).1,(y k u).2,λe=>(z g rfl).1 (e▸u)⟩,hr⟩
theorem mG.slice {α:Type} {r:kS α} {e:TypeId} {F:UO} {w:World} {g cap:Nat} {css:List (List Value)} {xs:List α} (h:mG e r.n w g cap css) (z:cap<=maxLen) (V:css.length=xs.length)
 (hr: ∀(i:Nat) (cs:List Value) (x:α),css[i]? =some cs->xs[i]? =some x->r.rel F w cs x) (y:F g):(g4 r).rel F w [.slice (some ⟨g,0,none⟩) xs.length cap] xs:=by
 have Y:=h.le;refine⟨_,_,_,rfl,rfl,UN,z,λh=>by simp at h,λi x u=> ?_⟩;have hi:i<xs.length:=(TI.1 u).1;have G:css[i]? =some (css[i]' UN):=by simp [V,hi]
 refine⟨g,0,css[i]' UN,rfl,y,hr i _ x G u,λj c K=> ?_,h.lt⟩;obtain⟨U,rfl⟩:=TI.1 K;have:=h.get i j UN (by rw [<-h.lens _ (z3 (show i<css.length by omega))];exact U);simpa using this
def xy (p:Nat)(I:UO)(v:p2)(w:World)(r:i4)(s':j8)(w':World):Prop:=
 ∃(I':UO) (v':p2),jm p I' w' r s' v'/\Kept (λk=> ¬iw p v k) w w'/\(∀k,iw p v' k->iw p v k\/w.heap.size<=k)/\ ∀k,I' k->I k\/iw p v k\/w.heap.size<=k
theorem xy.of_below {p:Nat}{I:UO}{v:p2}{w w':World}{r:i4}{s:j8}(h:jm p I w r s v)(j:BW w w'):xy p I v w r s w':=
 ⟨I,v,h.c' j,Kept.of_below j,λ_ h=> .inl h,λ_ h=> .inl h⟩
theorem yJ {r:i4}{s:j8}{n:Nat}(h:nm r s n):s.leaves.length<=1000000:=by
 have h1:=h.count;have h2:=h.tree.c1;obtain⟨-, -,j⟩:=pL ⟨r.depth.toNat,by have:=h.tree.d1;omega⟩;simp only at j;omega
theorem MJ:jj prog 109 145 7 104:=jj.of underlying109 (z:= .agg #[I0,I0,S0,I0,S0,S0,U0]) UQ rfl UN
theorem jm.more {p:Nat}{I I2:UO}{w:World}{r:i4}{s:j8}{v:p2}(h:jm p I w r s v)(h2: ∀k,I2 k-> ¬iw p v k/\k<w.heap.size):jm p (λk=>I k\/I2 k) w r s v:=
 ⟨h.cell,h.data.mono λ_=> .inl,h.apart,λk u hi=>hi.elim (h.free k u) λj=>(h2 k j).1 u,λk hi=>hi.elim (h.lt k) λj=>(h2 k j).2⟩
def M0 (r:i4)(s:j8)(b:hV):j8:=if jF r s b=0 then lX r s b else s
theorem Et {r:i4}{s:j8}{b:hV}(h:jF r s b=0):M0 r s b=lX r s b:=g7 h
theorem Bm {r:i4}{s:j8}{b:hV}(h:jF r s b≠0):M0 r s b=s:=g3 h
theorem HH (p:Nat)(I:UO)(w:World)(r:i4)(hr:oo r)(s:j8)(v:p2)(h:jm p I w r s v)(N:Nat)(ok:nm r s N)(cy:N<=80000)(cQ:s.past.length<=10000)(S:UO)(b:hV)(xa:UP)(xc:Nat)(ap:i7 S w b xa xc)(cz:b.hQ.length<=64)(bL: ∀k,S k-> ¬iw p v k):
 Calls prog 32 #[.pointer (some ⟨p,0,none⟩),.agg (jI b xa xc)] w λe w'=>e= .returned (UZ (jF r s b))/\xy p I v w r (M0 r s b) w':=by
 have a6:=jc w (.cells (jI b xa xc) 44);have bH:=Hd (gY w (.cells (jI b xa xc) 44));obtain⟨bg,bD⟩:=ik (h.c' a6) h;have bF:Hi (i7 (λk=>S k/\k<w.heap.size) (w.alloc (.cells (jI b xa xc) 44)) b xa xc):=i7.c' ⟨ap.parent,ap.f',ap.hJ,ap.work,ap.e',my.bound ap.hQ⟩ a6;obtain⟨bx,a4,cf,ch,cM⟩:=zL a6 ok hr bL (xP ap.f');have a5:Hi (jF r s b=if b.f'=s.past.length+1 then (if b.hJ<18446744069414584321 then mI r s b else 1)else 18):=rfl;have cn:=Hd h.data.marks.set.up;clear a6 h ap ok bL hr;go_in;go_upto_region 1 with(fail);generalize w.alloc (.cells (jI b xa xc) 44)=W at*;have al:=g0 bH.o;have ag:=g0 bg.o.cell;simp only [iL]at ag;have cN:wrap64 ((s.past.length:Int)+1)=(s.past.length:Int)+1:=by unfold wrap64;omega
 by_cases hh:b.f'=s.past.length+1
 ·have bm:=Hd (a5.o.trans (g7 hh))
  have a1:(b.f'==(s.past.length:Int)+1)=true:=(by rw [iO];exact hh);have cI:(b.f' != (s.past.length:Int)+1)=false:=(by rw [jt];exact hh);clear hh a5;go_wp2;refine m6 ?_
  repeat (first|go_big_quiet_step (fail)|quiet_step (fail))
  refine lz ?_;intro w1 aW;clear al ag;obtain⟨ai,bo⟩:=ik (d' bx.o aW) aW;clear aW;have bp:=Hd (b' bo.o bH.o);obtain⟨al,aH⟩:=a' bp.o;by_cases G:b.hJ<18446744069414584321
  ·have bn:=Hd (bm.o.trans (g7 G))
   have cJ:decide (18446744069414584321<=b.hJ)=false:=iH UN;have aF:=Hd (bg.o.c' bo.o);obtain⟨ag,a0⟩:=a' aF.o.cell;simp only [iL]at ag;clear G bm;go_upto_region 7 with(fail);go_cut [5]from 7 (λbv wc=> ∃q,bv= .pointer (some ⟨q,0,none⟩)/\w1.heap.size<=q/\Hi (wc.heap[q]? =some (.cells (lZ s [] v.ta none v.ba v.tc 0 v.bc) 145 (0,0)))/\Hi (BW w1 wc))
   case first=>
    have a7:=λo'=>(a' (iq (o':=o') aF.o.cell)).1;have bU:=λo'=>(a' (iq (o':=o') bp.o)).1;simp only [iL]at a7;go_region;have ah:BW w1 (w1.alloc (.cells (lZ s [] v.ta none v.ba v.tc 0 v.bc) 145)).drew:=(hd (g' _ _) _).drew;have bV:=Hd ah;have bW:Hi ((w1.alloc (.cells (lZ s [] v.ta none v.ba v.tc 0 v.bc) 145)).drew.heap[w1.heap.size]? =some (.cells (lZ s [] v.ta none v.ba v.tc 0 v.bc) 145 (0,0))):=gY w1 _;clear ah;go_wp2;go_meet
    case rel=>exact⟨w1.heap.size,rfl,g9 _,bW,bV⟩
   case rest=>
    obtain⟨q,rfl,cR,HQ,aj⟩:=hcut;obtain⟨co,bG,aO⟩:=kT (b' aj.o bp.o) ((bF.o.c' bo.o).c' aj.o) (aF.o.c' aj.o)
    have bE:Hi (vQ p q I wc r s s [] v v.ta none v.ba v.tc 0 v.bc):=
     ⟨aO.o,HQ.o,aO.o.data.tree,aO.o.data.book,aO.o.data.hidden,Own.nil _ _ _ _ _,λG=>by have:=aF.o.ki q G;omega,λhi=>by have:=aF.o.lt q hi;omega,λk e=>by simp at e,λk e=>by simp at e⟩
    have cl:Hi (∀k,(S k/\k<w.heap.size)-> ¬iw p v k/\k≠q/\iT none≠some k):=λk af=>⟨ch.o k af.1,by have:=ai.o.size;omega,US⟩;obtain⟨al,aH⟩:=a' co.o;clear ag a0;go_wp2_with fail;refine(DG p q I wc r cf.o s v v.ta none v.ba v.tc 0 v.bc bE.o N a4.o cy UN _ b xa xc bG.o cz cl.o).mono ?_;rintro e j⟨rfl,s',bR,bO,br,cP,hgood,ax,Y,V,ao,bQ,bP⟩;obtain⟨U,ab,aG⟩:=kT bQ bP bO;clear bQ bP bO al aH;by_cases aq:mI r s b=0
    ·obtain⟨rfl,rfl⟩:=hgood aq
     have aJ:Hi (jF r s b=0):=bn.o.trans aq;rw [aq];have bk:Hi (zf s.tree.depth/\zf s.tree.count/\zf (s.leaves.length:Int)):=by
      have h1:=a4.o.tree;obtain⟨-, -,cv⟩:=pL ⟨r.depth.toNat,by have:=h1.d1;omega⟩;simp only at cv;have h2:=h1.c0;have ad:=h1.c1;have z:=h1.depth;have ae:=h1.d1;have cO:=a4.o.count;exact⟨nw UN UN,nw UN UN,nw UN UN⟩
     clear aq hgood bn;have cd:=Hd br;have a9:Hi (lX r s b=⟨(ju r s b).tree,(ju r s b).leaves,(ju r s b).marks,(ju r s b).book,(ju r s b).hidden,(ju r s b).roots++ [mT (ju r s b).tree r.depth.toNat],(ju r s b).past++ [pG s b]⟩):=by
      show _=_;rw [aG.o.roots,aG.o.past];rfl
     have a3:Hi ((ju r s b).past.length<=10000/\(ju r s b).roots.length<=10001):=by
      have h1:=a4.o.roots;show _/\_;rw [aG.o.roots,aG.o.past];exact⟨UN,UN⟩
     have aC:=U.o.at'.more (I2:=λk=>iT V=some k) (λk e=>⟨U.o.m1 k e,by obtain⟨cur,cA⟩:=kU U.o.own e;exact ii cA⟩)
     have hrel:sh.rel (λk=>ax k\/iT V=some k) j (lZ s (mZ b.hQ) v.ta V v.ba v.tc ao v.bc).toList (pG s b):=
      sh.mk (b:=pG s b) ⟨bk.o.1,bk.o.2.1,gZ.mono U.o.tree λ_ _ h=> .inl h,bk.o.2.2,gZ.mono U.o.own.slice λ_ _ h=> .inr h,(ih).mono U.o.book λ_ _ h=> .inl h,U.o.hidden⟩
     generalize ju r s b=K at*;have ah:BW j j.drew:=(g' _ _).drew;obtain⟨aw,aP⟩:=ik aC (aC.c' ah);obtain⟨b4,ce⟩:=ik aP.o.data.past (b' ah U.o.Gw)
     have cj:Hi (Src sh (λk=>ax k\/iT V=some k) (j.drew.alloc (.cells (lZ s (mZ b.hQ) v.ta V v.ba v.tc ao v.bc) 145)) (.slice (some ⟨j.drew.heap.size,0,none⟩) 1 1) [pG s b]):=
      Src.one (sh.c' hrel (hd ah _)) (jx.new j.drew (lZ s (mZ b.hQ) v.ta V v.ba v.tc ao v.bc).toList 145)
     have a2:Hi (BW j (j.drew.alloc (.cells (lZ s (mZ b.hQ) v.ta V v.ba v.tc ao v.bc) 145))):=hd ah _;obtain⟨ag,a0⟩:=a' aP.o.cell;have a7:=λo'=>(a' (iq (o':=o') aw.o.cell)).1;have bU:=λo'=>(a' (iq (o':=o') U.o.Gw)).1;obtain⟨al,aH⟩:=a' ce.o;simp only [iL]at ag a7;clear ah aC hrel bF bG bE aF aO HQ bg;go_upto_region 12 with(fail);go_cut [4]from 5 (λcT wc=> ∃(I':UO) (v':p2),Hi (jm p I' wc r ⟨K.tree,K.leaves,K.marks,K.book,K.hidden,K.roots,K.past++ [pG s b]⟩ v')/\Hi (Kept (λk=> ¬iw p Y k) j wc)/\Hi (∀k,iw p v' k->iw p Y k\/j.heap.size<=k)/\Hi (∀k,I' k->ax k\/iT V=some k\/iw p Y k\/j.heap.size<=k))
     case first=>
      go_region_law (first
       |(refine iV (r:=sh) (base:=0) (v:= .slice Y.pa K.past.length Y.pc) (u:= .slice (some ⟨j.drew.heap.size,0,none⟩) 1 1) (S:=λk=>ax k\/iT V=some k) rfl _ _ rfl MJ rfl rfl (Own.c' b4.o (hd (g' _ _) (.cells (lZ s (mZ b.hQ) v.ta V v.ba v.tc ao v.bc) 145))) cj.o (λ_ _ af=> .inl af) (λk e hi=>aw.o.free k (.inr (.inr (.inr (.inr (.inr (by rw [lM]at e;exact e)))))) hi) (by have:=a3.o;unfold maxLen;simp;omega) (by have:=a3.o;simp;omega) (iy _) ?_
         intro bv aD aA aX aY;obtain⟨aQ,aT,rfl, -, -⟩:=iW aA;have bf:=Hd aA;have ay:Kept (λk=>iT Y.pa≠some k) (j.drew.alloc (.cells (lZ s (mZ b.hQ) v.ta V v.ba v.tc ao v.bc) 145)) aD:=aX.mono λk _ h=>(by rw [lM];exact h);obtain⟨aL,be⟩:=ik ay aY;obtain⟨bw,a1⟩:=a' (hE ay (b' a2.o aw.o.cell) aw.o.vY);clear aA aX aY ay))
      all_goals
       have aN:=aw.o.c' a2.o;have az:=be.o;rw [lM Y.pa]at az;obtain⟨cq,cu,bI,aU,aZ,cw,bK,aV⟩:=aN.MC bf.o aL.o az;simp only [mJ,Ux]at aU;obtain⟨rfl,rfl⟩:=aU;have cD:j.heap.size<=(j.drew.alloc (.cells (lZ s (mZ b.hQ) v.ta V v.ba v.tc ao v.bc) 145)).heap.size:=a2.o.size
       have bA:Hi (Kept (λk=> ¬iw p Y k) j (aD.setCell ⟨p,17,none⟩ (.slice aQ (K.past++ [pG s b]).length aT))):=
        ((Kept.of_below a2.o).trans (aL.o.mono (S':=λk=> ¬iw p Y k) λk _ h e=>h (.inr (.inr (.inr (.inr (.inr e)))))) λ_ _ h=>h).trans (h9 aD p 17 _) λk _ h e=>h (.inl e)
       have b5:Hi (∀k,iw p { Y with pa:=aQ,pc:=aT } k->iw p Y k\/j.heap.size<=k):=λk G=>by
        rcases G with e|e|e|e|e|e
        ·exact .inl (.inl e)
        ·exact .inl (.inr (.inl e))
        ·exact .inl (.inr (.inr (.inl e)))
        ·exact .inl (.inr (.inr (.inr (.inl e))))
        ·exact .inl (.inr (.inr (.inr (.inr (.inl e)))))
        ·rcases aZ k e with h1|h1
         ·exact .inl (.inr (.inr (.inr (.inr (.inr h1)))))
         ·exact .inr UN
       have bX:Hi (∀k,bI k->ax k\/iT V=some k\/iw p Y k\/j.heap.size<=k):=λk hi=>by
        rcases bK k hi with(h1|h1)|h1|h1
        ·exact .inl h1
        ·exact .inr (.inl h1)
        ·exact .inr (.inr (.inl (.inr (.inr (.inr (.inr (.inr h1)))))))
        ·exact .inr (.inr (.inr UN))
       have aI:=Hd aV
       rw [show(K.past++ [pG s b]).length=K.past.length+1 by simp]at bA aI;clear aV aZ cw bK az aN al aH ag a0 bU a7 bw a1;go_wp2;go_meet
       case rel=>exact⟨bI,_,aI,bA,b5,bX⟩
     case rest=>
      obtain⟨bq,au,bh,bB,b6,bY⟩:=hcut
      rename World=>aE
      have bb:Hi (tT K.tree r.depth.toNat):=cd.o.tree;have bj:=Hd (D5 (CD bb.o));obtain⟨D,bJ⟩:=iF (r.depth.toNat);rw [bJ]at bb bj a9;obtain⟨rt,bt⟩:=iF (mT K.tree D);have cg:=Hd bt;rw [bt]at bj a9;clear bJ bt;have ah:BW aE aE.drew:=(g' _ _).drew;have aP:=Hd (bh.o.c' ah);obtain⟨ag,a0⟩:=a' aP.o.cell;simp only [iL]at ag;clear ah;go_upto_region 13 with(fail)
      go_region_law (first
       |(refine iV (r:=ib) (base:=0) (v:= .slice au.ra K.roots.length au.rc) (u:= .slice (some ⟨av.heap.size,0,none⟩) 1 1) (S:=λ_=>False) rfl _ _ rfl iX rfl rfl (Own.c' aM.o.data.roots (hd (g' _ _) (.cells #[rt] 24))) ck.o (λ_ _ af=>af.elim) (λ_ _ h=>h) (by have:=a3.o;unfold maxLen;simp;omega) (by have:=a3.o;simp;omega) (iy _) ?_
         intro bv aD aA aX aY;obtain⟨aQ,aT,rfl, -, -⟩:=iW aA;have bf:=Hd aA;have ay:Kept (λk=>iT au.ra≠some k) (av.alloc (.cells #[rt] 24)) aD:=aX.mono λk _ h=>(by rw [lM];exact h);obtain⟨aL,be⟩:=ik ay aY;obtain⟨bw,a1⟩:=a' (hE ay (iq aM.o.cell) aM.o.zW);clear aA aX aY ay)
       |(go_simp;go_at_call 81
         refine(yN bq _ K.tree D bb.o au.ta au.tc aP.o.data.tree).mono ?_;rw [cg.o];rintro e av⟨rfl,bM⟩;have bz:Hi (BW aE av):=d' ((Br aE).drew) bM;have aM:=Hd (bh.o.c' bz.o);have ck:Hi (Src ib (λ_=>False) (av.alloc (.cells #[rt] 24)) (.slice (some ⟨av.heap.size,0,none⟩) 1 1) [rt]):=Src.one (r:=ib) (y:=rt) ⟨rfl,bj.o⟩ (jx.new av [rt] 24);obtain⟨bS,cH⟩:=a' aM.o.cell;have bT:=λo'=>(a' (iq (o':=o') aM.o.cell)).1;simp only [iL]at bS bT;clear bM))
      all_goals
       have a8:Hi (BW aE (av.alloc (.cells #[rt] 24))):=hd bz.o _;have aN:=bh.o.c' a8.o;have az:=be.o;rw [lM au.ra]at az;obtain⟨cq,cu,aU,aZ,aV⟩:=aN.KB bf.o aL.o az;simp only [mJ,Ux]at aU;obtain⟨rfl,rfl⟩:=aU;have cD:aE.heap.size<=(av.alloc (.cells #[rt] 24)).heap.size:=a8.o.size;have cE:=bB.o.size;have cF:=ab.o.kept.size;have cG:=(d' ai.o aj.o).size;have cS:=ai.o.size;have h1:Kept (λk=> ¬iw p v k) w wc:=Kept.of_below (d' ai.o aj.o);have h2:Kept (λk=> ¬iw p v k) w j:=h1.trans ab.o.kept λk af ak=>⟨ak,UN,US⟩;have ad:Kept (λk=> ¬iw p v k) w aE:=h2.trans bB.o λk af ak G=>by
        rcases ab.o.turn k G with z|z
        ·exact ak z
        ·omega
       have ar: ∀k,iw p au k->iw p v k\/w.heap.size<=k:=λk G=>by
        rcases b6.o k G with z|z
        ·rcases ab.o.turn k z with ae|ae
         ·exact .inl ae
         ·exact .inr UN
        ·exact .inr UN
       have bC:Hi (Kept (λk=> ¬iw p v k) w (aD.setCell ⟨p,16,none⟩ (.slice aQ (K.roots++ [rt]).length aT))):=by
        refine((ad.trans (Kept.of_below a8.o) λ_ _ h=>h).trans aL.o λk af ak e=> ?_).trans (h9 aD p 16 _) λk _ h e=>h (.inl e);rcases ar k (.inr (.inr (.inr (.inr (.inl e)))))with z|z
        ·exact ak z
        ·omega
       have b7:Hi (∀k,iw p { au with ra:=aQ,rc:=aT } k->iw p v k\/w.heap.size<=k):=λk G=>by
        rcases G with e|e|e|e|e|e
        ·exact ar k (.inl e)
        ·exact ar k (.inr (.inl e))
        ·exact ar k (.inr (.inr (.inl e)))
        ·exact ar k (.inr (.inr (.inr (.inl e))))
        ·rcases aZ k e with z|z
         ·exact ar k (.inr (.inr (.inr (.inr (.inl z)))))
         ·exact .inr UN
        ·exact ar k (.inr (.inr (.inr (.inr (.inr e)))))
       have bZ:Hi (∀k,bq k->I k\/iw p v k\/w.heap.size<=k):=λk hi=>by
        rcases bY.o k hi with z|z|z|z
        ·rcases ab.o.OO k z with ae|ae
         ·exact .inl ae
         ·exact .inr (.inr UN)
        ·rcases ab.o.mm k z with ae|ae
         ·simp at ae
         ·exact .inr (.inr UN)
        ·rcases ab.o.turn k z with ae|ae
         ·exact .inr (.inl ae)
         ·exact .inr (.inr UN)
        ·exact .inr (.inr UN)
       have aI:=Hd aV
       rw [show(K.roots++ [rt]).length=K.roots.length+1 by simp]at bC aI;clear aV aZ az aN ag a0 bS cH bT bw a1 h1 h2 ad ar;go_wp2;go_ret;rw [Et aJ.o,aJ.o,a9.o];exact⟨rfl,bq,_,aI.o,bC.o,b7.o,bZ.o⟩
    ·have aJ:Hi (jF r s b=mI r s b):=bn.o
     have b9:=Hd aq;have cK:(mI r s b==0)=false:=(by rw [je];exact aq);have cL:(mI r s b != 0)=true:=(by rw [iB];exact aq);obtain⟨y,hy⟩:=iF (mI r s b);have cp:=Hd hy;rw [hy]at cK cL⊢;clear hy aq hgood;obtain⟨al,aH⟩:=a' U.o.Gw;obtain⟨b8,b1⟩:=ik (gZ.mono U.o.own.slice (S':=λk=>iT V=some k) λ_ _ h=>h) (yJ br);have cB:s.leaves.length<=(s':j8).leaves.length:=(by have:=congrArg List.length aG.o.leaves;rw [Tq]at this;omega);go_wp2_with fail;refine(wB p ax j r s' Y U.o.at' ⟨s.tree,s.leaves.length,bR,s.book,s.hidden⟩ s.leaves.length rfl cB b1.o (by have:=br.marks;omega) (by show bR.length<=_;omega) v.ta V v.ba v.tc ao v.bc U.o.tree U.o.book _ b8.o (λk e=>U.o.m1 k e) U.o.hidden).mono ?_;rintro e cU⟨rfl,aC,bN⟩;rw [Ah aG.o cn.o]at aC;obtain⟨aw,b0⟩:=ik aC bN;clear aC bN al aH;go_wp2;go_ret;rw [Bm (by rw [aJ.o];exact b9.o),aJ.o,cp.o];have cE:=ai.o.size;have cF:=aj.o.size;have cG:=ab.o.kept.size;have cC: ∀k,k<w.heap.size->k≠q:=λk af e=>UN;refine⟨rfl,ax,_,aw.o,?_,?_,?_⟩
     ·have h1:Kept (λk=> ¬iw p v k) w wc:=Kept.of_below (d' ai.o aj.o)
      have h2:Kept (λk=> ¬iw p v k) w j:=h1.trans ab.o.kept λk af ak=>⟨ak,cC k af,US⟩;refine h2.trans b0.o λk af ak G=> ?_;rcases ab.o.turn k G with ad|ad
      ·exact ak ad
      ·have:=(d' ai.o aj.o).size;omega
     ·intro k G
      rcases ab.o.turn k G with ad|ad
      ·exact .inl ad
      ·exact .inr (by have:=(d' ai.o aj.o).size;omega)
     ·intro k hi
      rcases ab.o.OO k hi with ad|ad
      ·exact .inl ad
      ·exact .inr (.inr (by have:=(d' ai.o aj.o).size;omega))
  ·have aK:=Hd (bm.o.trans (g3 G))
   have cJ:decide (18446744069414584321<=b.hJ)=true:=iP UN;have bi:Hi (xy p I v w r s w1):=xy.of_below bD.o ai.o;clear G;go_wp2;go_ret;rw [Bm (by rw [aK.o];omega),aK.o];exact⟨rfl,bi.o⟩
 ·have aK:=Hd (a5.o.trans (g3 hh))
  have a1:(b.f'==(s.past.length:Int)+1)=false:=(by rw [je];exact hh);have cI:(b.f' != (s.past.length:Int)+1)=true:=(by rw [iB];exact hh);clear hh a5;go_wp2;refine m6 ?_
  repeat (first|go_big_quiet_step (fail)|quiet_step (fail))
  refine lz ?_;intro w1 aW;clear al ag;have bi:Hi (xy p I v w r s w1):=xy.of_below bD.o (d' bx.o aW);go_wp2;go_ret;rw [Bm (by rw [aK.o];omega),aK.o];exact⟨rfl,bi.o⟩
end Go.Proofs.YtjdiofjjoefnhaaGreatDoor
