/- slices.Clone of transactions, of outputs, of bytes. -/
import Derived.Test.YtjdiofjjoefnhaaGreatDoorMChA
set_option maxRecDepth 100000
set_option maxHeartbeats 4000000
namespace Go.Proofs.YtjdiofjjoefnhaaGreatDoor
open Tryz Go.ChangeShapes Go.WideShapes Go.ChangeAt Go.RowKit Go.Sort
theorem Og:jj prog 42 87 10 128:=jj.of underlying42 (z:= .agg #[U0,S0,S0,U0,U0,U0,U0,U0,I0,S0]) UQ rfl UN
theorem MI:jj prog 85 156 4 48:=jj.of underlying85 (z:= .agg #[U0,U0,U0,S0]) UQ rfl UN
theorem JB (a:UP)(l c:Nat)(w:World):(binOp .eql 42 (.slice a l c) S0).run prog w= .ok (.bool a.isNone) w:=by
 simp only [binOp];simp [run_equal_slice_nil w 42 87 a l c underlying42]
theorem Fm (S:UO)(w:World)(a:UP)(cap:Nat)(l:List jO)(h:(my).rel S w [.slice a l.length cap] l)(ah:l.length<=100000):
 Calls prog 82 #[.slice a l.length cap] w λe w'=> ∃v,e= .returned v/\Own zI w.heap.size 87 (λk=>S k\/w.heap.size<=k) w' v l/\BW w w':=by
 have af:=JB
 cases a with
 |none=>
  have ab:l= []:=by
   cases l with
   |nil=>rfl
   |cons x xs=>obtain⟨b,off,es,h1, -⟩:=g4.at h 0 US;cases h1
  subst ab;go_wp2;go_ret;exact⟨_,rfl,Own.nil _ _ _ _ _,g' _ _⟩
 |some ae=>
  have j:=jc w (.cells #[] 87);have u:=Hd ((Own.empty zI w.heap.size 87 (gY w (.cells #[] 87)) (g9 _)).mono (F':=λk=>S k\/w.heap.size<=k) λk _ e=> .inr UN);have V:=Hd (Src.of_slice (((my)).c' (((my)).bound h) j));have G:=Hd j;clear h j;go_in;go_wp2_with (at_builtin;refine iC (r:=zI) (base:=w.heap.size) rfl _ _ rfl Og rfl rfl u.o V.o (λ_ _ h=> .inl h.1) (λk e h=>by have h1:w.heap.size=k:=jR e;have:=h.2;omega) (by unfold maxLen;simp;omega) (by simp;omega) (by rw [U4];omega) ?_)
  intro ad z y Y _;have hb3:BW w z:=Kept.behind G.o Y (by rw [U4];omega) λk ag h=>by have:=(u.o.lt h).2.2;omega
  have U:Hi (Own zI w.heap.size 87 (λk=>S k\/w.heap.size<=k) z ad l):=by
   have:=y.mono (F':=λk=>S k\/w.heap.size<=k) λk _ h=>by
    rcases h with h|h
    ·exact h
    ·exact .inr UN
   exact this
  have K:=Hd hb3;clear y hb3;go_wp2;go_ret;exact⟨_,rfl,U.o,K.o⟩
theorem JA (a:UP)(l c:Nat)(w:World):(binOp .eql 85 (.slice a l c) S0).run prog w= .ok (.bool a.isNone) w:=by
 simp only [binOp];simp [run_equal_slice_nil w 85 156 a l c underlying85]
theorem Fl (S:UO)(w:World)(a:UP)(cap:Nat)(l:List og)(h:(mK).rel S w [.slice a l.length cap] l)(ah:l.length<=100000):
 Calls prog 84 #[.slice a l.length cap] w λe w'=> ∃v,e= .returned v/\Own qL w.heap.size 156 (λk=>S k\/w.heap.size<=k) w' v l/\BW w w':=by
 have af:=JA
 cases a with
 |none=>
  have ab:l= []:=by
   cases l with
   |nil=>rfl
   |cons x xs=>obtain⟨b,off,es,h1, -⟩:=g4.at h 0 US;cases h1
  subst ab;go_wp2;go_ret;exact⟨_,rfl,Own.nil _ _ _ _ _,g' _ _⟩
 |some ae=>
  have j:=jc w (.cells #[] 156);have u:=Hd ((Own.empty qL w.heap.size 156 (gY w (.cells #[] 156)) (g9 _)).mono (F':=λk=>S k\/w.heap.size<=k) λk _ e=> .inr UN);have V:=Hd (Src.of_slice (((mK)).c' (((mK)).bound h) j));have G:=Hd j;clear h j;go_in;go_wp2_with (at_builtin;refine iC (r:=qL) (base:=w.heap.size) rfl _ _ rfl MI rfl rfl u.o V.o (λ_ _ h=> .inl h.1) (λk e h=>by have h1:w.heap.size=k:=jR e;have:=h.2;omega) (by unfold maxLen;simp;omega) (by simp;omega) (by rw [U4];omega) ?_)
  intro ad z y Y _;have hb3:BW w z:=Kept.behind G.o Y (by rw [U4];omega) λk ag h=>by have:=(u.o.lt h).2.2;omega
  have U:Hi (Own qL w.heap.size 156 (λk=>S k\/w.heap.size<=k) z ad l):=by
   have:=y.mono (F':=λk=>S k\/w.heap.size<=k) λk _ h=>by
    rcases h with h|h
    ·exact h
    ·exact .inr UN
   exact this
  have K:=Hd hb3;clear y hb3;go_wp2;go_ret;exact⟨_,rfl,U.o,K.o⟩
theorem Jz (a:UP)(l c:Nat)(w:World):(binOp .eql 52 (.slice a l c) S0).run prog w= .ok (.bool a.isNone) w:=by
 simp only [binOp];simp [run_equal_slice_nil w 52 5 a l c underlying52]
theorem Fk (S:UO)(w:World)(a:UP)(cap:Nat)(l:List Int)(h:(hD).rel S w [.slice a l.length cap] l)(ah:l.length<=10000000):
 Calls prog 85 #[.slice a l.length cap] w λe w'=> ∃v,e= .returned v/\Own (j9 .u8) w.heap.size 5 (λk=>S k\/w.heap.size<=k) w' v l/\BW w w':=by
 have af:=Jz
 cases a with
 |none=>
  have ab:l= []:=by
   cases l with
   |nil=>rfl
   |cons x xs=>obtain⟨b,off,es,h1, -⟩:=g4.at h 0 US;cases h1
  subst ab;go_wp2;go_ret;exact⟨_,rfl,Own.nil _ _ _ _ _,g' _ _⟩
 |some ae=>
  have j:=jc w (.cells #[] 5);have u:=Hd ((Own.empty (j9 .u8) w.heap.size 5 (gY w (.cells #[] 5)) (g9 _)).mono (F':=λk=>S k\/w.heap.size<=k) λk _ e=> .inr UN);have V:=Hd (Src.of_slice (((hD)).c' (((hD)).bound h) j));have G:=Hd j;clear h j;go_in;go_wp2_with (at_builtin;refine iC (r:=(j9 .u8)) (base:=w.heap.size) rfl _ _ rfl iU rfl rfl u.o V.o (λ_ _ h=> .inl h.1) (λk e h=>by have h1:w.heap.size=k:=jR e;have:=h.2;omega) (by unfold maxLen;simp;omega) (by simp;omega) (by rw [U4];omega) ?_)
  intro ad z y Y _;have hb3:BW w z:=Kept.behind G.o Y (by rw [U4];omega) λk ag h=>by have:=(u.o.lt h).2.2;omega
  have U:Hi (Own (j9 .u8) w.heap.size 5 (λk=>S k\/w.heap.size<=k) z ad l):=by
   have:=y.mono (F':=λk=>S k\/w.heap.size<=k) λk _ h=>by
    rcases h with h|h
    ·exact h
    ·exact .inr UN
   exact this
  have K:=Hd hb3;clear y hb3;go_wp2;go_ret;exact⟨_,rfl,U.o,K.o⟩
structure Ei {α:Type}(r:kS α)(e:TypeId)(w:World)(g cap:Nat)(css:List (List Value))(xs:List α)(i:Nat)(A B:UO):Prop where
 row:mG e r.n w g cap css
 len:css.length=xs.length
 cap:cap<=maxLen
 lo: ∀(j:Nat) (cs:List Value) (x:α),j<i->css[j]? =some cs->xs[j]? =some x->r.rel A w cs x
 hi: ∀(j:Nat) (cs:List Value) (x:α),i<=j->css[j]? =some cs->xs[j]? =some x->r.rel B w cs x
theorem Ei.next {α:Type}{r:kS α}{e:TypeId}{w w':World}{g cap:Nat}{css:List (List Value)}{xs:List α}{i:Nat}{A B S:UO}(h:Ei r e w g cap css xs i A B)(hi:i<xs.length)(G:Kept S w w')(K: ∀k,k<w.heap.size->A k->S k)(U: ∀k,k<w.heap.size->B k->S k){es:List Value}(ab:mG e r.n w' g cap (css.set i es))(ad:r.rel A w' es xs[i]):
 Ei r e w' g cap (css.set i es) xs (i+1) A B:=by
 refine⟨ab,by rw [TG,h.len],h.cap,λj cs x V u y=> ?_,λj cs x V u y=> ?_⟩
 ·by_cases z:i=j
  ·subst z
   rw [List.getElem?_set_self (by rw [h.len];exact hi)]at u;rw [z2 hi]at y;obtain rfl:=jR u;obtain rfl:=jR y;exact ad
  ·rw [List.getElem?_set_ne z]at u
   exact r.mono (r.keep (r.bound (h.lo j cs x UN u y)) (G.mono λk Y hh=>K k hh.2 hh.1)) λk _ hh=>hh.1
 ·rw [List.getElem?_set_ne UN]at u
  exact r.mono (r.keep (r.bound (h.hi j cs x UN u y)) (G.mono λk Y hh=>U k hh.2 hh.1)) λk _ hh=>hh.1
theorem Ei.slice {α:Type}{r:kS α}{e:TypeId}{w:World}{g cap:Nat}{css:List (List Value)}{xs:List α}{A B F:UO}(h:Ei r e w g cap css xs xs.length A B)(u: ∀k,A k->F k)(z:F g):(g4 r).rel F w [.slice (some ⟨g,0,none⟩) xs.length cap] xs:=
 h.row.slice h.cap h.len (λi cs x y j=>r.mono (h.lo i cs x (TI.1 j).1 y j) λk _=>u k) z
theorem zI.mk {S:UO}{w:World}{t:jO}{ma oa pa:UP}{mc oc pc:Nat}(h:ks S w t ma oa pa mc oc pc):zI.rel S w (rp t ma oa pa mc oc pc) t:=
 ⟨[_],_,rfl,⟨rfl,h.g5⟩,[_],_,rfl,h.marks,[_],_,rfl,h.outs,[_],_,rfl,⟨rfl,h.iK⟩,[_],_,rfl,⟨rfl,h.wd⟩,[_],_,rfl,⟨rfl,h.jn⟩,[_],_,rfl,⟨rfl,h.acc⟩,[_],_,rfl,⟨rfl,h.e'⟩,[_],[_],rfl,⟨rfl,h.exp⟩,h.proof⟩
theorem qL.mk {S:UO}{w:World}{o:og}{a:UP}{c:Nat}(h1:iZ o.g6)(h2:iZ o.p0)(j:iZ o.p1)(u:gZ.rel S w [.slice a o.ha.length c] o.ha):qL.rel S w [o.g6,o.p0,o.p1,.slice a o.ha.length c] o:=
 ⟨[_],_,rfl,⟨rfl,h1⟩,[_,_],[_],rfl,⟨[_],[_],rfl,⟨rfl,h2⟩,⟨rfl,j⟩⟩,u⟩
theorem ks.cap {S:UO}{w:World}{t:jO}{ma oa pa:UP}{mc oc pc:Nat}(h:ks S w t ma oa pa mc oc pc):ks (λk=>S k/\k<w.heap.size) w t ma oa pa mc oc pc:=
 ⟨h.g5,h.iK,h.wd,h.jn,h.acc,h.e',h.exp,gZ.bound h.marks,mK.bound h.outs,hD.bound h.proof⟩
theorem mG.Kd {e:TypeId}{n:Nat}{w:World}{g cap:Nat}{css:List (List Value)}{i:Nat}{X:List Value}(h:mG e n w g cap (css.set i X))(hi:i<css.length)(j:Nat)(u:j<n)(v:Value):mG e n (w.setCell ⟨g,i*n+j,none⟩ v) g cap (css.set i (X.set j v)):=by
 have h1:=h.set i j (by rw [TG];exact hi) u v;rw [List.getElem_set_self,List.set_set]at h1;exact h1
theorem mG.cellS {e:TypeId}{n:Nat}{w:World}{g cap:Nat}{css:List (List Value)}{i:Nat}{X:List Value}(h:mG e n w g cap (css.set i X))(hi:i<css.length)(j:Nat)(u:j<n)(v:Value)(y:X[j]? =some v):w.cell? ⟨g,i*n+j,none⟩=some v:=by
 have h1:=h.get i j (by rw [TG];exact hi) u;rw [h1,<-y];simp only [List.getElem_set_self];rw [z2]
def FS (W:World)(n:Nat)(b:hV)(j:UP)(u:Nat)(wr:World)(i:Nat):Prop:=
 ∃(g:Nat) (css:List (List Value)),j=some ⟨g,0,none⟩/\W.heap.size<=g/\g<n/\Ei zI 87 wr g u css b.hQ i (λk=>W.heap.size<=k/\k≠g) (λk=>k≠g)
def A8 (W:World)(n:Nat)(os:List og)(u:UP)(y:Nat)(j:World)(k:Nat):Prop:=
 ∃(g:Nat) (css:List (List Value)),u=some ⟨g,0,none⟩/\W.heap.size<=g/\g<n/\Ei qL 156 j g y css os k (λq=>W.heap.size<=q/\q≠g) (λq=>q≠g)
def OG (b:hV)(w:World)(e:Ending)(w':World):Prop:=
 ∃(j:UP) (u:Nat),e= .returned (.agg (jI b j u))/\i7 (λk=>w.heap.size<=k) w' b j u/\BW w w'
theorem wM (S:UO)(w:World)(b:hV)(xa:UP)(xc:Nat)(h:i7 S w b xa xc)(di:b.hQ.length<=64)(cy: ∀t∈b.hQ,t.marks.length<=100/\t.outs.length<=100/\t.proof.length<=1048576/\ ∀o∈t.outs,o.ha.length<=1000):
 Calls prog 34 #[.agg (jI b xa xc)] w (OG b w):=by
 have cg:=jc w (.cells (jI b xa xc) 44);have bC:=hd cg (.cells #[U0,I0,U0,U0,U0,S0] 44);have b7:=Hd (ji w (.cells (jI b xa xc) 44) (.cells #[U0,I0,U0,U0,U0,S0] 44)).2;have cY:=Hd (ji w (.cells (jI b xa xc) 44) (.cells #[U0,I0,U0,U0,U0,S0] 44)).1;have cS:Hi (my.rel (λk=>k<w.heap.size) ((w.alloc (.cells (jI b xa xc) 44)).alloc (.cells #[U0,I0,U0,U0,U0,S0] 44)) [.slice xa b.hQ.length xc] b.hQ):=my.c' (my.mono (my.bound h.hQ) λ_ _ hh=>hh.2) bC;have cB:=Hd bC;have aO:Hi (((w.alloc (.cells (jI b xa xc) 44)).alloc (.cells #[U0,I0,U0,U0,U0,S0] 44)).heap.size=w.heap.size+2):=Hd (by rw [U4,U4]);have cR:=Hd cy;have aK:Hi (iZ b.parent/\zf b.f'/\iZ b.hJ/\iZ b.work/\iZ b.e'):=⟨h.parent,h.f',h.hJ,h.work,h.e'⟩;clear cg bC h cy;go_in;go_upto_region 1 with(fail);generalize (w.alloc (.cells (jI b xa xc) 44)).alloc (.cells #[U0,I0,U0,U0,U0,S0] 44)=W at*;obtain⟨ax,ay⟩:=a' b7.o;go_wp2_with fail;refine(Fm (λk=>k<w.heap.size) W xa xc b.hQ cS.o UN).mono ?_;rintro e w1⟨u,rfl,bQ,hb1⟩;obtain⟨Y,z,rfl, -, -⟩:=iW bQ;obtain⟨b6,aF⟩:=ik bQ hb1;clear ax ay bQ;obtain⟨bo,b8⟩:=ik (b' hb1 b7.o) (b' hb1 cY.o);clear hb1;obtain⟨ax,ay⟩:=a' bo.o;go_upto_region 2 with(fail);have a6:=h9 w1 w.heap.size 5 (.slice Y b.hQ.length z);have aA:Hi ((w1.setCell ⟨w.heap.size,5,none⟩ (.slice Y b.hQ.length z)).heap[w.heap.size]? =some (.cells (jI b Y z) 44 (0,0))):=h6 bo.o;have aH:=Hd (hE a6 b8.o (show w.heap.size+1≠w.heap.size by omega));have aL:Hi (Kept (λk=>k<w.heap.size) w (w1.setCell ⟨w.heap.size,5,none⟩ (.slice Y b.hQ.length z))):=((Kept.of_below (S:=λk=>k<w.heap.size) cB.o).trans (Kept.of_below (S:=λk=>k<w.heap.size) aF.o) λ_ _ h=>h).trans a6 λk _ h=>by have ai:k<w.heap.size:=h;show k≠_;omega
 have bn:=Hd (b6.o.keep (a6.mono λk _ h=>by have:=aO.o;rcases h with h|h<;>(show k≠_;omega)))
 have dh:Hi (w.heap.size+2<=w1.heap.size):=Hd (by have:=aF.o.size;have:=aO.o;omega);have cz:(w1.setCell ⟨w.heap.size,5,none⟩ (.slice Y b.hQ.length z)).heap.size=w1.heap.size:=by simp [World.setCell]
 have a3:=Hd cz;generalize w1.setCell ⟨w.heap.size,5,none⟩ (.slice Y b.hQ.length z)=w2 at*;clear ax ay a6 bo b8 b6 cz;have HR2:Hi (0<b.hQ.length->FS W w2.heap.size b Y z w2 0):=λap=>by
  obtain⟨g,cap,css,c3,aW,aT, -,bF,ab,aQ,bB,hrel⟩:=bn.o.Ib ap;simp only [mJ,Ux]at aW;obtain⟨rfl,rfl⟩:=aW;exact⟨g,css,rfl,aT,ab.lt,ab,aQ,bF,λj cs x bI=>absurd bI (pf _),λj cs x _ bD aD=>zI.mono (hrel j cs x bD aD) λk _ ar=>(bB k ar).2.2⟩
 have cG:Hi (∀ {wr:World},(0<b.hQ.length->FS W w2.heap.size b Y z wr b.hQ.length)->my.rel (λk=>W.heap.size<=k) wr [.slice Y b.hQ.length z] b.hQ):=λ{wr} hh=>by
  rcases vU b.hQ.length with ap|ap
  ·obtain⟨bp,bS,bq,br,bt,bv,bw,bx, -⟩:=bn.o.slice
   exact⟨bp,bS,bq,br,bt,bv,bw,bx,λi x aD=>by have:=(TI.1 aD).1;omega⟩
  ·obtain⟨g,css,rfl,aT, -,ab⟩:=hh ap
   exact ab.slice (λk ar=>ar.1) aT
 clear bn;obtain⟨ax,ay⟩:=a' aA.o;go_wp2_with fail;clear ax ay;go_loopw [13] (λaE wr=> ∃i:Nat,i<=b.hQ.length/\aE= UZ i/\Hi (wr.heap[w.heap.size]? =some (.cells (jI b Y z) 44 (0,0)))/\Hi (wr.heap[w.heap.size+1]? =some (.cells #[U0,I0,U0,U0,U0,S0] 44 (0,0)))/\Hi (Kept (λk=>k<w.heap.size) w wr)/\Hi (w2.heap.size<=wr.heap.size)/\Hi (0<b.hQ.length->FS W w2.heap.size b Y z wr i)) (λaE _=>b.hQ.length-(intOf aE).toNat)
 case atStart=>exact⟨0,iy _,rfl,aA,aH,aL,g9 _,HR2⟩
 case round=>
  clear aA aH aL HR2;obtain⟨i,hi,rfl,aA,aH,aL,aG,HR2⟩:=hrel;by_cases hlt:i<b.hQ.length
  ·obtain⟨g,css,de,aT,cl,ab⟩:=HR2.o UN
   subst de;have a5:i<css.length:=(by rw [ab.len];exact hlt);have hrel:=ab.hi i css[i] b.hQ[i] (g9 _) (by simp [a5]) (by simp [hlt]);obtain⟨ma,oa,pa,mc,oc,pc,cj,cn⟩:=zI.inv hrel;have aV:mG 87 10 wr g z (css.set i (rp b.hQ[i] ma oa pa mc oc pc)):=by
    rw [<-cj,List.set_getElem_self];exact ab.row
   obtain⟨cM,ae,ah⟩:=kT ab cn.cap a5;obtain⟨s1,s2,s3,s4⟩:=cR.o b.hQ[i] (z3 hlt);obtain⟨t,ht⟩:=iF (b.hQ[i]);have cU:=Hd ht;rw [ht]at aV ae s1 s2 s3 s4;have cQ:=Hd s4;have c9:g<wr.heap.size:=jg cl aG.o;have c1:wr.cell? ⟨g,i*10+1,none⟩=some (.slice ma t.marks.length mc):=aV.cellS a5 1 UN _ rfl;have aq:=aV.AY;have b4:=Hd aV;obtain⟨ax,ay⟩:=a' aA.o;have dm:(0:Int)<=(i:Int):=UN;have dn:(i:Int)<(b.hQ.length:Int):=UN;have dp:IntKind.i64.wrap (i:Int)=i:=(by rw [rX];omega);clear ab hrel cj cn a5 ht aV s4 HR2;go_wp2_with fail;refine(rG _ wr ma mc t.marks ae.o.marks UN).mono ?_;rintro e aJ⟨u1,rfl,bM,hb3⟩;obtain⟨ad,d1,rfl, -, -⟩:=iW bM;have aY:=Hd (b4.o.c' hb3);have c1:=aY.o.cellS ah.o 1 UN _ rfl;have aq:=aY.o.AY;obtain⟨bZ,bT⟩:=ik bM hb3;clear bM hb3 ax ay b4;go_upto_region 7 with(fail);have da:g<wr.heap.size:=c9;have bJ:=h9 aJ g (i*10+1) (.slice ad t.marks.length d1);have aZ:Hi (mG 87 10 (aJ.setCell ⟨g,i*10+1,none⟩ (.slice ad t.marks.length d1)) g z (css.set i (rp t ad oa pa d1 oc pc))):=aY.o.Kd ah.o 1 UN _;have bY:Hi (gZ.rel (λk=>wr.heap.size<=k) (aJ.setCell ⟨g,i*10+1,none⟩ (.slice ad t.marks.length d1)) [.slice ad t.marks.length d1] t.marks):=gZ.keep bZ.o.slice (bJ.mono λk _ h=>by have ai:wr.heap.size<=k:=h;show k≠g;omega);have bg:Hi (Kept (λk=>k≠g/\k<wr.heap.size) wr (aJ.setCell ⟨g,i*10+1,none⟩ (.slice ad t.marks.length d1))):=(Kept.of_below (S:=λk=>k≠g/\k<wr.heap.size) bT.o).trans bJ λk _ h=>h.1;have bV:=Hd (ae.o.keep bg.o);have aI:Hi (wr.heap.size<=(aJ.setCell ⟨g,i*10+1,none⟩ (.slice ad t.marks.length d1)).heap.size):=bg.o.size;clear bJ c1 aq aY bZ bT;generalize aJ.setCell ⟨g,i*10+1,none⟩ (.slice ad t.marks.length d1)=V at*
   have c1:=aZ.o.cellS ah.o 2 UN _ rfl;have aq:=aZ.o.AY;go_wp2_with fail;refine(Fl (λk=>k≠g/\k<wr.heap.size) V oa oc t.outs bV.o.outs UN).mono ?_;rintro e av⟨u2,rfl,bN,hb5⟩;obtain⟨a2,G,rfl, -, -⟩:=iW bN;obtain⟨a0,b0,bU⟩:=kT (aZ.o.c' hb5) bN hb5;clear bN hb5 c1 aq;have c1:=a0.o.cellS ah.o 2 UN _ rfl;have aq:=a0.o.AY;go_upto_region 8 with(fail);have dl:g<V.heap.size:=(by have:=aI.o;omega);have bK:=h9 av g (i*10+2) (.slice a2 t.outs.length G);have b5:Hi (mG 87 10 (av.setCell ⟨g,i*10+2,none⟩ (.slice a2 t.outs.length G)) g z (css.set i (rp t ad a2 pa d1 G pc))):=a0.o.Kd ah.o 2 UN _;have bh:Hi (Kept (λk=>k≠g/\k<V.heap.size) V (av.setCell ⟨g,i*10+2,none⟩ (.slice a2 t.outs.length G))):=(Kept.of_below (S:=λk=>k≠g/\k<V.heap.size) bU.o).trans bK λk _ h=>h.1;have bW:Hi (Kept (λk=>k≠g/\k<wr.heap.size) wr (av.setCell ⟨g,i*10+2,none⟩ (.slice a2 t.outs.length G))):=bg.o.trans bh.o λk _ h=>⟨h.1,by have:=aI.o;omega⟩;have cH:Hi (gZ.rel (λk=>wr.heap.size<=k/\k<V.heap.size) (av.setCell ⟨g,i*10+2,none⟩ (.slice a2 t.outs.length G)) [.slice ad t.marks.length d1] t.marks):=gZ.keep (gZ.bound bY.o) (bh.o.mono λk _ h=>⟨UN,h.2⟩);have dg:=Hd (ae.o.keep bW.o);have aX:Hi (Own qL V.heap.size 156 (λk=>(k≠g/\k<wr.heap.size)\/V.heap.size<=k) (av.setCell ⟨g,i*10+2,none⟩ (.slice a2 t.outs.length G)) (.slice a2 t.outs.length G) t.outs):=b0.o.keep (bK.mono λk _ h=>by rcases h with h|h;exact h.1;show k≠g;omega)
   have a4:Hi (V.heap.size<=(av.setCell ⟨g,i*10+2,none⟩ (.slice a2 t.outs.length G)).heap.size):=bh.o.size;clear bK c1 aq aZ a0 b0 bU bY bV;generalize av.setCell ⟨g,i*10+2,none⟩ (.slice a2 t.outs.length G)=aj at*
   have c1:=b5.o.cellS ah.o 2 UN _ rfl;have be:Hi (∀q,iT a2=some q->V.heap.size<=q/\q<aj.heap.size):=λq e=>by
    have h1:=aX.o.lt (k:=q) (by rw [lM];exact e);exact⟨h1.2.2,h1.1⟩
   have az:Hi (0<t.outs.length->A8 V aj.heap.size t.outs a2 G aj 0):=λap=>by
    obtain⟨K,cap,aC,c3,aW,bG, -,bF,ab,aQ,bB,hrel⟩:=aX.o.Ib ap;simp only [mJ,Ux]at aW;obtain⟨rfl,rfl⟩:=aW;exact⟨K,aC,rfl,bG,ab.lt,ab,aQ,bF,λj cs x bI=>absurd bI (pf _),λj cs x _ bD aD=>qL.mono (hrel j cs x bD aD) λk _ ar=>(bB k ar).2.2⟩
   have b1:Hi (∀ {y:World},(0<t.outs.length->A8 V aj.heap.size t.outs a2 G y t.outs.length)->mK.rel (λk=>V.heap.size<=k) y [.slice a2 t.outs.length G] t.outs):=λ{y} hh=>by
    rcases vU t.outs.length with ap|ap
    ·obtain⟨bp,bS,bq,br,bt,bv,bw,bx, -⟩:=aX.o.slice
     exact⟨bp,bS,bq,br,bt,bv,bw,bx,λi x aD=>by have:=(TI.1 aD).1;omega⟩
    ·obtain⟨K,aC,rfl,bG, -,ab⟩:=hh ap
     exact ab.slice (λk ar=>ar.1) bG
   clear aX;obtain⟨au,bR⟩: ∃x,x=wr:=⟨wr,rfl⟩;subst bR;go_wp2;go_loopw [41] (λaE y=> ∃k:Nat,k<=t.outs.length/\aE= UZ k/\Hi (Kept (λq=>q<aj.heap.size/\iT a2≠some q) aj y)/\Hi (0<t.outs.length->A8 V aj.heap.size t.outs a2 G y k)) (λaE _=>t.outs.length-(intOf aE).toNat)
   case atStart=>exact⟨0,iy _,rfl,Kept.refl _ _,az⟩
   case round=>
    clear az;obtain⟨k,ar,rfl,aM,az⟩:=hrel;obtain⟨y,dd⟩: ∃x,x=wr:=⟨wr,rfl⟩;subst dd;have b9:Hi (aj.heap.size<=y.heap.size):=aM.o.size;have aN:Hi (mG 87 10 y g z (css.set i (rp t ad a2 pa d1 G pc))):=b5.o.keep aM.o ⟨by have:=a4.o;omega,λe=>by have:=(be.o g e).1;omega⟩;by_cases hlt2:k<t.outs.length
    ·obtain⟨K,aC,c6,c7,c8,hrow2⟩:=az.o UN
     subst c6;have bH:k<aC.length:=(by rw [hrow2.len];exact hlt2);have cu:=hrow2.hi k aC[k] t.outs[k] (g9 _) (by simp [bH]) (by simp [hlt2]);obtain⟨ca,cc,ck,o1,o2,o3,bE⟩:=qL.inv cu;have aQ:=cQ.o t.outs[k] (z3 hlt2);have a8:mG 156 4 y K G (aC.set k [U2 t.outs[k].g6,U2 t.outs[k].p0,U2 t.outs[k].p1,.slice ca t.outs[k].ha.length cc]):=by
      rw [<-ck,List.set_getElem_self];exact hrow2.row
     obtain⟨cN,bf⟩:=ik hrow2 bH;obtain⟨U,bP⟩:=iF (t.outs[k]);have cJ:=Hd bP;rw [bP]at o1 o2 o3 bE aQ a8;have bj:Hi (iZ U.g6/\iZ U.p0/\iZ U.p1):=⟨o1,o2,o3⟩;obtain⟨cC,a1⟩:=ik (gZ.bound bE) a8;have cd:=aN.o.cellS ah.o 2 UN _ rfl;have ce:=a1.o.cellS bf.o 3 UN _ rfl;have dq:(0:Int)<=(k:Int):=UN;have dr:(k:Int)<(t.outs.length:Int):=UN;have ds:IntKind.i64.wrap (k:Int)=k:=(by rw [rX];omega);have dj:K<y.heap.size:=a8.lt;clear bH cu ck o1 o2 o3 bE a8 hrow2 bP az;go_upto_region 11 with(fail)
     go_region_law (first
      |(go_simp;go_at_call 83
        refine(rG _ y.drew ca cc U.ha (gZ.c' cC.o (g' _ _).drew) UN).mono ?_;rintro e aw⟨dt,rfl,bO,cf⟩;obtain⟨al,ao,rfl, -, -⟩:=iW bO;have bb:Hi (BW y aw):=d' ((Br y).drew) cf;have cI:Hi (Own ib y.heap.size 24 (λk=>y.heap.size<=k) aw (.slice al U.ha.length ao) U.ha):=bO;obtain⟨bm,cP⟩:=ik (a1.o.c' bb.o) (aN.o.c' bb.o);have ce:=bm.o.cellS bf.o 3 UN _ rfl;have cd:=cP.o.cellS ah.o 2 UN _ rfl;have c4:=bm.o.AY;clear cf bO))
     all_goals
      have bL:=h9 aw K (k*4+3) (.slice al U.ha.length ao);have Mr:Kept (λq=>q≠K/\q<y.heap.size) y (aw.setCell ⟨K,k*4+3,none⟩ (.slice al U.ha.length ao)):=(Kept.of_below (S:=λq=>q≠K/\q<y.heap.size) bb.o).trans bL λq _ h=>h.1;have cE:Hi (Kept (λq=>q<aj.heap.size/\iT (some (⟨K,0,none⟩:Addr))≠some q) aj (aw.setCell ⟨K,k*4+3,none⟩ (.slice al U.ha.length ao))):=aM.o.trans Mr λq _ h=>⟨λe=>h.2 (by rw [e];rfl),by have:=b9.o;have:=h.1;omega⟩;have cv:mG 156 4 (aw.setCell ⟨K,k*4+3,none⟩ (.slice al U.ha.length ao)) K G (aC.set k [U.g6,U.p0,U.p1,.slice al U.ha.length ao]):=bm.o.Kd bf.o 3 UN _
      have ch:gZ.rel (λq=>V.heap.size<=q/\q≠K) (aw.setCell ⟨K,k*4+3,none⟩ (.slice al U.ha.length ao)) [.slice al U.ha.length ao] U.ha:=
       gZ.mono (gZ.keep cI.o.slice (bL.mono λq _ h=>by have ai:y.heap.size<=q:=h;show q≠K;omega)) λq _ h=>by have ai:y.heap.size<=q:=h;have:=b9.o;have:=a4.o;exact⟨UN,UN⟩
      have cK:Hi (0<t.outs.length->A8 V aj.heap.size t.outs (some ⟨K,0,none⟩) G (aw.setCell ⟨K,k*4+3,none⟩ (.slice al U.ha.length ao)) (k+1)):=λ_=>
       ⟨K,_,rfl,c7,c8,cN.o.next hlt2 Mr (λq h1 h2=>⟨h2.2,h1⟩) (λq h1 h2=>⟨h2,h1⟩) cv (by rw [cJ.o];exact qL.mk bj.o.1 bj.o.2.1 bj.o.2.2 ch)⟩
      clear bL Mr cv ch ce cd c4;go_wp2;go_roundw
      case rel=>exact⟨k+1,UN,by go_num,cE,cK⟩
      case measure=>exact UY
    ·obtain rfl:k=t.outs.length:=UN
     have cL:=Hd (b1.o az.o);clear hlt2 ar az b1;have dk:g<au.heap.size:=da;have bi:Hi (Kept (λk=>k≠g/\k<au.heap.size) au y):=bW.o.trans aM.o λk _ h=>⟨by have:=aI.o;have:=a4.o;omega,λe=>by have:=(be.o k e).1;have:=aI.o;omega⟩;have cD:=Hd (ae.o.keep bi.o);have c1:=aN.o.cellS ah.o 9 UN _ rfl;have aq:=aN.o.AY;go_wp2_with fail;refine(Fk (λk=>k≠g/\k<au.heap.size) y pa pc t.proof cD.o.proof UN).mono ?_;rintro e ak⟨du,rfl,a7,aP⟩;obtain⟨af,ag,rfl, -, -⟩:=iW a7;have bk:=Hd (aN.o.c' aP);have aU:=h9 ak g (i*10+9) (.slice af t.proof.length ag);have cw:mG 87 10 (ak.setCell ⟨g,i*10+9,none⟩ (.slice af t.proof.length ag)) g z (css.set i (rp t ad a2 af d1 G ag)):=bk.o.Kd ah.o 9 UN _;have Nj:Hi (Kept (λk=>k≠g/\k<au.heap.size) au (ak.setCell ⟨g,i*10+9,none⟩ (.slice af t.proof.length ag))):=(bi.o.trans (Kept.of_below (S:=λk=>k≠g/\k<au.heap.size) aP) λ_ _ h=>h).trans aU λk _ h=>h.1
     have co:gZ.rel (λk=>W.heap.size<=k/\k≠g) (ak.setCell ⟨g,i*10+9,none⟩ (.slice af t.proof.length ag)) [.slice ad t.marks.length d1] t.marks:=
      gZ.mono (gZ.keep (gZ.c' (gZ.keep cH.o (aM.o.mono λk _ h=>⟨by have:=a4.o;omega,λe=>by have:=(be.o k e).1;omega⟩)) aP) (aU.mono λk _ h=>by show k≠g;omega)) λk _ h=>⟨by have:=aG.o;have:=aF.o.size;have:=a3.o;omega,UN⟩
     have cp:mK.rel (λk=>W.heap.size<=k/\k≠g) (ak.setCell ⟨g,i*10+9,none⟩ (.slice af t.proof.length ag)) [.slice a2 t.outs.length G] t.outs:=
      mK.mono (mK.keep (mK.c' cL.o aP) (aU.mono λk _ h=>by have ai:V.heap.size<=k:=h;have:=aI.o;show k≠g;omega)) λk _ h=>by have ai:V.heap.size<=k:=h;have:=aI.o;have:=aG.o;have:=aF.o.size;have:=a3.o;exact⟨UN,UN⟩
     have df:au.heap.size<=y.heap.size:=bi.o.size;have cq:hD.rel (λk=>W.heap.size<=k/\k≠g) (ak.setCell ⟨g,i*10+9,none⟩ (.slice af t.proof.length ag)) [.slice af t.proof.length ag] t.proof:=by
      have h1:hD.rel (λk=>y.heap.size<=k) ak [.slice af t.proof.length ag] t.proof:=hD.mono a7.tight.slice λk _ e=>(a7.lt e).2.2;exact hD.mono (hD.keep h1 (aU.mono λk _ h=>by have ai:y.heap.size<=k:=h;show k≠g;omega)) λk _ h=>by have ai:y.heap.size<=k:=h;have:=aG.o;have:=aF.o.size;have:=a3.o;exact⟨UN,UN⟩
     have cO:Hi (0<b.hQ.length->FS W w2.heap.size b (some ⟨g,0,none⟩) z (ak.setCell ⟨g,i*10+9,none⟩ (.slice af t.proof.length ag)) (i+1)):=λ_=>
      ⟨g,_,rfl,aT,cl,cM.o.next hlt Nj.o (λk h1 h2=>⟨h2.2,h1⟩) (λk h1 h2=>⟨h2,h1⟩) cw (by rw [cU.o];exact zI.mk ⟨ae.o.g5,ae.o.iK,ae.o.wd,ae.o.jn,ae.o.acc,ae.o.e',ae.o.exp,co,cp,cq⟩)⟩
     have db:w.heap.size+1<W.heap.size:=(by have:=aO.o;omega);have bR:W.heap.size<=au.heap.size:=(by have:=aG.o;have:=aF.o.size;have:=a3.o;omega);have cX:=Hd (hE Nj.o aA.o ⟨UN,UN⟩);have cZ:=Hd (hE Nj.o aH.o ⟨UN,UN⟩);have cF:Hi (Kept (λk=>k<w.heap.size) w (ak.setCell ⟨g,i*10+9,none⟩ (.slice af t.proof.length ag))):=aL.o.trans Nj.o λk _ h=>(by have ai:k<w.heap.size:=h;exact⟨UN,UN⟩);have cW:Hi (w2.heap.size<=(ak.setCell ⟨g,i*10+9,none⟩ (.slice af t.proof.length ag)).heap.size):=iu aG.o Nj.o.size;clear c1 aq;have c1:=bk.o.cellS ah.o 9 UN _ rfl;have aq:=bk.o.AY;clear a7 aP aU cw co cp cq df db bR;go_wp2;go_roundw
     case rel=>exact⟨i+1,UN,by go_num,cX,cZ,cF,cW,cO⟩
     case measure=>exact UY
  ·obtain rfl:i=b.hQ.length:=UN
   have cT:Hi (my.rel (λk=>W.heap.size<=k) wr [.slice Y b.hQ.length z] b.hQ):=cG.o HR2.o;clear hlt hi;have bA:=j3 (old:= [U0,I0,U0,U0,U0,S0]) aH.o [b.parent,UZ b.f',b.hJ,b.work,b.e',.slice Y b.hQ.length z] rfl;have bz:=i2 wr (q:=w.heap.size+1) (S:=λk=>k≠w.heap.size+1) (λh=>h rfl) [b.parent,UZ b.f',b.hJ,b.work,b.e',.slice Y b.hQ.length z] 0;obtain⟨cA,a9⟩: ∃cA,cA=wr.setCells (w.heap.size+1) 0 [b.parent,UZ b.f',b.hJ,b.work,b.e',.slice Y b.hQ.length z]:=⟨_,rfl⟩;rw [<-a9]at bA bz;simp only [World.setCells,Nat.reduceAdd,nC]at a9;obtain⟨cV,a1,bX⟩:=kT a9 bA bz;clear a9 bA bz;obtain⟨ax,ay⟩:=a' aA.o;obtain⟨dv,dw⟩:=a' aH.o;go_wp2_with fail;rw [<-cV.o];obtain⟨c5, -⟩:=a' a1.o;refine iQ (v:= .agg (jI b Y z)) (by simp [results,results34,go_sem,c5]) rfl ?_;refine⟨Y,z,rfl,⟨aK.o.1,aK.o.2.1,aK.o.2.2.1,aK.o.2.2.2.1,aK.o.2.2.2.2,?_⟩,?_⟩
   ·exact my.mono (my.keep cT.o (bX.o.mono λk _ h=>by have ai:W.heap.size<=k:=h;have:=aO.o;show k≠_;omega)) λk _ h=>by have ai:W.heap.size<=k:=h;have:=aO.o;show _<=k;omega
   ·exact(aL.o.trans bX.o λk _ h=>by have ai:k<w.heap.size:=h;show k≠_;omega).below (g9 _)
end Go.Proofs.YtjdiofjjoefnhaaGreatDoor
