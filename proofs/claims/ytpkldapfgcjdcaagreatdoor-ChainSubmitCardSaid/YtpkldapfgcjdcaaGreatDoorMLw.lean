/- The reference of chains: Small, Few; lists of blocks as arguments. -/
import Derived.Test.YtpkldapfgcjdcaaGreatDoorMBlk
import Derived.Test.YtpkldapfgcjdcaaGreatDoorMFld
import Derived.Test.YtpkldapfgcjdcaaGreatDoorMChB
set_option maxRecDepth 100000
set_option maxHeartbeats 4000000
namespace Go.Proofs.YtpkldapfgcjdcaaGreatDoor
open Tryz Go.ChangeShapes Go.WideShapes Go.ChangeAt Go.RowKit Go.Sort
def nO:kS hV:=zj (λb=>(b.parent,b.f',b.hJ,b.work,b.e',b.hQ))
 (jB ib (jB (j9 .i64) (jB ib (jB ib (jB ib my)))))
theorem nO.n:nO.n=6:=rfl
theorem nO.inv {S:Nat->Prop}{w:World}{cs:List Value}{b:hV}(h:nO.rel S w cs b):
 ∃xa xc,cs= [.int .u64 b.parent,.int .i64 b.f',.int .u64 b.hJ,.int .u64 b.work,.int .u64 b.e',.slice xa b.hQ.length xc]/\i7 S w b xa xc:=by
 obtain⟨G,Y,rfl,⟨rfl,w1⟩,a2,b2,rfl,⟨rfl,w2⟩,K,b3,rfl,⟨rfl,u⟩,U,ab,rfl,⟨rfl,y⟩,V,ad,rfl,⟨rfl,z⟩,j⟩:=h;obtain⟨a,cap,rfl⟩:=nW j;exact⟨a,cap,rfl,w1,w2,u,y,z,j⟩
abbrev mh:kS (List hV):=g4 nO
theorem xo {S:Nat->Prop}{w:World}{a:Option Addr}{len cap:Nat}{l:List hV}(h:mh.rel S w [.slice a len cap] l)(k:Nat)(y:k<l.length):
 ∃b off xa xc,a=some ⟨b,off,none⟩/\b<w.heap.size/\i7 S w l[k] xa xc/\w.cell? ⟨b,off+k*6,none⟩=some (.int .u64 l[k].parent)/\w.cell? ⟨b,off+k*6+1,none⟩=some (.int .i64 l[k].f')/\w.cell? ⟨b,off+k*6+2,none⟩=some (.int .u64 l[k].hJ)/\w.cell? ⟨b,off+k*6+3,none⟩=some (.int .u64 l[k].work)/\w.cell? ⟨b,off+k*6+4,none⟩=some (.int .u64 l[k].e')/\w.cell? ⟨b,off+k*6+5,none⟩=some (.slice xa l[k].hQ.length xc):=by
 obtain⟨b,off,es,rfl,z,u,hrel,j⟩:=g4.at h k y;obtain⟨xa,xc,rfl,ht⟩:=nO.inv hrel;rw [nO.n]at j;exact⟨b,off,xa,xc,rfl,u,ht,j 0 _ rfl,j 1 _ rfl,j 2 _ rfl,j 3 _ rfl,j 4 _ rfl,j 5 _ rfl⟩
def ou (t:jO):Bool:=decide (t.marks.length<=6)&&(decide (t.outs.length<=6)&&(decide (t.proof.length<=2000)&&nG t.outs))
def jq (b:hV):Bool:=b.hQ.all ou&&decide (b.hQ.length<=4)
def vh (m d:Int)(l:List hV)(n:Int):Bool:=l.all jq&&(decide (m=2)&&(decide (d<=5)&&decide ((l.length:Int)<=n)))
theorem Ac {t:jO}(h:ou t=true):t.marks.length<=6/\t.outs.length<=6/\t.proof.length<=2000/\ ∀o∈t.outs,o.ha.length<=10:=by
 unfold ou nG at h;simp only [kg,jk,List.all_eq_true]at h;exact h
theorem yt {b:hV}(h:jq b=true):b.hQ.length<=4/\ ∀t∈b.hQ,t.marks.length<=6/\t.outs.length<=6/\t.proof.length<=2000/\ ∀o∈t.outs,o.ha.length<=10:=by
 unfold jq at h;simp only [kg,jk,List.all_eq_true]at h;exact⟨h.2,λt ht=>Ac (h.1 t ht)⟩
theorem Bh {m d:Int}{l:List hV}{n:Int}(h:vh m d l n=true):(∀b∈l,jq b=true)/\m=2/\d<=5/\(l.length:Int)<=n:=by
 unfold vh at h;simp only [kg,jk,List.all_eq_true]at h;exact h
theorem Dk (S:Nat->Prop)(w:World)(b:hV)(xa:Option Addr)(xc:Nat)(h:i7 S w b xa xc):
 Calls prog 70 #[.agg (jI b xa xc)] w (Rt w (.bool (jq b))):=by
 have ay:=(g4.lens h.hQ).2;unfold maxLen at ay;have V:=jc w (.cells (jI b xa xc) 44);have ap:=Hd (gY w (.cells (jI b xa xc) 44));obtain⟨H,y⟩:=ik (h.c' V) V;clear V h;go_enter func70,ntmps70;go_upto_region 1 with(fail);generalize w.alloc (.cells (jI b xa xc) 44)=W at*;go_wp2_with fail;go_loopw [3] (λad wr=> ∃k:Nat,k<=b.hQ.length/\ad= .int .i64 k/\Hi ((b.hQ.take k).all ou=true)/\BW W wr) (λad _=>b.hQ.length-(intOf ad).toNat)
 case atStart=>exact⟨0,iy _,rfl,by show _=_;simp,g' _ _⟩
 case round=>
  obtain⟨k,aN,rfl,ai,K⟩:=hrel;obtain⟨aj,ak⟩:=a' (b' K ap.o);by_cases hlt:k<b.hQ.length
  ·obtain⟨aJ,off,ma,oa,pa,mc,oc,pc,rfl,aK,ht,c0,c1,c2,ah,aq,ar,au,av,aw,ax⟩:=oq (my.c' H.o.hQ K) k hlt
   have al:=Hd (jW ou b.hQ k hlt);have G:Hi (ou b.hQ[k]=false->jq b=false):=λaG=>(by unfold jq;rw [all_false _ b.hQ k hlt aG];rfl);generalize b.hQ[k]=t at*;have az:=(g4.lens ht.marks).2;have aA:=(g4.lens ht.outs).2;have aC:=(g4.lens ht.proof).2;unfold maxLen at az aA aC;have Y:=jc wr (.cells (jQ t ma mc oa oc pa pc) 87);have ao:=Hd (ht.c' Y);have af:=Hd (gY wr (.cells (jQ t ma mc oa oc pa pc) 87));have z:=d' K Y;clear ht Y;go_upto_region 5 with(fail);clear c0 c1 c2 ah aq ar au av aw ax aj ak;obtain⟨X,aD⟩:=iF (wr.heap.size);rw [aD]at af⊢;generalize wr.alloc (.cells (jQ t ma mc oa oc pa pc) 87)=aU at*;obtain⟨aj,ak⟩:=a' af.o;by_cases p1:6<t.marks.length
   ·have u:Hi (jq b=false):=G.o (by unfold ou;rw [iH (p:=t.marks.length<=6) (by omega)];rfl)
    go_wp2_with fail;go_ret;exact⟨by rw [u.o];rfl,d' y.o z⟩
   ·by_cases aP:6<t.outs.length
    ·have u:Hi (jq b=false):=G.o (by unfold ou;rw [iH (p:=t.outs.length<=6) (by omega)];simp)
     go_wp2_with fail;go_ret;exact⟨by rw [u.o];rfl,d' y.o z⟩
    ·by_cases aQ:2000<t.proof.length
     ·have u:Hi (jq b=false):=G.o (by unfold ou;rw [iH (p:=t.proof.length<=2000) (by omega)];simp)
      go_wp2_with fail;go_ret;exact⟨by rw [u.o];rfl,d' y.o z⟩
     ·have ag:Hi (ou t=nG t.outs):=by show _=_;unfold ou;rw [iP (p:=t.marks.length<=6) (by omega),iP (p:=t.outs.length<=6) (by omega),iP (p:=t.proof.length<=2000) (by omega)];rfl
      go_wp2_with fail;go_loop [5] (λi=> ∃j:Nat,j<=t.outs.length/\i= .int .i64 j/\Hi (nG (t.outs.take j)=true)) (λi=>t.outs.length-(intOf i).toNat)
      case atStart=>exact⟨0,iy _,rfl,rfl⟩
      case round=>
       obtain⟨j,aM,rfl,ae⟩:=hrel;by_cases ab:j<t.outs.length
       ·obtain⟨b2,aO,ca,cc,rfl, -,aL, -, -, -,aE,c0,c1,c2,ah⟩:=mp ao.o.outs j ab
        have aF:=Hd (all_false (λo:og=>decide (o.ha.length<=10)) t.outs j ab);have aI:=Hd (jW (λo:og=>decide (o.ha.length<=10)) t.outs j ab);have aH:=(g4.lens aE).2;unfold maxLen at aH;generalize t.outs[j]=o at*
        by_cases aT:10<o.ha.length
        ·have u:Hi (jq b=false):=G.o (by rw [ag.o];unfold nG;exact aF.o (iH (by omega)))
         go_wp2_with fail;go_ret;exact⟨by rw [u.o];rfl,d' y.o z⟩
        ·have U:Hi (nG (t.outs.take (j+1))=true):=by
          show _=_;unfold nG;rw [aI.o];have h:=ae.o;unfold nG at h;rw [h,iP (by omega)];rfl
         go_wp2_with fail;go_round
         case rel=>exact⟨j+1,by omega,by go_num,U⟩
         case measure=>simp [intOf];omega
       ·obtain rfl:j=t.outs.length:=by omega
        have U:Hi ((b.hQ.take (k+1)).all ou=true):=by
         show _=_;rw [al.o,ai.o,ag.o];have h:=ae.o;rw [List.take_length]at h;rw [h];rfl
        go_wp2_with fail;go_roundw
        case rel=>exact⟨k+1,by omega,by go_num,U,z⟩
        case measure=>simp [intOf];omega
  ·obtain rfl:k=b.hQ.length:=by omega
   have u:Hi (jq b=decide (b.hQ.length<=4)):=Hd (by unfold jq;have h:=ai.o;rw [List.take_length]at h;rw [h];rfl);go_wp2_with fail;go_ret;refine⟨g8 ?_,d' y.o K⟩;rw [u.o]
   first
    |rfl
    |(simp;omega)
theorem Hq (S:Nat->Prop)(w:World)(m d bl bu qu iz win fin work:Int)(l:List hV)(la:Option Addr)(lc:Nat)(n:Int)(h:mh.rel S w [.slice la l.length lc] l):
 Calls prog 24 #[.agg (qs m d bl bu qu iz win fin work),.slice la l.length lc,.int .i64 n] w (Rt w (.bool (vh m d l n))):=by
 have ao:=(g4.lens h).2;unfold maxLen at ao;have V:=jc w (.cells (qs m d bl bu qu iz win fin work) 26);have ah:=Hd (gY w (.cells (qs m d bl bu qu iz win fin work) 26));obtain⟨H,G⟩:=ik (mh.c' h V) V;clear V h;go_enter func24,ntmps24;go_upto_region 1 with(fail);generalize w.alloc (.cells (qs m d bl bu qu iz win fin work) 26)=W at*;go_wp2_with fail;go_loopw [7] (λY wr=> ∃k:Nat,k<=l.length/\Y= .int .i64 k/\Hi ((l.take k).all jq=true)/\BW W wr) (λY _=>l.length-(intOf Y).toNat)
 case atStart=>exact⟨0,iy _,rfl,by show _=_;simp,g' _ _⟩
 case round=>
  obtain⟨k,au,rfl,ab,j⟩:=hrel;by_cases hlt:k<l.length
  ·obtain⟨aq,off,xa,xc,rfl,ar,ad,c0,c1,c2,aj,ak,al⟩:=xo (mh.c' H.o j) k hlt
   have ae:=Hd (jW jq l k hlt);have af:Hi (jq l[k]=false->vh m d l n=false):=λap=>(by unfold vh;rw [all_false _ l k hlt ap];rfl);generalize l[k]=b at*;have ag:=Hd ad;clear ad;go_wp2_with fail;refine(Dk _ wr b xa xc ag.o).mono ?_;rintro e av ⟨rfl,hb3⟩;clear c0 c1 c2 aj ak al
   cases K:jq b with
   |false=>
    have y:=Hd (af.o K);clear K;go_wp2_with fail;go_ret;exact⟨by rw [y.o];rfl,d' G.o (d' j hb3)⟩
   |true=>
    have ai:Hi ((l.take (k+1)).all jq=true):=Hd (by rw [ae.o,ab.o,K];rfl);clear K;go_wp2_with fail;go_roundw
    case rel=>exact⟨k+1,by omega,by go_num,ai,d' j hb3⟩
    case measure=>simp [intOf];omega
  ·obtain rfl:k=l.length:=by omega
   have y:Hi (vh m d l n=(decide (m=2)&&(decide (d<=5)&&decide ((l.length:Int)<=n)))):=Hd (by unfold vh;have h:=ab.o;rw [List.take_length]at h;rw [h];rfl);obtain⟨aw,ax⟩:=a' (b' j ah.o);by_cases p1:m=2
   ·subst p1
    by_cases z:d<=5
    ·by_cases U:(l.length:Int)<=n
     ·have u:Hi (vh 2 d l n=true):=by show _=_;rw [y.o];simp [z,U]
      go_wp2_with fail;go_ret;exact⟨by rw [u.o];first|rfl|simp [z,U],d' G.o j⟩
     ·have u:Hi (vh 2 d l n=false):=by show _=_;rw [y.o];simp [z,U]
      go_wp2_with fail;go_ret;exact⟨by rw [u.o];first|rfl|simp [z,U],d' G.o j⟩
    ·have u:Hi (vh 2 d l n=false):=by show _=_;rw [y.o];simp [z]
     go_wp2_with fail;go_ret;exact⟨by rw [u.o];first|rfl|simp [z],d' G.o j⟩
   ·have u:Hi (vh m d l n=false):=by show _=_;rw [y.o];simp [p1]
    have ay:(m==2)=false:=(by rw [je];exact p1);go_wp2_with fail;go_ret;exact⟨by rw [u.o];first|rfl|simp [p1],d' G.o j⟩
def o5 (m d bl bu qu iz win fin work:Int)(l:List hV)(n:Int):Bool:=vh m d l n&&(jK m d bl bu qu iz win fin work==0)
theorem q7 (S:Nat->Prop)(w:World)(m d bl bu qu iz win fin work:Int)(l:List hV)(la:Option Addr)(lc:Nat)(n:Int)(h:mh.rel S w [.slice la l.length lc] l):
 Calls prog 7 #[.agg (qs m d bl bu qu iz win fin work),.slice la l.length lc,.int .i64 n] w (Rt w (.bool (o5 m d bl bu qu iz win fin work l n))):=by
 have y:=jc w (.cells (qs m d bl bu qu iz win fin work) 26);have U:=Hd (gY w (.cells (qs m d bl bu qu iz win fin work) 26));obtain⟨H,K⟩:=ik (mh.c' h y) y;clear y h;go_enter func7,ntmps7;go_upto_region 1 with(fail);generalize w.alloc (.cells (qs m d bl bu qu iz win fin work) 26)=W at*;obtain⟨z,G⟩:=a' U.o;go_wp2_with fail;refine(Hq _ W m d bl bu qu iz win fin work l la lc n H.o).mono ?_;rintro e w1 ⟨rfl,hb1⟩;clear z G
 cases j:vh m d l n with
 |false=>
  have u:Hi (o5 m d bl bu qu iz win fin work l n=false):=Hd (by unfold o5;rw [j];rfl);clear j;go_wp2_with fail;go_ret;exact⟨by rw [u.o];rfl,d' K.o hb1⟩
 |true=>
  have u:Hi (o5 m d bl bu qu iz win fin work l n=(jK m d bl bu qu iz win fin work==0)):=Hd (by unfold o5;rw [j];rfl);clear j;obtain⟨z,G⟩:=a' (b' hb1 U.o);go_wp2_with fail;refine(rL m d bl bu qu iz win fin work w1).mono ?_;rintro e w2 ⟨rfl,hb2⟩;clear z G;go_wp2_with fail;go_ret;exact⟨by rw [u.o];rfl,d' K.o (d' hb1 hb2)⟩
theorem k6 {P:Program} {ops:Array Oper} {o:Oper} {a:Act} {w:World} {j:Act->World->Prop} {Q:Exit->Act->World->Prop} {E:Prop} (z:o.guard=none) (ty:TypeId) (x y:Operand) (G:o.op= .store ty x y)
 (g:Nat) (cells:Array Value) (U:a.eval x= .pointer (some ⟨g,0,none⟩)) (hy:a.eval y= .agg cells)
 (t:TypeId) (old:Array Value) (u:w.heap[g]? =some (.cells old t (0,0))) (hi:(P.info? ty).map (·.size)=some cells.size)
 (K:old.size=cells.size) (h1:cells.all (·.oneCell')=true)
 (h:j (a.put o.dst undef) (w.setRow g cells)):if Region.wanted o (yielded ops a.tmps)=true then Oper.wp P o a w j Q else E:=by
 have hw:Region.wanted o (yielded ops a.tmps)=true:=by simp [Region.wanted,z]
 rw [g7 hw];exact wp_store_row ty x y G g cells U hy t old u hi K h1 h
theorem setRow_other (w:World)(g k:Nat)(cs:Array Value)(h:k≠g):(w.setRow g cs).heap[k]? =w.heap[k]? :=by
 simp [World.setRow,Array.getElem?_modify,nB h]
theorem below_setRow {B:Nat}{a b:World}{g:Nat}(h:Below B a b)(j:B<=g)(cs:Array Value):Below B a (b.setRow g cs):=
 ⟨h.os,h.tape,h.output,by rw [size_setRow];exact h.size,λi hi=>by rw [setRow_other _ _ _ _ (by omega)];exact h.block i hi⟩
theorem qA {P:Program} {ops:Array Oper} {o:Oper} {a:Act} {w:World} {j:Act->World->Prop} {Q:Exit->Act->World->Prop} {E:Prop} (z:o.guard=none) (ty:TypeId) (x:Operand) (G:o.op= .load ty x)
 (g:Nat) (U:a.eval x= .pointer (some ⟨g,0,none⟩)) (t:TypeId) (cs:Array Value) (fr:Nat×Nat) (d:TypeDesc) (y:w.heap[g]? =some (.cells cs t fr))
 (K:P.underlying ty=some d) (u:(match d with| .struct _| .array _ _=>true|_=>false)=true) (hi:(P.info? ty).map (·.size)=some cs.size)
 (h:j (a.put o.dst (.agg cs)) w):if Region.wanted o (yielded ops a.tmps)=true then Oper.wp P o a w j Q else E:=by
 have hw:Region.wanted o (yielded ops a.tmps)=true:=by simp [Region.wanted,z]
 rw [g7 hw];exact wp_load_row ty x G g U t cs fr d y K u hi h
theorem yk {w:World}{b i:Nat}{l:List Value}{t:TypeId}{fr:Nat×Nat}{v:Value}(h:w.heap[b]? =some (.cells l.toArray t fr)):(w.setCell ⟨b,i,none⟩ v).heap[b]? =some (.cells (l.set i v).toArray t fr):=by
 have h1:=h6 (i:=i) (v:=v) h;rwa [List.setIfInBounds_toArray]at h1
theorem ky {P:Program} {y:Func} {p u:Tmp} {ty:TypeId} (h:y.results= #[.cell p ty,.tmp u]) {j:Array Value} {w:World} {g:Nat} {t:TypeId} {cs:Array Value} {fr:Nat×Nat} {d:TypeDesc}
 (K:j.getD p undef= .pointer (some ⟨g,0,none⟩)) (G:w.heap[g]? =some (.cells cs t fr))
 (V:P.underlying ty=some d) (z:(match d with| .struct _| .array _ _=>true|_=>false)=true) (hi:(P.info? ty).map (·.size)=some cs.size):
 (results y j).run P w= .ok (.tuple #[.agg cs,j.getD u undef]) w:=by
 have U:j[p]?.getD undef= .pointer (some ⟨g,0,none⟩):=by simpa using K
 simp [results,h,U,asAddr,run_loadVar_row w g t ty cs fr d G V z hi]
theorem KD {P:Program} {y:Func} {a p u:Tmp} {ty:TypeId} (h:y.results= #[.tmp a,.cell p ty,.tmp u]) {j:Array Value} {w:World} {g:Nat} {t:TypeId} {cs:Array Value} {fr:Nat×Nat} {d:TypeDesc}
 (K:j.getD p undef= .pointer (some ⟨g,0,none⟩)) (G:w.heap[g]? =some (.cells cs t fr))
 (V:P.underlying ty=some d) (z:(match d with| .struct _| .array _ _=>true|_=>false)=true) (hi:(P.info? ty).map (·.size)=some cs.size):
 (results y j).run P w= .ok (.tuple #[j.getD a undef,.agg cs,j.getD u undef]) w:=by
 have U:j[p]?.getD undef= .pointer (some ⟨g,0,none⟩):=by simpa using K
 simp [results,h,U,asAddr,run_loadVar_row w g t ty cs fr d G V z hi]
theorem By (w:World)(r:i4)(af:r.mode=2)(ae:qc r=0):
 Calls prog 26 #[.agg ri,.agg (p6 r)] w (Rt w (.tuple #[.agg #[false,U0,I0,S0,S0,S0,.int .i64 r.mode,.int .i64 r.depth,.int .i64 r.bl,.int .i64 r.bu,.int .i64 r.qu,r.iz,.int .i64 r.win,.int .i64 r.fin,r.work,S0,.int .i64 (-1),.int .i64 (-1)],I0])):=by
 have ad:=hd (hd (jc w (.cells ri 36)) (.cells (p6 r) 26)) (.cells pn 39);have j:=Hd (lb w (.cells ri 36) (.cells (p6 r) 26) (.cells pn 39));obtain⟨ak,aq,ar⟩:=kT ad ae af;clear ad ae af;go_enter func26,ntmps26;go_upto_region 1 with(fail);generalize ((w.alloc (.cells ri 36)).alloc (.cells (p6 r) 26)).alloc (.cells pn 39)=W at*;have G:Hi (W.heap[w.heap.size+1]? =some (Obj.cells (p6 r) 26 (0,0))):=j.o.2.1;have K:Hi (W.heap[w.heap.size+1+1]? =some (Obj.cells pn 39 (0,0))):=j.o.1;have ab:=Hd j.o.2.2;obtain⟨B2,Y⟩:=iF (w.heap.size+1+1);rw [Y]at K⊢;obtain⟨B1,V⟩:=iF (w.heap.size+1);rw [V]at G⊢;have ap:Hi (w.heap.size<=B2):=Hd (by omega);clear V Y j;obtain⟨u,y⟩:=a' ab.o;obtain⟨ag,ah⟩:=a' G.o;obtain⟨ai,aj⟩:=a' K.o;go_wp2_with fail;refine(rL r.mode r.depth r.bl r.bu r.qu r.iz r.win r.fin r.work W).mono ?_;rintro e w1 ⟨rfl,hb1⟩;rw [show jK r.mode r.depth r.bl r.bu r.qu r.iz r.win r.fin r.work=0 from aq.o];obtain⟨U,au,z,al⟩:=oX (b' hb1 ab.o) (b' hb1 G.o) (b' hb1 K.o) (d' ak.o hb1);clear u y ag ah ai aj hb1;obtain⟨u,y⟩:=a' U.o;obtain⟨ag,ah⟩:=a' au.o;obtain⟨ai,aj⟩:=a' z.o;have aw:(r.mode==3)=false:=by rw [ar.o];rfl
 clear u y;obtain⟨u,y⟩:=a' U.o;go_wp2_with (refine kI rfl _ _ _ rfl B2 _ rfl rfl _ _ z.o (by kernel_rfl) rfl (by kernel_rfl) ?_)
 have av:Hi ((w1.setRow B2 #[false,U0,I0,S0,S0,S0,.int .i64 r.mode,.int .i64 r.depth,.int .i64 r.bl,.int .i64 r.bu,.int .i64 r.qu,r.iz,.int .i64 r.win,.int .i64 r.fin,r.work,S0,.int .i64 (-1),.int .i64 (-1)]).heap[B2]? =some (Obj.cells #[false,U0,I0,S0,S0,S0,.int .i64 r.mode,.int .i64 r.depth,.int .i64 r.bl,.int .i64 r.bu,.int .i64 r.qu,r.iz,.int .i64 r.win,.int .i64 r.fin,r.work,S0,.int .i64 (-1),.int .i64 (-1)] 39 (0,0))):=kr _ _ _ _ _ _ z.o;have ao:=Hd (below_setRow (g:=B2) al.o ap.o #[false,U0,I0,S0,S0,S0,.int .i64 r.mode,.int .i64 r.depth,.int .i64 r.bl,.int .i64 r.bu,.int .i64 r.qu,r.iz,.int .i64 r.win,.int .i64 r.fin,r.work,S0,.int .i64 (-1),.int .i64 (-1)])
 (try simp only [Exit.inBlock,Exit.then])
 refine iQ (v:= .tuple #[.agg #[false,U0,I0,S0,S0,S0,.int .i64 r.mode,.int .i64 r.depth,.int .i64 r.bl,.int .i64 r.bu,.int .i64 r.qu,r.iz,.int .i64 r.win,.int .i64 r.fin,r.work,S0,.int .i64 (-1),.int .i64 (-1)],I0]) ?_ rfl ⟨rfl,ao.o⟩;exact ky results26 rfl av.o underlying39 rfl (by kernel_rfl)
theorem Do (w:World):Calls prog 19 #[] w (Rt w (.agg #[.int .i64 2,.int .i64 2,I0,I0,I0,.int .u64 10,.int .i64 3,.int .i64 2,.int .u64 1])):=by
 go_enter func19,ntmps19;go_wp2_with fail;have j:=gY w (.cells #[.int .i64 2,.int .i64 2,I0,I0,I0,.int .u64 10,.int .i64 3,.int .i64 2,.int .u64 1] 26);refine iQ (results_cell_row results19 _ _ w.heap.size _ _ _ _ rfl j underlying26 rfl (by kernel_rfl)) rfl ⟨rfl,hd (g' _ _) _⟩
end Go.Proofs.YtpkldapfgcjdcaaGreatDoor
