/- The reference of chains: Small, Few; lists of blocks as arguments. -/
import Derived.Test.YtjdiofjjoefnhaaGreatDoorMChB
set_option maxRecDepth 100000
set_option maxHeartbeats 4000000
namespace Go.Proofs.YtjdiofjjoefnhaaGreatDoor
open Tryz Go.ChangeShapes Go.WideShapes Go.ChangeAt Go.RowKit Go.Sort
def nO:kS hV:=zj (λb=>(b.parent,b.f',b.hJ,b.work,b.e',b.hQ))
 (jB ib (jB (j9 .i64) (jB ib (jB ib (jB ib my)))))
theorem nO.n:nO.n=6:=rfl
theorem nO.inv {S:UO}{w:World}{cs:List Value}{b:hV}(h:nO.rel S w cs b):
 ∃xa xc,cs= [U2 b.parent,UZ b.f',U2 b.hJ,U2 b.work,U2 b.e',.slice xa b.hQ.length xc]/\i7 S w b xa xc:=by
 obtain⟨G,Y,rfl,⟨rfl,w1⟩,a2,b2,rfl,⟨rfl,w2⟩,K,b3,rfl,⟨rfl,u⟩,U,ab,rfl,⟨rfl,y⟩,V,ad,rfl,⟨rfl,z⟩,j⟩:=h;obtain⟨a,cap,rfl⟩:=nW j;exact⟨a,cap,rfl,w1,w2,u,y,z,j⟩
abbrev mh:kS (List hV):=g4 nO
theorem xo {S:UO}{w:World}{a:UP}{len cap:Nat}{l:List hV}(h:mh.rel S w [.slice a len cap] l)(k:Nat)(y:k<l.length):
 ∃b off xa xc,a=some ⟨b,off,none⟩/\b<w.heap.size/\i7 S w l[k] xa xc/\w.cell? ⟨b,off+k*6,none⟩=some (U2 l[k].parent)/\w.cell? ⟨b,off+k*6+1,none⟩=some (UZ l[k].f')/\w.cell? ⟨b,off+k*6+2,none⟩=some (U2 l[k].hJ)/\w.cell? ⟨b,off+k*6+3,none⟩=some (U2 l[k].work)/\w.cell? ⟨b,off+k*6+4,none⟩=some (U2 l[k].e')/\w.cell? ⟨b,off+k*6+5,none⟩=some (.slice xa l[k].hQ.length xc):=by
 obtain⟨b,off,es,rfl,z,u,hrel,j⟩:=g4.at h k y;obtain⟨xa,xc,rfl,ht⟩:=nO.inv hrel;rw [nO.n]at j;exact⟨b,off,xa,xc,rfl,u,ht,j 0 _ rfl,j 1 _ rfl,j 2 _ rfl,j 3 _ rfl,j 4 _ rfl,j 5 _ rfl⟩
def ou (t:jO):Bool:=decide (t.marks.length<=6)&&(decide (t.outs.length<=6)&&(decide (t.proof.length<=2000)&&nG t.outs))
def jq (b:hV):Bool:=b.hQ.all ou&&decide (b.hQ.length<=4)
def vh (m d:Int)(l:List hV)(n:Int):Bool:=l.all jq&&(decide (m=2)&&(decide (d<=5)&&decide ((l.length:Int)<=n)))
theorem Ac {t:jO}(h:ou t=true):t.marks.length<=6/\t.outs.length<=6/\t.proof.length<=2000/\ ∀o∈t.outs,o.ha.length<=10:=by
 unfold ou nG at h;simp only [kg,jk,TJ]at h;exact h
theorem yt {b:hV}(h:jq b=true):b.hQ.length<=4/\ ∀t∈b.hQ,t.marks.length<=6/\t.outs.length<=6/\t.proof.length<=2000/\ ∀o∈t.outs,o.ha.length<=10:=by
 unfold jq at h;simp only [kg,jk,TJ]at h;exact⟨h.2,λt ht=>Ac (h.1 t ht)⟩
theorem Bh {m d:Int}{l:List hV}{n:Int}(h:vh m d l n=true):(∀b∈l,jq b=true)/\m=2/\d<=5/\(l.length:Int)<=n:=by
 unfold vh at h;simp only [kg,jk,TJ]at h;exact h
theorem Dk (S:UO)(w:World)(b:hV)(xa:UP)(xc:Nat)(h:i7 S w b xa xc):
 Calls prog 69 #[.agg (jI b xa xc)] w (Rt w (.bool (jq b))):=by
 have ay:=(g4.lens h.hQ).2;unfold maxLen at ay;have V:=jc w (.cells (jI b xa xc) 44);have ap:=Hd (gY w (.cells (jI b xa xc) 44));obtain⟨H,y⟩:=ik (h.c' V) V;clear V h;go_in;go_upto_region 1 with(fail);generalize w.alloc (.cells (jI b xa xc) 44)=W at*;go_wp2;go_loopw [3] (λad wr=> ∃k:Nat,k<=b.hQ.length/\ad= UZ k/\Hi ((b.hQ.take k).all ou=true)/\BW W wr) (λad _=>b.hQ.length-(intOf ad).toNat)
 case atStart=>exact⟨0,iy _,rfl,by show _=_;simp,g' _ _⟩
 case round=>
  obtain⟨k,aN,rfl,ai,K⟩:=hrel;obtain⟨aj,ak⟩:=a' (b' K ap.o);by_cases hlt:k<b.hQ.length
  ·obtain⟨aJ,off,ma,oa,pa,mc,oc,pc,rfl,aK,ht,c0,c1,c2,ah,aq,ar,au,av,aw,ax⟩:=oq (my.c' H.o.hQ K) k hlt
   have al:=Hd (jW ou b.hQ k hlt);have G:Hi (ou b.hQ[k]=false->jq b=false):=λaG=>(by unfold jq;rw [all_false _ b.hQ k hlt aG];rfl);generalize b.hQ[k]=t at*;have az:=(g4.lens ht.marks).2;have aA:=(g4.lens ht.outs).2;have aC:=(g4.lens ht.proof).2;unfold maxLen at az aA aC;have Y:=jc wr (.cells (jQ t ma mc oa oc pa pc) 87);have ao:=Hd (ht.c' Y);have af:=Hd (gY wr (.cells (jQ t ma mc oa oc pa pc) 87));have z:=d' K Y;clear ht Y;go_upto_region 5 with(fail);clear c0 c1 c2 ah aq ar au av aw ax aj ak;obtain⟨X,aD⟩:=iF (wr.heap.size);rw [aD]at af⊢;generalize wr.alloc (.cells (jQ t ma mc oa oc pa pc) 87)=aU at*;obtain⟨aj,ak⟩:=a' af.o;by_cases p1:6<t.marks.length
   ·have u:Hi (jq b=false):=G.o (by unfold ou;rw [iH (p:=t.marks.length<=6) UN];rfl)
    go_wp2;go_ret;exact⟨by rw [u.o];rfl,d' y.o z⟩
   ·by_cases aP:6<t.outs.length
    ·have u:Hi (jq b=false):=G.o (by unfold ou;rw [iH (p:=t.outs.length<=6) UN];simp)
     go_wp2;go_ret;exact⟨by rw [u.o];rfl,d' y.o z⟩
    ·by_cases aQ:2000<t.proof.length
     ·have u:Hi (jq b=false):=G.o (by unfold ou;rw [iH (p:=t.proof.length<=2000) UN];simp)
      go_wp2;go_ret;exact⟨by rw [u.o];rfl,d' y.o z⟩
     ·have ag:Hi (ou t=nG t.outs):=by show _=_;unfold ou;rw [iP (p:=t.marks.length<=6) UN,iP (p:=t.outs.length<=6) UN,iP (p:=t.proof.length<=2000) UN];rfl
      go_wp2_with fail;go_loop [5] (λi=> ∃j:Nat,j<=t.outs.length/\i= UZ j/\Hi (nG (t.outs.take j)=true)) (λi=>t.outs.length-(intOf i).toNat)
      case atStart=>exact⟨0,iy _,rfl,rfl⟩
      case round=>
       obtain⟨j,aM,rfl,ae⟩:=hrel;by_cases ab:j<t.outs.length
       ·obtain⟨b2,aO,ca,cc,rfl, -,aL, -, -, -,aE,c0,c1,c2,ah⟩:=mp ao.o.outs j ab
        have aF:=Hd (all_false (λo:og=>decide (o.ha.length<=10)) t.outs j ab);have aI:=Hd (jW (λo:og=>decide (o.ha.length<=10)) t.outs j ab);have aH:=(g4.lens aE).2;unfold maxLen at aH;generalize t.outs[j]=o at*
        by_cases aT:10<o.ha.length
        ·have u:Hi (jq b=false):=G.o (by rw [ag.o];unfold nG;exact aF.o (iH UN))
         go_wp2;go_ret;exact⟨by rw [u.o];rfl,d' y.o z⟩
        ·have U:Hi (nG (t.outs.take (j+1))=true):=by
          show _=_;unfold nG;rw [aI.o];have h:=ae.o;unfold nG at h;rw [h,iP UN];rfl
         go_wp2_with fail;go_round
         case rel=>exact⟨j+1,UN,by go_num,U⟩
         case measure=>exact UY
       ·obtain rfl:j=t.outs.length:=UN
        have U:Hi ((b.hQ.take (k+1)).all ou=true):=by
         show _=_;rw [al.o,ai.o,ag.o];have h:=ae.o;rw [Sw]at h;rw [h];rfl
        go_wp2;go_roundw
        case rel=>exact⟨k+1,UN,by go_num,U,z⟩
        case measure=>exact UY
  ·obtain rfl:k=b.hQ.length:=UN
   have u:Hi (jq b=decide (b.hQ.length<=4)):=Hd (by unfold jq;have h:=ai.o;rw [Sw]at h;rw [h];rfl);go_wp2;go_ret;refine⟨g8 ?_,d' y.o K⟩;rw [u.o]
   first
    |rfl
    |(simp;omega)
theorem Hq (S:UO)(w:World)(m d bl bu qu iz win fin work:Int)(l:List hV)(la:UP)(lc:Nat)(n:Int)(h:mh.rel S w [.slice la l.length lc] l):
 Calls prog 23 #[.agg (qs m d bl bu qu iz win fin work),.slice la l.length lc,UZ n] w (Rt w (.bool (vh m d l n))):=by
 have ao:=(g4.lens h).2;unfold maxLen at ao;have V:=jc w (.cells (qs m d bl bu qu iz win fin work) 26);have ah:=Hd (gY w (.cells (qs m d bl bu qu iz win fin work) 26));obtain⟨H,G⟩:=ik (mh.c' h V) V;clear V h;go_in;go_upto_region 1 with(fail);generalize w.alloc (.cells (qs m d bl bu qu iz win fin work) 26)=W at*;go_wp2;go_loopw [7] (λY wr=> ∃k:Nat,k<=l.length/\Y= UZ k/\Hi ((l.take k).all jq=true)/\BW W wr) (λY _=>l.length-(intOf Y).toNat)
 case atStart=>exact⟨0,iy _,rfl,by show _=_;simp,g' _ _⟩
 case round=>
  obtain⟨k,au,rfl,ab,j⟩:=hrel;by_cases hlt:k<l.length
  ·obtain⟨aq,off,xa,xc,rfl,ar,ad,c0,c1,c2,aj,ak,al⟩:=xo (mh.c' H.o j) k hlt
   have ae:=Hd (jW jq l k hlt);have af:Hi (jq l[k]=false->vh m d l n=false):=λap=>(by unfold vh;rw [all_false _ l k hlt ap];rfl);generalize l[k]=b at*;have ag:=Hd ad;clear ad;go_wp2_with fail;refine UR (Dk _ wr b xa xc ag.o) λav hb3=> ?_;clear c0 c1 c2 aj ak al
   cases K:jq b with
   |false=>
    have y:=Hd (af.o K);clear K;go_wp2;go_ret;exact⟨by rw [y.o];rfl,d' G.o (d' j hb3)⟩
   |true=>
    have ai:Hi ((l.take (k+1)).all jq=true):=Hd (by rw [ae.o,ab.o,K];rfl);clear K;go_wp2;go_roundw
    case rel=>exact⟨k+1,UN,by go_num,ai,d' j hb3⟩
    case measure=>exact UY
  ·obtain rfl:k=l.length:=UN
   have y:Hi (vh m d l n=(decide (m=2)&&(decide (d<=5)&&decide ((l.length:Int)<=n)))):=Hd (by unfold vh;have h:=ab.o;rw [Sw]at h;rw [h];rfl);obtain⟨aw,ax⟩:=a' (b' j ah.o);by_cases p1:m=2
   ·subst p1
    by_cases z:d<=5
    ·by_cases U:(l.length:Int)<=n
     ·have u:Hi (vh 2 d l n=true):=by show _=_;rw [y.o];simp [z,U]
      go_wp2;go_ret;exact⟨by rw [u.o];first|rfl|simp [z,U],d' G.o j⟩
     ·have u:Hi (vh 2 d l n=false):=by show _=_;rw [y.o];simp [z,U]
      go_wp2;go_ret;exact⟨by rw [u.o];first|rfl|simp [z,U],d' G.o j⟩
    ·have u:Hi (vh 2 d l n=false):=by show _=_;rw [y.o];simp [z]
     go_wp2;go_ret;exact⟨by rw [u.o];first|rfl|simp [z],d' G.o j⟩
   ·have u:Hi (vh m d l n=false):=by show _=_;rw [y.o];simp [p1]
    have ay:(m==2)=false:=(by rw [je];exact p1);go_wp2;go_ret;exact⟨by rw [u.o];first|rfl|simp [p1],d' G.o j⟩
def o5 (m d bl bu qu iz win fin work:Int)(l:List hV)(n:Int):Bool:=vh m d l n&&(jK m d bl bu qu iz win fin work==0)
theorem q7 (S:UO)(w:World)(m d bl bu qu iz win fin work:Int)(l:List hV)(la:UP)(lc:Nat)(n:Int)(h:mh.rel S w [.slice la l.length lc] l):
 Calls prog 6 #[.agg (qs m d bl bu qu iz win fin work),.slice la l.length lc,UZ n] w (Rt w (.bool (o5 m d bl bu qu iz win fin work l n))):=by
 have y:=jc w (.cells (qs m d bl bu qu iz win fin work) 26);have U:=Hd (gY w (.cells (qs m d bl bu qu iz win fin work) 26));obtain⟨H,K⟩:=ik (mh.c' h y) y;clear y h;go_in;go_upto_region 1 with(fail);generalize w.alloc (.cells (qs m d bl bu qu iz win fin work) 26)=W at*;obtain⟨z,G⟩:=a' U.o;go_wp2_with fail;refine UR (Hq _ W m d bl bu qu iz win fin work l la lc n H.o) λw1 hb1=> ?_;clear z G
 cases j:vh m d l n with
 |false=>
  have u:Hi (o5 m d bl bu qu iz win fin work l n=false):=Hd (by unfold o5;rw [j];rfl);clear j;go_wp2;go_ret;exact⟨by rw [u.o];rfl,d' K.o hb1⟩
 |true=>
  have u:Hi (o5 m d bl bu qu iz win fin work l n=(jK m d bl bu qu iz win fin work==0)):=Hd (by unfold o5;rw [j];rfl);clear j;obtain⟨z,G⟩:=a' (b' hb1 U.o);go_wp2_with fail;refine UR (rL m d bl bu qu iz win fin work w1) λw2 hb2=> ?_;clear z G;go_wp2;go_ret;exact⟨by rw [u.o];rfl,d' K.o (d' hb1 hb2)⟩
theorem k6 {P:Program} {ops:Array Oper} {o:Oper} {a:Act} {w:World} {j:Act->World->Prop} {Q:Exit->Act->World->Prop} {E:Prop} (z:o.guard=none) (ty:TypeId) (x y:Operand) (G:o.op= .store ty x y)
 (g:Nat) (cells:Array Value) (U:a.eval x= .pointer (some ⟨g,0,none⟩)) (hy:a.eval y= .agg cells)
 (t:TypeId) (old:Array Value) (u:w.heap[g]? =some (.cells old t (0,0))) (hi:(P.info? ty).map (·.size)=some cells.size)
 (K:old.size=cells.size) (h1:cells.all (·.oneCell')=true)
 (h:j (a.put o.dst undef) (w.setRow g cells)):if Region.wanted o (yielded ops a.tmps)=true then Oper.wp P o a w j Q else E:=by
 have hw:Region.wanted o (yielded ops a.tmps)=true:=by simp [Region.wanted,z]
 rw [g7 hw];exact wp_store_row ty x y G g cells U hy t old u hi K h1 h
theorem setRow_other (w:World)(g k:Nat)(cs:Array Value)(h:k≠g):(w.setRow g cs).heap[k]? =w.heap[k]? :=by
 simp [World.setRow,T8,nB h]
theorem below_setRow {B:Nat}{a b:World}{g:Nat}(h:Below B a b)(j:B<=g)(cs:Array Value):Below B a (b.setRow g cs):=
 ⟨h.os,h.tape,h.output,by rw [Uy];exact h.size,λi hi=>by rw [setRow_other _ _ _ _ UN];exact h.block i hi⟩
theorem qA {P:Program} {ops:Array Oper} {o:Oper} {a:Act} {w:World} {j:Act->World->Prop} {Q:Exit->Act->World->Prop} {E:Prop} (z:o.guard=none) (ty:TypeId) (x:Operand) (G:o.op= .load ty x)
 (g:Nat) (U:a.eval x= .pointer (some ⟨g,0,none⟩)) (t:TypeId) (cs:Array Value) (fr:Nat×Nat) (d:TypeDesc) (y:w.heap[g]? =some (.cells cs t fr))
 (K:P.underlying ty=some d) (u:(match d with| .struct _| .array _ _=>true|_=>false)=true) (hi:(P.info? ty).map (·.size)=some cs.size)
 (h:j (a.put o.dst (.agg cs)) w):if Region.wanted o (yielded ops a.tmps)=true then Oper.wp P o a w j Q else E:=by
 have hw:Region.wanted o (yielded ops a.tmps)=true:=by simp [Region.wanted,z]
 rw [g7 hw];exact wp_load_row ty x G g U t cs fr d y K u hi h
theorem yk {w:World}{b i:Nat}{l:List Value}{t:TypeId}{fr:Nat×Nat}{v:Value}(h:w.heap[b]? =some (.cells l.toArray t fr)):(w.setCell ⟨b,i,none⟩ v).heap[b]? =some (.cells (l.set i v).toArray t fr):=by
 have h1:=h6 (i:=i) (v:=v) h;rwa [List.setIfInBounds_toArray]at h1
theorem ky {P:Program} {y:Func} {p u:Tmp} {ty:TypeId} (h:y.results= #[.cell p ty,.tmp u]) {j:Array Value} {w:World} {g:Nat} {t:TypeId} {cs:Array Value} {fr:Nat×Nat} {d:TypeDesc}
 (K:j.getD p undef= .pointer (some ⟨g,0,none⟩)) (G:w.heap[g]? =some (.cells cs t fr))
 (V:P.underlying ty=some d) (z:(match d with| .struct _| .array _ _=>true|_=>false)=true) (hi:(P.info? ty).map (·.size)=some cs.size):
 (results y j).run P w= .ok (.tuple #[.agg cs,j.getD u undef]) w:=by
 have U:j[p]?.getD undef= .pointer (some ⟨g,0,none⟩):=by simpa using K
 simp [results,h,U,asAddr,run_loadVar_row w g t ty cs fr d G V z hi]
theorem KD {P:Program} {y:Func} {a p u:Tmp} {ty:TypeId} (h:y.results= #[.tmp a,.cell p ty,.tmp u]) {j:Array Value} {w:World} {g:Nat} {t:TypeId} {cs:Array Value} {fr:Nat×Nat} {d:TypeDesc}
 (K:j.getD p undef= .pointer (some ⟨g,0,none⟩)) (G:w.heap[g]? =some (.cells cs t fr))
 (V:P.underlying ty=some d) (z:(match d with| .struct _| .array _ _=>true|_=>false)=true) (hi:(P.info? ty).map (·.size)=some cs.size):
 (results y j).run P w= .ok (.tuple #[j.getD a undef,.agg cs,j.getD u undef]) w:=by
 have U:j[p]?.getD undef= .pointer (some ⟨g,0,none⟩):=by simpa using K
 simp [results,h,U,asAddr,run_loadVar_row w g t ty cs fr d G V z hi]
theorem By (w:World)(r:i4)(af:r.mode=2)(ae:qc r=0):
 Calls prog 25 #[.agg ri,.agg (p6 r)] w (Rt w (.tuple #[.agg (UU r),I0])):=by
 have ad:=hd (hd (jc w (.cells ri 36)) (.cells (p6 r) 26)) (.cells pn 39);have j:=Hd (lb w (.cells ri 36) (.cells (p6 r) 26) (.cells pn 39));obtain⟨ak,aq,ar⟩:=kT ad ae af;clear ad ae af;go_in;go_upto_region 1 with(fail);generalize ((w.alloc (.cells ri 36)).alloc (.cells (p6 r) 26)).alloc (.cells pn 39)=W at*;have G:Hi (W.heap[w.heap.size+1]? =some (Obj.cells (p6 r) 26 (0,0))):=j.o.2.1;have K:Hi (W.heap[w.heap.size+1+1]? =some (Obj.cells pn 39 (0,0))):=j.o.1;have ab:=Hd j.o.2.2;obtain⟨B2,Y⟩:=iF (w.heap.size+1+1);rw [Y]at K⊢;obtain⟨B1,V⟩:=iF (w.heap.size+1);rw [V]at G⊢;have ap:Hi (w.heap.size<=B2):=Hd UN;clear V Y j;obtain⟨u,y⟩:=a' ab.o;obtain⟨ag,ah⟩:=a' G.o;obtain⟨ai,aj⟩:=a' K.o;go_wp2_with fail;refine UR (rL r.mode r.depth r.bl r.bu r.qu r.iz r.win r.fin r.work W) λw1 hb1=> ?_;rw [show jK r.mode r.depth r.bl r.bu r.qu r.iz r.win r.fin r.work=0 from aq.o];obtain⟨U,au,z,al⟩:=oX (b' hb1 ab.o) (b' hb1 G.o) (b' hb1 K.o) (d' ak.o hb1);clear u y ag ah ai aj hb1;obtain⟨u,y⟩:=a' U.o;obtain⟨ag,ah⟩:=a' au.o;obtain⟨ai,aj⟩:=a' z.o;have aw:(r.mode==3)=false:=by rw [ar.o];rfl
 clear u y;obtain⟨u,y⟩:=a' U.o;go_wp2_with (refine kI rfl _ _ _ rfl B2 _ rfl rfl _ _ z.o UQ rfl UQ ?_)
 have av:Hi ((w1.setRow B2 (UU r)).heap[B2]? =some (Obj.cells (UU r) 39 (0,0))):=kr _ _ _ _ _ _ z.o;have ao:=Hd (below_setRow (g:=B2) al.o ap.o (UU r))
 (try simp only [Exit.inBlock,Exit.then])
 refine iQ (v:= .tuple #[.agg (UU r),I0]) ?_ rfl ⟨rfl,ao.o⟩;exact ky results25 rfl av.o underlying39 rfl UQ
theorem Do (w:World):Calls prog 18 #[] w (Rt w (.agg #[UZ 2,UZ 2,I0,I0,I0,U2 10,UZ 3,UZ 2,U2 1])):=by
 go_in;go_wp2_with fail;have j:=gY w (.cells #[UZ 2,UZ 2,I0,I0,I0,U2 10,UZ 3,UZ 2,U2 1] 26);refine iQ (results_cell_row results18 _ _ w.heap.size _ _ _ _ rfl j underlying26 rfl UQ) rfl ⟨rfl,hd (g' _ _) _⟩
section
variable (c:Nat) (SB PI:UO) (w:World) (r:i4) (m:k7) (bs:List hV) (v:p3)
def xz (m:k7)(x:Int):Int:=((iA m.L x).map (·.jy)).getD 0
theorem IO (h:j5 c SB PI w r m bs v)(x:Int)(ad:iZ x):
 Calls prog 60 #[.pointer (some ⟨c,0,none⟩),x] w (Rt w (.tuple #[(xz m x),.bool (iA m.L x).isSome])):=by
 obtain⟨ae,ah⟩:=a' h.cell;simp only [jw]at ae;have u:=h.map.look_ok x ad
 cases j:iA m.L x with
 |none=>
  have K:Hi (xz m x=0):=Hd (by unfold xz;rw [j];rfl);rw [j]at u;have ab:(Instr.lookup 77 (.map (some v.mb)) (U2 x) true).run prog w= .ok (.tuple #[.agg #[U0,I0,U0,U0,U0,S0,U0],false]) w:=u;have V:=Hd (gY w (.cells #[U0,I0,U0,U0,U0,S0,U0] 81));clear u h j;go_in;go_upto_region 2 with(refine kI rfl _ _ _ rfl w.heap.size _ rfl rfl _ _ V.o UQ rfl UQ ?_)
  obtain⟨w2,z,G,U⟩: ∃y,_=y/\Hi (BW w y)/\Hi (y.heap[w.heap.size]? =some (.cells #[U0,I0,U0,U0,U0,S0,U0] 81 (0,0))):=
   ⟨_,rfl,below_setRow (g:=w.heap.size) (hd (g' _ _) (.cells #[U0,I0,U0,U0,U0,S0,U0] 81)) (g9 _) #[U0,I0,U0,U0,U0,S0,U0],kr _ _ _ _ _ _ V.o⟩
  rw [z];clear z;obtain⟨af,ag⟩:=a' U.o;go_wp2;go_ret2;exact⟨by rw [K.o];rfl,G.o⟩
 |some s=>
  have K:Hi (xz m x=s.jy):=Hd (by unfold xz;rw [j];rfl);rw [j]at u;have ab:(Instr.lookup 77 (.map (some v.mb)) (U2 x) true).run prog w= .ok (.tuple #[.agg #[s.b.parent,UZ s.b.f',s.b.hJ,s.b.work,s.b.e',.slice s.xa s.b.hQ.length s.xc,s.jy],true]) w:=u;have Y:=Hd (gY w (.cells #[U0,I0,U0,U0,U0,S0,U0] 81));clear u h j;go_in;go_upto_region 2 with(refine kI rfl _ _ _ rfl w.heap.size _ rfl rfl _ _ Y.o UQ rfl UQ ?_)
  obtain⟨w2,z,G,U⟩: ∃y,_=y/\Hi (BW w y)/\Hi (y.heap[w.heap.size]? =some (.cells #[s.b.parent,UZ s.b.f',s.b.hJ,s.b.work,s.b.e',.slice s.xa s.b.hQ.length s.xc,s.jy] 81 (0,0))):=
   ⟨_,rfl,below_setRow (g:=w.heap.size) (hd (g' _ _) (.cells #[U0,I0,U0,U0,U0,S0,U0] 81)) (g9 _) #[s.b.parent,UZ s.b.f',s.b.hJ,s.b.work,s.b.e',.slice s.xa s.b.hQ.length s.xc,s.jy],kr _ _ _ _ _ _ Y.o⟩
  rw [z];clear z;obtain⟨af,ag⟩:=a' U.o;go_wp2;go_ret2;exact⟨by rw [K.o];rfl,G.o⟩
def OI (m:k7)(x:Int)(w:World)(e:Ending)(w':World):Prop:=
 (iA m.L x=none/\e= .returned (.tuple #[.agg #[U0,I0,U0,U0,U0,S0],false])/\BW w w')\/
 ∃(s:mB) (j:UP) (u:Nat),iA m.L x=some s/\e= .returned (.tuple #[.agg #[s.b.parent,UZ s.b.f',s.b.hJ,s.b.work,s.b.e',.slice j s.b.hQ.length u],true])/\i7 (λk=>w.heap.size<=k) w' s.b j u/\BW w w'
theorem Hy (h:j5 c SB PI w r m bs v)(aG: ∀e∈m.L,jX e.b=0)(x:Int)(aH:iZ x):
 Calls prog 59 #[.pointer (some ⟨c,0,none⟩),x] w (OI m x w):=by
 have ae:=jc w (.cells #[U0,I0,U0,U0,U0,S0] 44);obtain⟨aj,H,ag⟩:=kT (gY w (.cells #[U0,I0,U0,U0,U0,S0] 44)) (h.c' ae) ae;clear ae h;go_in;go_upto_region 1 with(fail);generalize w.alloc (.cells #[U0,I0,U0,U0,U0,S0] 44)=W at*;obtain⟨aq,aI⟩:=a' H.o.cell;simp only [jw]at aq;have K:=H.o.map.look_ok x aH
 cases j:iA m.L x with
 |none=>
  rw [j]at K;have aE:(Instr.lookup 77 (.map (some v.mb)) (U2 x) true).run prog W= .ok (.tuple #[.agg #[U0,I0,U0,U0,U0,S0,U0],false]) W:=K;obtain⟨az,ad⟩:=ik (gY W (.cells #[U0,I0,U0,U0,U0,S0,U0] 81)) j;clear K j;go_upto_region 2 with(refine kI rfl _ _ _ rfl W.heap.size _ rfl rfl _ _ az.o UQ rfl UQ ?_)
  obtain⟨w2,V,G⟩: ∃y,_=y/\Hi (BW W y):=
   ⟨_,rfl,below_setRow (g:=W.heap.size) (hd (g' _ _) (.cells #[U0,I0,U0,U0,U0,S0,U0] 81)) (g9 _) #[U0,I0,U0,U0,U0,S0,U0]⟩
  rw [V];have U:=Hd (b' G.o aj.o);clear V;go_wp2_with (refine kI rfl _ _ _ rfl w.heap.size _ rfl rfl _ _ U.o UQ rfl UQ ?_)
  have Y:Hi ((w2.setRow w.heap.size #[U0,I0,U0,U0,U0,S0]).heap[w.heap.size]? =some (Obj.cells #[U0,I0,U0,U0,U0,S0] 44 (0,0))):=kr _ _ _ _ _ _ U.o;have ab:=Hd (below_setRow (g:=w.heap.size) (d' ag.o G.o) (g9 _) #[U0,I0,U0,U0,U0,S0])
  (try simp only [Exit.inBlock,Exit.then])
  refine iQ (v:= .tuple #[.agg #[U0,I0,U0,U0,U0,S0],false]) ?_ rfl (.inl ⟨ad.o,rfl,ab.o⟩);exact ky results59 rfl Y.o underlying44 rfl UQ
 |some s=>
  have ap:=aG s (kx j).1;have ao:=(H.o.blocks s (kx j).1).1;rw [j]at K;have aE:(Instr.lookup 77 (.map (some v.mb)) (U2 x) true).run prog W= .ok (.tuple #[.agg #[s.b.parent,UZ s.b.f',s.b.hJ,s.b.work,s.b.e',.slice s.xa s.b.hQ.length s.xc,s.jy],true]) W:=K;obtain⟨ak,ad,au,ah⟩:=oX (gY W (.cells #[U0,I0,U0,U0,U0,S0,U0] 81)) j ao ap;clear K j ao ap;go_upto_region 2 with(refine kI rfl _ _ _ rfl W.heap.size _ rfl rfl _ _ ak.o UQ rfl UQ ?_)
  obtain⟨w2,V,G,aA⟩: ∃y,_=y/\Hi (BW W y)/\Hi (y.heap[W.heap.size]? =some (.cells #[s.b.parent,UZ s.b.f',s.b.hJ,s.b.work,s.b.e',.slice s.xa s.b.hQ.length s.xc,s.jy] 81 (0,0))):=
   ⟨_,rfl,below_setRow (g:=W.heap.size) (hd (g' _ _) (.cells #[U0,I0,U0,U0,U0,S0,U0] 81)) (g9 _) #[s.b.parent,UZ s.b.f',s.b.hJ,s.b.work,s.b.e',.slice s.xa s.b.hQ.length s.xc,s.jy],kr _ _ _ _ _ _ ak.o⟩
  rw [V];obtain⟨U,av⟩:=ik (b' G.o aj.o) (au.o.c' G.o);clear V aq aI;obtain⟨aJ,aK⟩:=a' aA.o;go_wp2_with fail;refine(wM _ w2 s.b s.xa s.xc av.o (kQ ah.o).2.2.2.2.2.2 (λt ht=>by
   have h1:=JO ah.o;rw [TJ]at h1;have h2:=h1 t ht;rw [iO]at h2;obtain⟨aL,a2,aC, -, -,aD⟩:=mt h2;exact⟨UN,UN,aD,λo aF=>by rw [aC o aF];omega⟩)).mono ?_
  rintro e af⟨u,z,rfl,al,hb3⟩;obtain⟨Y,aw,ab⟩:=kT (b' hb3 U.o) al (d' ag.o (d' G.o hb3));have ai:Hi (w.heap.size<w2.heap.size):=ii U.o;clear aJ aK al hb3;go_wp2_with (refine kI rfl _ _ _ rfl w.heap.size _ rfl rfl _ _ Y.o UQ rfl UQ ?_)
  have ay:Hi ((af.setRow w.heap.size #[s.b.parent,UZ s.b.f',s.b.hJ,s.b.work,s.b.e',.slice u s.b.hQ.length z]).heap[w.heap.size]? =some (Obj.cells #[s.b.parent,UZ s.b.f',s.b.hJ,s.b.work,s.b.e',.slice u s.b.hQ.length z] 44 (0,0))):=kr _ _ _ _ _ _ Y.o;have ar:=Hd (below_setRow (g:=w.heap.size) ab.o (g9 _) #[s.b.parent,UZ s.b.f',s.b.hJ,s.b.work,s.b.e',.slice u s.b.hQ.length z]);have ax:Hi (i7 (λk=>w.heap.size<=k) (af.setRow w.heap.size #[s.b.parent,UZ s.b.f',s.b.hJ,s.b.work,s.b.e',.slice u s.b.hQ.length z]) s.b u z):=(aw.o.keep ((i9 af w.heap.size #[s.b.parent,UZ s.b.f',s.b.hJ,s.b.work,s.b.e',.slice u s.b.hQ.length z]).mono λk _ (h:w2.heap.size<=k)=>by show k≠_;have:=ai.o;omega)).mono λk _ (h:w2.heap.size<=k)=>by have:=ai.o;omega
  (try simp only [Exit.inBlock,Exit.then])
  refine iQ (v:= .tuple #[.agg #[s.b.parent,UZ s.b.f',s.b.hJ,s.b.work,s.b.e',.slice u s.b.hQ.length z],true]) ?_ rfl (.inr ⟨s,u,z,ad.o,rfl,ax.o,ar.o⟩);exact ky results59 rfl ay.o underlying44 rfl UQ
end
end Go.Proofs.YtjdiofjjoefnhaaGreatDoor
