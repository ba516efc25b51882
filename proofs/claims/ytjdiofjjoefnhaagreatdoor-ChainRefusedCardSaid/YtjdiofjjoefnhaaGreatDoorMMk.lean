/- Maps whose keys are numbers: what a block holds, as a list of pairs; look-up, store, delete, length. -/
import Derived.Test.YtjdiofjjoefnhaaGreatDoorMTxR
import Derived.Maps.OwnSet
import Derived.Maps.OwnOps
import Derived.Maps.RangeWalk
set_option maxRecDepth 100000
set_option maxHeartbeats 1000000
namespace Go.Proofs.YtjdiofjjoefnhaaGreatDoor
open Tryz Go.ChangeShapes Go.WideShapes Go.ChangeAt Go.RowKit Go.Sort Go.Maps
def uu (v:Value):Option (DataW Value×List MemPlace):=some (.held v,[])
theorem Ea:Keyed prog 24:=int_keyed underlying24
abbrev kY:=List (Int×Value)
def qN (m:kY):DataW Value:= .map (m.map λp=>(.int .u64 p.1,.held p.2))
def getM (m:kY)(x:Int):Option Value:=(m.find? λp=>p.1==x).map (·.2)
def tN (p:Int×Value):kY->kY
 | []=> [p]
 |q::r=>if p.1<q.1 then p::q::r else q::tN p r
def wX (m:kY)(x:Int):kY:=m.filter λp=>p.1 != x
def vg (m:kY)(x:Int)(v:Value):kY:=tN (x,v) (wX m x)
theorem ql (a b:Int):(Lit.int .u64 a).sameKey (.int .u64 b)=(a==b):=by
 simp only [Lit.sameKey,Ux];by_cases h:a=b<;>simp [h]
theorem Gj (p:Int×Value): ∀m:kY,DataW.insert (Lit.int .u64 p.1,DataW.held p.2) (m.map λp=>(Lit.int .u64 p.1,DataW.held p.2))=(tN p m).map λp=>(Lit.int .u64 p.1,DataW.held p.2)
 | []=>rfl
 |q::r=>by
  have e:(Lit.int IntKind.u64 p.1).before (.int IntKind.u64 q.1)=decide (p.1<q.1):=rfl;by_cases h:p.1<q.1
  ·simp [DataW.insert,tN,e,h]
  ·simp [DataW.insert,tN,e,h,Gj p r]
theorem Gm (m:kY)(x:Int):(qN m).del (.int .u64 x)=qN (wX m x):=by
 unfold qN wX;show DataW.map (List.filter _ _)=_;rw [List.filter_map];congr 2;refine List.filter_congr λp _=> ?_;show(!(Lit.int IntKind.u64 p.1).sameKey (.int .u64 x))=(p.1 != x);rw [ql];rfl
theorem Gi (m:kY)(x:Int)(v:Value):(qN m).put (.int .u64 x) (.held v)=qN (vg m x v):=by
 have h:=Gm m x;unfold qN at h;unfold qN vg;rw [<-Gj (x,v) (wX m x)];show DataW.map (DataW.insert (Lit.int .u64 x,DataW.held v) (List.filter _ _))=_;have j:(List.map (λp:Int×Value=>(Lit.int IntKind.u64 p.1,(DataW.held p.2:DataW Value))) m).filter (λp=> !p.1.sameKey (.int .u64 x))=(wX m x).map λp=>(Lit.int .u64 p.1,DataW.held p.2):=DataW.map.inj h;rw [j]
theorem A4 (m:kY)(x:Int)(z:Value):(qN m).atKey (.int .u64 x) (.held z)= .held ((getM m x).getD z):=by
 unfold qN getM;simp only [DataW.atKey];rw [List.find?_map];have e:((λp:Lit×DataW Value=>p.1.sameKey (.int .u64 x))∘λp:Int×Value=>(Lit.int IntKind.u64 p.1,DataW.held p.2))=λp=>p.1==x:=by funext p;exact ql p.1 x
 rw [e]
 cases m.find? λp=>p.1==x<;>rfl
theorem Gl (m:kY)(x:Int):Maps.has (qN m) (.int .u64 x)=(getM m x).isSome:=by
 unfold qN getM;rw [has_eq,List.any_map,Option.isSome_map];have e:((λp:Lit×DataW Value=>p.1.sameKey (.int .u64 x))∘λp:Int×Value=>(Lit.int IntKind.u64 p.1,DataW.held p.2))=λp=>p.1==x:=by funext p;exact ql p.1 x
 rw [e]
 induction m with
 |nil=>rfl
 |cons q r j=>
  rw [List.any_cons,Un,j]
  cases q.1==x<;>rfl
theorem yi (m:kY):Maps.size (qN m)=m.length:=by
 unfold qN;rw [size_eq,TC]
theorem C0 (p:Int×Value): ∀m:kY,(tN p m).length=m.length+1
 | []=>rfl
 |q::r=>by
  unfold tN;split
  ·rfl
  ·simp [C0 p r]
theorem JI (m:kY)(x:Int):(wX m x).length<=m.length:=List.length_filter_le _ _
theorem CM (m:kY)(x:Int)(v:Value):(vg m x v).length<=m.length+1:=by
 unfold vg;rw [C0];have:=JI m x;omega
theorem wH (x:Int)(v:Value): ∀m:kY,(∀p∈m,p.1≠x)->getM (tN (x,v) m) x=some v
 | [],_=>by simp [tN,getM]
 |q::r,h=>by
  have y:(q.1==x)=false:=by rw [je];exact h q US
  have j:=wH x v r λp u=>h p (by simp [u]);unfold tN;split
  ·simp [getM]
  ·unfold getM at j⊢;rw [Un,y];exact j
theorem uW (x y:Int)(v:Value)(j:y≠x): ∀m:kY,getM (tN (x,v) m) y=getM m y
 | []=>by simp [tN,getM,nB j]
 |q::r=>by
  have u:=uW x y v j r;have e:((x==y)=false):=by rw [je];exact nB j
  unfold tN;split
  ·unfold getM;rw [Un];simp only [e]
  ·unfold getM at u⊢
   rw [Un,Un]
   cases q.1==y
   ·exact u
   ·rfl
theorem zE (m:kY)(x y:Int)(h:y≠x):getM (wX m x) y=getM m y:=by
 induction m with
 |nil=>rfl
 |cons q r z=>
  unfold getM wX at z⊢;rw [List.filter_cons]
  conv=>rhs;rw [Un]
  by_cases u:q.1=y
  ·have G:(q.1 != x)=true:=by rw [iB,u];exact h
   have j:(q.1==y)=true:=(by rw [iO];exact u);rw [g7 G,Un,j]
  ·have j:(q.1==y)=false:=by rw [je];exact u
   rw [j];split
   ·rw [Un,j];exact z
   ·exact z
theorem rP (m:kY)(x:Int)(v:Value):getM (vg m x v) x=some v:=
 wH x v _ λp j=>by have:=(List.mem_filter.1 j).2;simpa using this
theorem qJ (m:kY)(x y:Int)(v:Value)(h:y≠x):getM (vg m x v) y=getM m y:=by
 unfold vg;rw [uW x y v h,zE m x y h]
def MapAt (w:World)(b:Nat)(m:kY):Prop:=w.ownsMap prog 24 uu b m.length (qN m)
theorem MapAt.of {w:World}{b n:Nat}{m:kY}(h:w.ownsMap prog 24 uu b n (qN m)):MapAt w b m:=by
 obtain⟨es,clock,u,F,_,j⟩:=h;refine⟨es,clock,u,F,?_,j⟩;have:=congrArg Maps.size j;rw [yi]at this;simp [Maps.size,length_sorted]at this;omega
theorem MapAt.lt {w:World}{b:Nat}{m:kY}(h:MapAt w b m):b<w.heap.size:=World.ownsMap.lt h
theorem MapAt.at' {w w':World}{b:Nat}{m:kY}(h:MapAt w b m)(j:w'.heap[b]? =w.heap[b]?):MapAt w' b m:=by
 obtain⟨es,clock,h1,h2⟩:=h;exact⟨es,clock,j.trans h1,h2⟩
theorem MapAt.keep {S:UO}{w w':World}{b:Nat}{m:kY}(h:MapAt w b m)(u:Kept S w w')(j:S b):MapAt w' b m:=h.at' (u.block b h.lt j)
theorem MapAt.c' {w w':World}{b:Nat}{m:kY}(h:MapAt w b m)(j:BW w w'):MapAt w' b m:=h.keep (S:=λk=>k<w.heap.size) (Kept.of_below j) h.lt
theorem rD (w:World):MapAt (w.alloc (.map #[] 0)) w.heap.size []:=World.ownsMap_made w _ _ _
theorem MapAt.look {w:World}{b:Nat}{m:kY}(h:MapAt w b m){t e:TypeId}(ht:prog.underlying t=some (.map 24 e)){z:Value}(G:(zeroValue e).run prog w= .ok z w)(x:Int)(y:iZ x):
 (Instr.lookup t (.map (some b)) (.int .u64 x) false).run prog w= .ok ((getM m x).getD z) w:=by
 obtain⟨v,ps,u,j⟩:=World.ownsMap.lookup h Ea ht G (zd:= .held z) (zp:= []) rfl (key:= .int .u64 x) (kl:= .int .u64 x) (keyOf_int_mk underlying24 y);rw [A4]at j;obtain rfl:v=(getM m x).getD z:=by simpa [uu]using congrArg (Option.map Prod.fst) j
 exact u
theorem MapAt.look_ok {w:World}{b:Nat}{m:kY}(h:MapAt w b m){t e:TypeId}(ht:prog.underlying t=some (.map 24 e)){z:Value}(G:(zeroValue e).run prog w= .ok z w)(x:Int)(y:iZ x):
 (Instr.lookup t (.map (some b)) (.int .u64 x) true).run prog w= .ok (.tuple #[(getM m x).getD z,.bool (getM m x).isSome]) w:=by
 obtain⟨v,ps,j,u⟩:=World.ownsMap.look_ok h Ea ht G (zd:= .held z) (zp:= []) rfl (key:= .int .u64 x) (kl:= .int .u64 x) (keyOf_int_mk underlying24 y);rw [A4]at u;rw [Gl]at j;obtain rfl:v=(getM m x).getD z:=by simpa [uu]using congrArg (Option.map Prod.fst) u
 exact j
theorem MapAt.len {w:World}{b:Nat}{m:kY}(h:MapAt w b m){t e:TypeId}(ht:prog.underlying t=some (.map 24 e))(ty:TypeId):(Builtin.len_ #[t] ty #[.map (some b)]).run prog w= .ok (.int .i64 m.length) w:=by
 have:=World.ownsMap.len h ht ty;rwa [yi]at this
def tZ (b:Nat)(w w':World):Prop:=Kept (λk=>k≠b) w w'
theorem l6 {w w':World}{b:Nat}(h:w.mapTurned w' b):tZ b w w'/\w'.heap.size=w.heap.size:=by
 have j:=h.grown;refine⟨⟨j.os,j.tape,j.output,j.size,λk u y=>j.block k u λe=>y (jR e)⟩,?_⟩;obtain⟨es,clock,G,z,_,rfl⟩:=h;simp [ChangeMaps.setBlock]
theorem sI {P:Program} (u:P=prog) (w:World) {ops:Array Oper} {rest:List Oper} {o:Oper} {a:Act} {Q:Exit->Act->World->Prop}
 (y:o.guard=none) (m x v:Operand) (t:TypeId) (U:o.op=Op.mapUpdate t m x v) (e:TypeId) (ht:prog.underlying t=some (.map 24 e)) (b:Nat) (l:kY)
 (G:a.eval m= .map (some b)) (V:MapAt w b l) (K:l.length<maxLen) (k:Int) (val:Value) (ab:a.eval x= .int .u64 k) (z:iZ k) (Y:a.eval v=val)
 (j: ∀w',MapAt w' b (vg l k val)->tZ b w w'->w'.heap.size=w.heap.size->wpList P ops Q rest (a.put o.dst undef) w'):
 wpList P ops Q (o::rest) a w:=by
 subst u;refine wpList_mapUpdate_in w y m x v t U 24 e Ea ht uu b l.length (qN l) G V K (.int .u64 k) val (.int .u64 k) ab Y (keyOf_int_mk underlying24 z) (.held val) [] rfl λw' h1 h2=> ?_;rw [Gi]at h1;exact j w' (MapAt.of h1) (l6 h2).1 (l6 h2).2
theorem Df {P:Program} (u:P=prog) (w:World) {ops:Array Oper} {rest:List Oper} {o:Oper} {a:Act} {Q:Exit->Act->World->Prop}
 (y:o.guard=none) (m x:Operand) (t:TypeId) (K:o.op=Op.call { callee:=Callee.builtin Builtin.delete,args:= #[m,x],argTypes:= #[t,24] }) (e:TypeId) (ht:prog.underlying t=some (.map 24 e)) (b:Nat) (l:kY)
 (G:a.eval m= .map (some b)) (U:MapAt w b l) (k:Int) (V:a.eval x= .int .u64 k) (z:iZ k)
 (j: ∀w',MapAt w' b (wX l k)->tZ b w w'->w'.heap.size=w.heap.size->wpList P ops Q rest (a.put o.dst (.tuple #[])) w'):
 wpList P ops Q (o::rest) a w:=by
 subst u;refine wpList_delete_own w y m x t 24 K e Ea ht uu b l.length (qN l) G U (.int .u64 k) (.int .u64 k) V (keyOf_int_mk underlying24 z) λw' h1 h2=> ?_;rw [Gm]at h1;exact j w' (MapAt.of h1) (l6 h2).1 (l6 h2).2
def nR (w:World)(b r:Nat)(m:kY)(left:Int->Bool)(u:Nat):Prop:=
 ∃j:Lit->Bool,w.ranges prog 24 uu b r m.length (qN m) j u/\ ∀x,j (.int .u64 x)=left x
theorem nR.map {w:World}{b r:Nat}{m:kY}{left:Int->Bool}{j:Nat}(h:nR w b r m left j):MapAt w b m:=by
 obtain⟨u,h1, -⟩:=h;exact h1.owns
theorem nR.left {w:World}{b r:Nat}{m:kY}{left:Int->Bool}{j:Nat}(h:nR w b r m left j):w.rangeLeft b r=j:=by
 obtain⟨u,h1, -⟩:=h;exact h1.left_eq
theorem nR.keep {S:UO}{w w':World}{b r:Nat}{m:kY}{left:Int->Bool}{j:Nat}(h:nR w b r m left j)(y:Kept S w w')(U:S b)(hr:S r):nR w' b r m left j:=by
 obtain⟨Y,⟨es,clock,since,seen,c0,h1,h2,z,G,u,K⟩,V⟩:=h;exact⟨Y,⟨es,clock,since,seen,c0,(y.block b (ii h1) U).trans h1,h2,z,G,(y.block r (ii u) hr).trans u,K⟩,V⟩
theorem nR.lt {w:World}{b r:Nat}{m:kY}{left:Int->Bool}{j:Nat}(h:nR w b r m left j):b<w.heap.size/\r<w.heap.size/\r≠b:=by
 obtain⟨u,h1, -⟩:=h;exact⟨h1.owns.lt,h1.lt,h1.ne⟩
theorem nR.c' {w w':World}{b r:Nat}{m:kY}{left:Int->Bool}{j:Nat}(h:nR w b r m left j)(u:BW w w'):nR w' b r m left j:=
 h.keep (S:=λk=>k<w.heap.size) (Kept.of_below u) h.lt.1 h.lt.2.1
theorem qy {P:Program} (y:P=prog) (w:World) {ops:Array Oper} {rest:List Oper} {o:Oper} {a:Act} {Q:Exit->Act->World->Prop} (z:o.guard=none) (m:Operand) (t:TypeId) (K:o.op=Op.range t m) (e:TypeId) (ht:prog.underlying t=some (.map 24 e)) (b:Nat) (l:kY)
 (G:a.eval m= .map (some b)) (U:MapAt w b l)
 (u: ∀w',nR w' b w.heap.size l (λx=>(getM l x).isSome) l.length->BW w w'->w'.heap.size=w.heap.size+1->wpList P ops Q rest (a.put o.dst (.pointer (some ⟨w.heap.size,0,none⟩))) w'):
 wpList P ops Q (o::rest) a w:=by
 subst y;refine wpList_range_own w z m t K 24 e Ea ht uu b l.length (qN l) G U λw' h1 h2 j=> ?_;rw [yi]at h1;exact u w' ⟨_,h1,λx=>Gl l x⟩ ⟨h2.os,h2.tape,h2.output,h2.size,λi hi=>h2.block i hi US⟩ j
theorem rK {P:Program} (aj:P=prog) (w:World) {ops:Array Oper} {rest:List Oper} {o:Oper} {a:Act} {Q:Exit->Act->World->Prop} (al:o.guard=none) (it:Operand) (av:o.op=Op.next it false) (b r:Nat) (l:kY) (left:Int->Bool) (z:Nat)
 (aq:a.eval it= .pointer (some ⟨r,0,none⟩)) (h:nR w b r l left z)
 (hDone:z=0->(∀x,left x=false)->wpList P ops Q rest (a.put o.dst (.tuple #[false])) w)
 (hMore: ∀(x:Int) (v:Value) (w':World) (G:Nat),iZ x->left x=true->getM l x=some v->nR w' b r l (λy=>left y&& !(y==x)) G->G<z->Kept (λk=>k≠r) w w'->w'.heap.size=w.heap.size->
   (Instr.entry (.pointer (some ⟨r,0,none⟩))).run prog w'= .ok (.tuple #[x,v]) w'->wpList P ops Q rest (a.put o.dst (.tuple #[true,x,v])) w'):
 wpList P ops Q (o::rest) a w:=by
 subst aj;obtain⟨af,hr,V⟩:=h
 refine wpList_next_ranges w al it av 24 Ea uu (Value.int .u64) (λv=>v) (λkey kl U=>by obtain⟨x,rfl,_⟩:=Maps.keyOf_int_inv underlying24 U;exact⟨x,rfl⟩) (λv y _=>⟨v,rfl⟩) b r l.length (qN l) af z aq hr
  (λah ar=>hDone ah λx=>by rw [<-V x];exact ar _) λx v kl y w' G U au ay ad aw hlt j ax ak=> ?_
 obtain⟨aA,ag,rfl,az⟩:=Maps.keyOf_int_inv underlying24 U;obtain rfl:x=aA:=by injection ag
 obtain rfl:y=(.held v,[]):=(jR ay).symm;have ao:getM l x=some v:=by
  have h1:(DataW.held ((getM l x).getD (.bool true)):DataW Value)= .held v:=(by rw [<-A4];exact ad (.held (.bool true)));have h2:(DataW.held ((getM l x).getD (.bool false)):DataW Value)= .held v:=(by rw [<-A4];exact ad (.held (.bool false)));have K:(getM l x).getD (.bool true)=v:=(by injection h1);have Y:(getM l x).getD (.bool false)=v:=by injection h2
  cases ae:getM l x with
  |some u=>
   rw [ae]at K;exact congrArg some K
  |none=>
   rw [ae]at K Y;have ab:Value.bool true=v:=K;have ai:Value.bool false=v:=Y;rw [<-ai]at ab
   cases ab
 refine hMore x v w' G az (by rw [<-V x];exact au) ao ⟨_,aw,λy=> ?_⟩ hlt ⟨j.os,j.tape,j.output,j.size,λi hi ap=>j.block i hi (by simpa using ap)⟩ ax ak;show(af (.int .u64 y)&& !(Lit.int .u64 y).sameKey (.int .u64 x))=_;rw [V y,ql]
def p7 (l:List Int):kY:=l.map λx=>(x,.bool true)
def wU (x:Int):List Int->List Int
 | []=> [x]
 |y::r=>if x<y then x::y::r else y::wU x r
def wW (x:Int)(l:List Int):List Int:=l.filter λy=>y != x
def od (x:Int)(l:List Int):List Int:=wU x (wW x l)
theorem Cx (x:Int): ∀l,tN (x,.bool true) (p7 l)=p7 (wU x l)
 | []=>rfl
 |y::r=>by
  have j:=Cx x r;unfold p7 at j⊢;simp only [UG,tN,wU];split
  ·rfl
  ·rw [j];rfl
theorem Cy (x:Int)(l:List Int):wX (p7 l) x=p7 (wW x l):=by
 unfold wX p7 wW;rw [List.filter_map];rfl
theorem I5 (x:Int)(l:List Int):vg (p7 l) x (.bool true)=p7 (od x l):=by
 unfold vg od;rw [Cy,Cx]
theorem x6 (x:Int): ∀l,getM (p7 l) x=if x∈l then some (.bool true)else none
 | []=>rfl
 |y::r=>by
  have j:=x6 x r;unfold getM p7 at j⊢;rw [UG,Un];by_cases h:y=x
  ·subst h;simp
  ·have e:(y==x)=false:=by rw [je];exact h
   simp only [e];rw [j];have:(x∈y::r)↔x∈r:=(by simp [nB h]);simp only [this]
theorem ye (x z:Int): ∀l,z∈wU x l↔z=x\/z∈l
 | []=>by simp [wU]
 |y::r=>by
  have j:=ye x z r;unfold wU;split
  ·simp
  ·simp only [TE,j];constructor
   ·rintro(h|h|h)<;>simp [h]
   ·rintro(h|h|h)<;>simp [h]
theorem yf (x z:Int)(l:List Int):z∈wW x l↔z∈l/\z≠x:=by unfold wW;rw [List.mem_filter,iB]
theorem sF (x z:Int)(l:List Int):z∈od x l↔z=x\/z∈l:=by
 unfold od;rw [ye,yf];by_cases h:z=x<;>simp [h]
theorem ww (x:Int): ∀l:List Int,l.Pairwise (· < ·)->x∉l->(wU x l).Pairwise (· < ·)
 | [],_,_=>by simp [wU]
 |y::r,h,u=>by
  obtain⟨h1,h2⟩:=TS.1 h;simp only [TE,not_or]at u;unfold wU;split
  ·rename_i hlt
   refine TS.2 ⟨λz j=> ?_,h⟩;rcases TE.1 j with rfl|j
   ·exact hlt
   ·have:=h1 z j;omega
  ·rename_i hlt
   refine TS.2 ⟨λz j=> ?_,ww x r h2 u.2⟩;rcases (ye x z r).1 j with rfl|j
   ·have:=u.1;omega
   ·exact h1 z j
theorem sR (x:Int)(l:List Int)(h:l.Pairwise (· < ·)):(wW x l).Pairwise (· < ·):=h.filter _
theorem sQ (x:Int)(l:List Int)(h:l.Pairwise (· < ·)):(od x l).Pairwise (· < ·):=ww x _ (sR x l h) (by rw [yf];simp)
theorem t1: ∀ {l m:List Int},l.Pairwise (· < ·)->m.Pairwise (· < ·)->(∀z,z∈l↔z∈m)->l=m
 | [],[],_,_,_=>rfl
 | [],y::r,_,_,h=>by have:=(h y).2 US;simp at this
 |x::l,[],_,_,h=>by have:=(h x).1 US;simp at this
 |x::l,y::r,G,K,h=>by
  obtain⟨l1,l2⟩:=TS.1 G;obtain⟨m1,m2⟩:=TS.1 K;have U:x=y:=by
   rcases TE.1 ((h x).1 US)with e|e
   ·exact e
   ·rcases TE.1 ((h y).2 US)with u|u
    ·exact u.symm
    ·have:=m1 x e;have:=l1 y u;omega
  subst U;rw [t1 l2 m2 λz=> ?_];have:=h z;simp only [TE]at this;constructor
  ·intro j;rcases this.1 (.inr j)with e|e
   ·have:=l1 z j;omega
   ·exact e
  ·intro j;rcases this.2 (.inr j)with e|e
   ·have:=m1 z j;omega
   ·exact e
def mQ (l j:List Int):List Int:=j.foldl (λl x=>od x l) l
def tz (l j:List Int):List Int:=j.foldl (λl x=>wW x l) l
theorem qY (z:Int): ∀(j l:List Int),z∈mQ l j↔z∈j\/z∈l
 | [],l=>by simp [mQ]
 |m::j,l=>by
  have u:=qY z j (od m l);unfold mQ at u⊢;rw [List.foldl_cons,u,sF,TE];constructor
  ·rintro(h|h|h)<;>simp [h]
  ·rintro((h|h)|h)<;>simp [h]
theorem CU (z:Int): ∀(j l:List Int),z∈tz l j↔z∉j/\z∈l
 | [],l=>by simp [tz]
 |m::j,l=>by
  have y:=CU z j (wW m l);unfold tz at y⊢;rw [List.foldl_cons,y,yf,TE,not_or];constructor
  ·rintro⟨h1,h2,u⟩;exact⟨⟨u,h1⟩,h2⟩
  ·rintro⟨⟨h1,h2⟩,u⟩;exact⟨h2,u,h1⟩
theorem oS: ∀(j l:List Int),l.Pairwise (· < ·)->(mQ l j).Pairwise (· < ·)
 | [],_,h=>h
 |m::j,l,h=>oS j _ (sQ m l h)
theorem wv: ∀(j l:List Int),l.Pairwise (· < ·)->(tz l j).Pairwise (· < ·)
 | [],_,h=>h
 |m::j,l,h=>wv j _ (sR m l h)
theorem KE (l j:List Int)(h:l.Pairwise (· < ·))(y: ∀x∈j,x∉l):tz (mQ l j) j=l:=by
 refine t1 (wv _ _ (oS _ _ h)) h λz=> ?_;rw [CU,qY];constructor
 ·rintro⟨h1,h2|h2⟩
  ·exact absurd h2 h1
  ·exact h2
 ·intro u;exact⟨λG=>y z G u,.inr u⟩
def se:List Int->List Int->Bool
 |_,[]=>false
 |seen,x::r=>decide (x∈seen)||se (od x seen) r
theorem t5: ∀(l seen:List Int),se seen l=false↔l.Nodup/\ ∀x∈l,x∉seen
 | [],_=>by simp [se]
 |x::r,seen=>by
  unfold se;rw [Bool.or_eq_false_iff,pg,t5 r,List.nodup_cons];constructor
  ·rintro⟨h1,h2,j⟩
   refine⟨⟨λz=>j x z ((sF x x seen).2 (.inl rfl)),h2⟩,λy hy=> ?_⟩;rcases TE.1 hy with rfl|hy
   ·exact h1
   ·exact λu=>j y hy ((sF x y seen).2 (.inr u))
  ·rintro⟨⟨h1,h2⟩,j⟩
   refine⟨j x US,h2,λy hy u=> ?_⟩;rcases (sF x y seen).1 u with rfl|u
   ·exact h1 hy
   ·exact j y (by simp [hy]) u
structure nQ (b:Nat)(w:World)(l:List Int):Prop where
 map:MapAt w b (p7 l)
 up:l.Pairwise (· < ·)
structure qw (s b:Nat)(w:World)(l:List Int):Prop where
 cell:w.heap[s]? =some (.cells #[.map (some b)] 204 (0,0))
 set:nQ b w l
theorem nQ.at' {b:Nat}{w w':World}{l:List Int}(h:nQ b w l)(e:w'.heap[b]? =w.heap[b]?):nQ b w' l:=⟨h.map.at' e,h.up⟩
theorem nQ.c' {b:Nat}{w w':World}{l:List Int}(h:nQ b w l)(j:BW w w'):nQ b w' l:=⟨h.map.c' j,h.up⟩
theorem qw.ne {s b:Nat}{w:World}{l:List Int}(h:qw s b w l):s≠b:=by
 rintro rfl;obtain⟨es,clock,j,_⟩:=h.set.map;rw [h.cell]at j;simp at j
theorem qw.lt {s b:Nat}{w:World}{l:List Int}(h:qw s b w l):s<w.heap.size:=(Cg.1 h.cell).1
theorem qw.keep {S:UO}{s b:Nat}{w w':World}{l:List Int}(h:qw s b w l)(j:Kept S w w')(y:S s)(u:S b):qw s b w' l:=
 ⟨(j.block s h.lt y).trans h.cell,h.set.map.keep j u,h.set.up⟩
theorem qw.c' {s b:Nat}{w w':World}{l:List Int}(h:qw s b w l)(j:BW w w'):qw s b w' l:=⟨b' j h.cell,h.set.c' j⟩
theorem nQ.look {b:Nat}{w:World}{l:List Int}(h:nQ b w l)(x:Int)(u:iZ x):(Instr.lookup 164 (.map (some b)) (U2 x) false).run prog w= .ok (.bool (decide (x∈l))) w:=by
 have h1:=h.map.look underlying164 (z6 w) x u;rw [x6]at h1;rw [h1];by_cases j:x∈l<;>simp [j]
theorem KQ (s b:Nat)(w:World)(l:List Int)(h:qw s b w l)(x:Int)(j:iZ x):
 Calls prog 180 #[(.pointer (some ⟨s,0,none⟩)),x] w (Rt w (.bool (decide (x∈l)))):=by
 have u:=h.set.look x j;obtain⟨y,z⟩:=a' h.cell;go_wp2;go_ret;exact⟨rfl,g' _ _⟩
theorem G6 (w:World):
 Calls prog 78 #[] w λe w'=> ∃s b,e= .returned (.pointer (some ⟨s,0,none⟩))/\qw s b w' []/\w.heap.size<=s/\w.heap.size<=b/\BW w w':=by
 have y:= @xH prog;go_wp2;go_ret;have j:((w.alloc (.map #[] 0)).alloc (.cells #[.map (some w.heap.size)] 204)).heap[w.heap.size]? =some (.map #[] 0):=(ji w (.map #[] 0) (.cells #[.map (some w.heap.size)] 204)).2;have u:((w.alloc (.map #[] 0)).alloc (.cells #[.map (some w.heap.size)] 204)).heap[w.heap.size+1]? =some (.cells #[.map (some w.heap.size)] 204 (0,0)):=(ji w (.map #[] 0) (.cells #[.map (some w.heap.size)] 204)).1;exact⟨w.heap.size+1,w.heap.size,rfl,⟨u,⟨(rD w).at' (by rw [j];exact(gY w (.map #[] 0)).symm),T'⟩⟩,UN,g9 _,hd (hd (g' _ _) _) _⟩
theorem Cv (s b:Nat)(S:UO)(w:World)(l:List Int)(h:qw s b w l)(a:UP)(cap:Nat)(j:List Int)(y:gZ.rel S w [.slice a j.length cap] j)(c:Bool):
 Calls prog 187 #[(.pointer (some ⟨s,0,none⟩)),.slice a j.length cap,c] w (Rt w (.bool (j.any λx=>decide (x∈l)==c))):=by
 have ap:j.length<=9223372036854775807:=by have:=g4.lens y;unfold maxLen at this;omega
 have Y:=mN y;obtain⟨ae,ad,af⟩:=kT Y y h;clear Y y h;go_wp2;go_loopw [11] (λG wr=> ∃k:Nat,k<=j.length/\G= UZ k/\BW w wr/\Hi ((j.take k).any (λx=>decide (x∈l)==c)=false)) (λG _=>j.length-(intOf G).toNat)
 case atStart=>exact⟨0,iy _,rfl,g' _ _,by show _=_;simp⟩
 case round=>
  obtain⟨k,al,rfl,u,z⟩:=hrel;by_cases hlt:k<j.length
  ·obtain⟨ai,off,rfl,aj,ak⟩:=il (gZ.c' ad.o u) k hlt
   have ag:Hi ((j.take (k+1)).any (λx=>decide (x∈l)==c)=(decide (j[k]∈l)==c)):=Hd (by rw [z4 hlt,List.any_append,z.o];simp);have ah:Hi ((decide (j[k]∈l)==c)=true->j.any (λx=>decide (x∈l)==c)=true):=λhh=>UA.2 ⟨j[k],z3 hlt,hh⟩;have U:=Hd (af.o.c' u);have ao:=U.o.set.look j[k] (ae.o _ (z3 hlt));generalize j[k]=x at*;obtain⟨aq,ar⟩:=a' U.o.cell;have K:=Hd u;clear u
   cases V:(decide (x∈l)==c)with
   |true=>
    have ab:=Hd (ah.o V);go_wp2;go_ret;exact⟨congrArg (λb=>Ending.returned (.bool b)) ab.o.symm,K.o⟩
   |false=>
    go_wp2;go_roundw
    case rel=>exact⟨k+1,UN,by go_num,K.o,by show _=_;rw [ag.o,V]⟩
    case measure=>exact UY
  ·obtain rfl:k=j.length:=UN
   rw [Sw]at z;go_wp2;go_ret;exact⟨congrArg (λb=>Ending.returned (.bool b)) z.o.symm,u⟩
theorem E5 {n b:Nat}{w wr w':World}(j:n=w.heap.size)(h:Below n w wr)(y:n<=b)(u:tZ b wr w'):Below n w w':=by
 subst j;have h1:Kept (λi=>i<w.heap.size) w wr:=Kept.of_below h;have h2:Kept (λi=>i<w.heap.size) w w':=h1.trans u λi _ hi=>by have:i<w.heap.size:=hi;show i≠b;omega
 exact h2.below (g9 _)
theorem C8 (x:Int)(l:List Int):(wW x l).length<=l.length:=List.length_filter_le _ _
theorem C1 (x:Int): ∀l,(wU x l).length=l.length+1
 | []=>rfl
 |y::r=>by
  unfold wU;split
  ·rfl
  ·simp [C1 x r]
theorem CZ (x:Int)(l:List Int):(od x l).length<=l.length+1:=by
 unfold od;rw [C1];have:=C8 x l;omega
theorem uI: ∀(j l:List Int),(mQ l j).length<=l.length+j.length
 | [],l=>by simp [mQ]
 |m::j,l=>by
  have h1:=uI j (od m l);have h2:=CZ m l;unfold mQ at h1⊢;rw [List.foldl_cons,Tz];omega
theorem CG: ∀(j l:List Int),(tz l j).length<=l.length
 | [],l=>by simp [tz]
 |m::j,l=>by
  have h1:=CG j (wW m l);have h2:=C8 m l;unfold tz at h1⊢;rw [List.foldl_cons];omega
theorem AL (l j:List Int)(k:Nat)(u:k<j.length):mQ l (j.take (k+1))=od j[k] (mQ l (j.take k)):=by
 unfold mQ;rw [z4 u,Us];rfl
theorem GQ (l j:List Int)(k:Nat)(u:k<j.length):tz l (j.take (k+1))=wW j[k] (tz l (j.take k)):=by
 unfold tz;rw [z4 u,Us];rfl
theorem nQ.put {b:Nat}{w w':World}{l:List Int}{x:Int}(h:nQ b w l)(j:MapAt w' b (vg (p7 l) x (.bool true))):nQ b w' (od x l):=⟨by rw [<-I5];exact j,sQ x l h.up⟩
theorem nQ.del {b:Nat}{w w':World}{l:List Int}{x:Int}(h:nQ b w l)(j:MapAt w' b (wX (p7 l) x)):nQ b w' (wW x l):=⟨by rw [<-Cy];exact j,sR x l h.up⟩
theorem x5 (l:List Int):(p7 l).length=l.length:=by simp [p7]
theorem uO (S:UO)(w:World)(a:UP)(cap:Nat)(j:List Int)(V:gZ.rel S w [.slice a j.length cap] j)(aD:j.length<=1000000):
 Calls prog 188 #[.slice a j.length cap] w (Rt w (.bool (se [] j))):=by
 have ak:=mN V;obtain⟨au,ar⟩:=ik ak V;clear ak V;have aE:= @xH prog;go_in;go_upto_region 2 with(fail);have ao:Hi (nQ w.heap.size (w.alloc (.map #[] 0)) []):=⟨rD w,T'⟩;have ap:=Hd (jc w (.map #[] 0));generalize w.alloc (.map #[] 0)=W at*;go_wp2;go_loopw [9] (λad wr=> ∃(k:Nat) (u:List Int),k<=j.length/\ad= UZ k/\BW w wr/\nQ w.heap.size wr u/\u.length<=k/\Hi (se u (j.drop k)=se [] j)) (λad _=>j.length-(intOf ad).toNat)
 case atStart=>exact⟨0,[],iy _,rfl,ap.o,ao.o,g9 _,rfl⟩
 case round=>
  obtain⟨k,u,aC,rfl,z,U,al,ab⟩:=hrel;by_cases hlt:k<j.length
  ·obtain⟨ay,off,rfl,az,aA⟩:=il (gZ.c' ar.o z) k hlt
   have ae:=Hd (TU hlt);have Y:=au.o _ (z3 hlt);have ah:=U.look j[k] Y;have av:=Hd Y;generalize j[k]=x at*;obtain⟨ag,G,af⟩:=kT U z al;clear U z al Y;by_cases K:x∈u
   ·have y:Hi (se [] j=true):=by show _=_;rw [<-ab.o,ae.o];unfold se;rw [iP K,Bool.true_or]
    rw [iP K]at ah;go_wp2;go_ret;exact⟨congrArg (λb=>Ending.returned (.bool b)) y.o.symm,G.o⟩
   ·have y:Hi (se (od x u) (j.drop (k+1))=se [] j):=by show _=_;rw [<-ab.o,ae.o];conv=>rhs;unfold se;rw [iH K,Bool.false_or]
    rw [iH K]at ah;go_wp2_with (at_mapUpdate;go_loud (refine sI rfl _ rfl _ _ _ 164 rfl 4 underlying164 w.heap.size (p7 u) rfl ag.o.map (by rw [x5];unfold maxLen;have:=af.o;omega) x (.bool true) rfl av.o rfl ?_))
    intro aF ai aj ax;obtain⟨aw,aq⟩:=ik (ag.o.put ai) (E5 rfl G.o (g9 _) aj);clear ai aj ax;go_wp2;go_roundw
    case rel=>exact⟨k+1,od x u,UN,by go_num,aq.o,aw.o,by have:=CZ x u;have:=af.o;omega,y⟩
    case measure=>exact UY
  ·obtain rfl:k=j.length:=UN
   have y:Hi (se [] j=false):=Hd (by rw [<-ab.o,UD];rfl);have G:=Hd z;clear z U;go_wp2;go_ret;exact⟨congrArg (λb=>Ending.returned (.bool b)) y.o.symm,G.o⟩
def zl (l j:List Int):Int:=if (j.any λx=>decide (x∈l)==true)=true\/se [] j=true then 12 else 0
def B6 (l j:List Int):List Int:=if zl l j=0 then mQ l j else l
def zi (l j:List Int):Int:=if (j.any λx=>decide (x∈l)==false)=true\/se [] j=true then 4 else 0
def qt (l j:List Int):List Int:=if zi l j=0 then tz l j else l
theorem La (s b:Nat)(S:UO)(w:World)(l:List Int)(h:qw s b w l)(a:UP)(cap:Nat)(j:List Int)(ag:gZ.rel S w [.slice a j.length cap] j)(aF:j.length<=1000000)(aM:l.length<=1000000000)(aE: ¬S b):
 Calls prog 182 #[(.pointer (some ⟨s,0,none⟩)),.slice a j.length cap] w λe w'=>e= .returned (UZ (zl l j))/\qw s b w' (B6 l j)/\Kept (λi=>i≠b) w w':=by
 have aq:=mN ag;obtain⟨az,aj,al,ak⟩:=oX aq ag h h.ne;clear aq ag h;go_in;go_wp2_with fail;refine UR (Cv s b S w l al.o a cap j aj.o true) λw1 hb1=> ?_;obtain⟨ae,af⟩:=ik (gZ.c' aj.o hb1) (al.o.c' hb1);have ad:Hi (Kept (λi=>i≠b) w w1):=Kept.of_below hb1;by_cases z:(j.any λx=>decide (x∈l)==true)=true
 ·have u:Hi (zl l j=12):=by show _=_;unfold zl;rw [g7 (.inl z)]
  have U:Hi (B6 l j=l):=Hd (by unfold B6;rw [g3 (by rw [u.o];omega)]);rw [z];clear z;go_wp2;go_ret;exact⟨g2 u.o.symm,by rw [U.o];exact af.o,ad.o⟩
 ·have ay:=Hd z
  rw [FE]at z;rw [z];clear z;go_wp2_with fail;refine UR (uO S w1 a cap j ae.o aF) λw2 hb2=> ?_;obtain⟨ax,y⟩:=ik (gZ.c' ae.o hb2) (af.o.c' hb2);have ai:Hi (Kept (λi=>i≠b) w w2):=ad.o.trans (Kept.of_below (S:=λi=>i≠b) hb2) λ_ _ h=>h;by_cases G:se [] j=true
  ·have u:Hi (zl l j=12):=by show _=_;unfold zl;rw [g7 (.inr G)]
   have U:Hi (B6 l j=l):=Hd (by unfold B6;rw [g3 (by rw [u.o];omega)]);rw [G];clear G;go_wp2;go_ret;exact⟨g2 u.o.symm,by rw [U.o];exact y.o,ai.o⟩
  ·have u:Hi (zl l j=0):=by show _=_;unfold zl;rw [g3 (by rintro(h|h);exact ay.o h;exact G h)]
   have U:Hi (B6 l j=mQ l j):=Hd (by unfold B6;rw [g7 u.o]);rw [FE]at G;rw [G];clear G hb1 hb2 ae af ad;obtain⟨ar,au⟩:=a' y.o.cell;have aN:(binOp .eql 164 (.map (some b)) (.map none)).run prog w2= .ok (.bool false) w2:=run_eql_map_nil w2 _ _ _ (some b) underlying164;go_wp2;go_loopw [25] (λah wr=> ∃k:Nat,k<=j.length/\ah= UZ k/\nQ b wr (mQ l (j.take k))/\Kept (λi=>i≠b) w2 wr) (λah _=>j.length-(intOf ah).toNat)
   case atStart=>exact⟨0,iy _,rfl,y.o.set,Kept.refl _ _⟩
   case round=>
    obtain⟨k,aL,rfl,V,K⟩:=hrel;by_cases hlt:k<j.length
    ·obtain⟨aI,off,rfl,aJ,aK⟩:=il (gZ.keep ax.o (K.mono λi _ hi=>λe=>aE (e▸hi))) k hlt
     obtain⟨aD,aA⟩:=ik (AL l j k hlt) (az.o _ (z3 hlt));have aw:Hi ((mQ l (j.take k)).length<=1001000000):=Hd (by have:=uI (j.take k) l;rw [Tq]at this;omega);generalize j[k]=x at*;obtain⟨ab,Y⟩:=ik V K;obtain⟨ar,au⟩:=a' ((K.block s y.o.lt ak.o).trans y.o.cell);clear V K;go_wp2_with (at_mapUpdate;go_loud (refine sI rfl _ rfl _ _ _ 164 rfl 4 underlying164 b (p7 (mQ l (j.take k))) rfl ab.o.map (by rw [x5];unfold maxLen;have:=aw.o;omega) x (.bool true) rfl aA.o rfl ?_))
     intro aH ao ap aG;have aC:=Hd (ab.o.put ao);have av:Hi (Kept (λi=>i≠b) w2 aH):=Y.o.trans ap λ_ _ h=>h;clear ao ap aG ar au;go_wp2;go_roundw
     case rel=>exact⟨k+1,UN,by go_num,by rw [aD.o];exact aC.o,av.o⟩
     case measure=>exact UY
    ·obtain rfl:k=j.length:=UN
     rw [Sw]at V;obtain⟨ab,Y⟩:=ik V K;clear V K;go_wp2;go_ret;exact⟨g2 u.o.symm,by rw [U.o];exact⟨(Y.o.block s y.o.lt ak.o).trans y.o.cell,ab.o⟩,ai.o.trans Y.o λ_ _ h=>h⟩
theorem EM (s b:Nat)(S:UO)(w:World)(l:List Int)(h:qw s b w l)(a:UP)(cap:Nat)(j:List Int)(ag:gZ.rel S w [.slice a j.length cap] j)(aC:j.length<=1000000)(aM:l.length<=1000000000)(aA: ¬S b):
 Calls prog 125 #[(.pointer (some ⟨s,0,none⟩)),.slice a j.length cap] w λe w'=>e= .returned (UZ (zi l j))/\qw s b w' (qt l j)/\Kept (λi=>i≠b) w w':=by
 have aq:=mN ag;obtain⟨aw,aj,al,ak⟩:=oX aq ag h h.ne;clear aq ag h;go_in;go_wp2_with fail;refine UR (Cv s b S w l al.o a cap j aj.o false) λw1 hb1=> ?_;obtain⟨ae,af⟩:=ik (gZ.c' aj.o hb1) (al.o.c' hb1);have ad:Hi (Kept (λi=>i≠b) w w1):=Kept.of_below hb1;by_cases y:(j.any λx=>decide (x∈l)==false)=true
 ·have u:Hi (zi l j=4):=by show _=_;unfold zi;rw [g7 (.inl y)]
  have U:Hi (qt l j=l):=Hd (by unfold qt;rw [g3 (by rw [u.o];omega)]);rw [y];clear y;go_wp2;go_ret;exact⟨g2 u.o.symm,by rw [U.o];exact af.o,ad.o⟩
 ·have av:=Hd y
  rw [FE]at y;rw [y];clear y;go_wp2_with fail;refine UR (uO S w1 a cap j ae.o aC) λw2 hb2=> ?_;obtain⟨au,G⟩:=ik (gZ.c' ae.o hb2) (af.o.c' hb2);have ai:Hi (Kept (λi=>i≠b) w w2):=ad.o.trans (Kept.of_below (S:=λi=>i≠b) hb2) λ_ _ h=>h;by_cases z:se [] j=true
  ·have u:Hi (zi l j=4):=by show _=_;unfold zi;rw [g7 (.inr z)]
   have U:Hi (qt l j=l):=Hd (by unfold qt;rw [g3 (by rw [u.o];omega)]);rw [z];clear z;go_wp2;go_ret;exact⟨g2 u.o.symm,by rw [U.o];exact G.o,ai.o⟩
  ·have u:Hi (zi l j=0):=by show _=_;unfold zi;rw [g3 (by rintro(h|h);exact av.o h;exact z h)]
   have U:Hi (qt l j=tz l j):=Hd (by unfold qt;rw [g7 u.o]);rw [FE]at z;rw [z];clear z hb1 hb2 ae af ad;go_wp2;go_loopw [16] (λah wr=> ∃k:Nat,k<=j.length/\ah= UZ k/\nQ b wr (tz l (j.take k))/\Kept (λi=>i≠b) w2 wr) (λah _=>j.length-(intOf ah).toNat)
   case atStart=>exact⟨0,iy _,rfl,G.o.set,Kept.refl _ _⟩
   case round=>
    obtain⟨k,aL,rfl,V,K⟩:=hrel;by_cases hlt:k<j.length
    ·obtain⟨aI,off,rfl,aJ,aK⟩:=il (gZ.keep au.o (K.mono λi _ hi=>λe=>aA (e▸hi))) k hlt
     obtain⟨az,ax⟩:=ik (GQ l j k hlt) (aw.o _ (z3 hlt));have aH:Hi ((tz l (j.take k)).length<=1001000000):=Hd (by have:=CG (j.take k) l;omega);generalize j[k]=x at*;obtain⟨ab,Y⟩:=ik V K;obtain⟨aF,aG⟩:=a' ((K.block s G.o.lt ak.o).trans G.o.cell);clear V K;go_wp2_with (at_delete;go_loud (refine Df rfl _ rfl _ _ 164 rfl 4 underlying164 b (p7 (tz l (j.take k))) rfl ab.o.map x rfl ax.o ?_))
     intro aE ao ap aD;have ay:=Hd (ab.o.del ao);have ar:Hi (Kept (λi=>i≠b) w2 aE):=Y.o.trans ap λ_ _ h=>h;clear ao ap aD aF aG;go_wp2;go_roundw
     case rel=>exact⟨k+1,UN,by go_num,by rw [az.o];exact ay.o,ar.o⟩
     case measure=>exact UY
    ·obtain rfl:k=j.length:=UN
     rw [Sw]at V;obtain⟨ab,Y⟩:=ik V K;clear V K;go_wp2;go_ret;exact⟨g2 u.o.symm,by rw [U.o];exact⟨(Y.o.block s G.o.lt ak.o).trans G.o.cell,ab.o⟩,ai.o.trans Y.o λ_ _ h=>h⟩
end Go.Proofs.YtjdiofjjoefnhaaGreatDoor
