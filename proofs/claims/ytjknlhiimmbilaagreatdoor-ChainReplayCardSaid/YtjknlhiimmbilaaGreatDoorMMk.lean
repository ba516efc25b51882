/- Maps whose keys are numbers: what a block holds, as a list of pairs; look-up, store, delete, length. -/
import Derived.Test.YtjknlhiimmbilaaGreatDoorMTxR
import Derived.Maps.OwnSet
import Derived.Maps.OwnOps
import Derived.Maps.RangeWalk
import Derived.Test.YtjknlhiimmbilaaGreatDoorMFld
import Derived.Test.YtjknlhiimmbilaaGreatDoorMRef
import Derived.WalkSpells
set_option maxRecDepth 100000
namespace Go.Proofs.YtjknlhiimmbilaaGreatDoor
open Go.ChangeShapes Go.WideShapes Go.ChangeAt Go.RowKit Go.Sort Go.Maps
def heldR (v:Value):Option (DataW Value×List MemPlace):=some (.held v,[])
theorem lawU:Keyed Tryz.prog 24:=int_keyed Tryz.underlying24
abbrev NMap:=List (Int×Value)
def encM (m:NMap):DataW Value:= .map (m.map fun p=>(.int .u64 p.1,.held p.2))
def getM (m:NMap)(x:Int):Option Value:=(m.find? fun p=>p.1==x).map (·.2)
def insM (p:Int×Value):NMap→NMap
 | []=> [p]
 |q::r=>if p.1<q.1 then p::q::r else q::insM p r
def delM (m:NMap)(x:Int):NMap:=m.filter fun p=>p.1 != x
def putM (m:NMap)(x:Int)(v:Value):NMap:=insM (x,v) (delM m x)
theorem sameKey_u64 (a b:Int):(Lit.int .u64 a).sameKey (.int .u64 b)=(a==b):=by
 simp only [Lit.sameKey,true_and]
 by_cases h:a=b<;>simp [h]
theorem enc_ins (p:Int×Value): ∀m:NMap,DataW.insert (Lit.int .u64 p.1,DataW.held p.2) (m.map fun p=>(Lit.int .u64 p.1,DataW.held p.2))=(insM p m).map fun p=>(Lit.int .u64 p.1,DataW.held p.2)
 | []=>rfl
 |q::r=>by
  have e:(Lit.int IntKind.u64 p.1).before (.int IntKind.u64 q.1)=decide (p.1<q.1):=rfl
  by_cases h:p.1<q.1
  · simp [DataW.insert,insM,e,h]
  · simp [DataW.insert,insM,e,h,enc_ins p r]
theorem enc_del (m:NMap)(x:Int):(encM m).del (.int .u64 x)=encM (delM m x):=by
 unfold encM delM
 show DataW.map (List.filter _ _)=_
 rw [List.filter_map]
 congr 2
 refine List.filter_congr fun p _=> ?_
 show(!(Lit.int IntKind.u64 p.1).sameKey (.int .u64 x))=(p.1 != x)
 rw [sameKey_u64];rfl
theorem enc_put (m:NMap)(x:Int)(v:Value):(encM m).put (.int .u64 x) (.held v)=encM (putM m x v):=by
 have h:=enc_del m x;unfold encM at h;unfold encM putM;rw [←enc_ins (x,v) (delM m x)]
 show DataW.map (DataW.insert (Lit.int .u64 x,DataW.held v) (List.filter _ _))=_
 have h':(List.map (fun p:Int×Value=>(Lit.int IntKind.u64 p.1,(DataW.held p.2:DataW Value))) m).filter (fun p=> !p.1.sameKey (.int .u64 x))=(delM m x).map fun p=>(Lit.int .u64 p.1,DataW.held p.2):=DataW.map.inj h
 rw [h']
theorem enc_at (m:NMap)(x:Int)(z:Value):(encM m).atKey (.int .u64 x) (.held z)= .held ((getM m x).getD z):=by
 unfold encM getM
 simp only [DataW.atKey]
 rw [List.find?_map]
 have e:((fun p:Lit×DataW Value=>p.1.sameKey (.int .u64 x))∘fun p:Int×Value=>(Lit.int IntKind.u64 p.1,DataW.held p.2))=fun p=>p.1==x:=by funext p;exact sameKey_u64 p.1 x
 rw [e]
 cases m.find? fun p=>p.1==x<;>rfl
theorem enc_has (m:NMap)(x:Int):Maps.has (encM m) (.int .u64 x)=(getM m x).isSome:=by
 unfold encM getM;rw [has_eq,List.any_map,Option.isSome_map]
 have e:((fun p:Lit×DataW Value=>p.1.sameKey (.int .u64 x))∘fun p:Int×Value=>(Lit.int IntKind.u64 p.1,DataW.held p.2))=fun p=>p.1==x:=by funext p;exact sameKey_u64 p.1 x
 rw [e]
 induction m with
 |nil=>rfl
 |cons q r ih=>
  rw [List.any_cons,List.find?_cons,ih]
  cases q.1==x<;>rfl
theorem enc_size (m:NMap):Maps.size (encM m)=m.length:=by
 unfold encM;rw [size_eq,List.length_map]
theorem insM_len (p:Int×Value): ∀m:NMap,(insM p m).length=m.length+1
 | []=>rfl
 |q::r=>by
  unfold insM
  split
  · rfl
  · simp [insM_len p r]
theorem delM_len (m:NMap)(x:Int):(delM m x).length≤m.length:=List.length_filter_le _ _
theorem putM_len (m:NMap)(x:Int)(v:Value):(putM m x v).length≤m.length+1:=by
 unfold putM;rw [insM_len];have:=delM_len m x;omega
theorem get_ins_hit (x:Int)(v:Value): ∀m:NMap,(∀p∈m,p.1≠x)→getM (insM (x,v) m) x=some v
 | [],_=>by simp [insM,getM]
 |q::r,h=>by
  have hq:(q.1==x)=false:=by rw [beq_eq_false_iff_ne];exact h q (by simp)
  have ih:=get_ins_hit x v r fun p hp=>h p (by simp [hp])
  unfold insM
  split
  · simp [getM]
  · unfold getM at ih⊢;rw [List.find?_cons,hq];exact ih
theorem get_ins_miss (x y:Int)(v:Value)(hxy:y≠x): ∀m:NMap,getM (insM (x,v) m) y=getM m y
 | []=>by simp [insM,getM,Ne.symm hxy]
 |q::r=>by
  have ih:=get_ins_miss x y v hxy r
  have e:((x==y)=false):=by rw [beq_eq_false_iff_ne];exact Ne.symm hxy
  unfold insM
  split
  · unfold getM;rw [List.find?_cons];simp only [e]
  · unfold getM at ih⊢
    rw [List.find?_cons,List.find?_cons]
    cases q.1==y
    · exact ih
    · rfl
theorem get_del_other (m:NMap)(x y:Int)(h:y≠x):getM (delM m x) y=getM m y:=by
 induction m with
 |nil=>rfl
 |cons q r ih=>
  unfold getM delM at ih⊢;rw [List.filter_cons]
  conv=>rhs;rw [List.find?_cons]
  by_cases hq:q.1=y
  · have e1:(q.1 != x)=true:=by rw [bne_iff_ne,hq];exact h
    have e2:(q.1==y)=true:=by rw [beq_iff_eq];exact hq
    rw [if_pos e1,List.find?_cons,e2]
  · have e2:(q.1==y)=false:=by rw [beq_eq_false_iff_ne];exact hq
    rw [e2]
    split
    · rw [List.find?_cons,e2];exact ih
    · exact ih
theorem get_put_same (m:NMap)(x:Int)(v:Value):getM (putM m x v) x=some v:=
 get_ins_hit x v _ fun p hp=>by have:=(List.mem_filter.1 hp).2;simpa using this
theorem get_put_other (m:NMap)(x y:Int)(v:Value)(h:y≠x):getM (putM m x v) y=getM m y:=by
 unfold putM;rw [get_ins_miss x y v h,get_del_other m x y h]
def MapAt (w:World)(b:Nat)(m:NMap):Prop:=w.ownsMap Tryz.prog 24 heldR b m.length (encM m)
theorem MapAt.of {w:World}{b n:Nat}{m:NMap}(h:w.ownsMap Tryz.prog 24 heldR b n (encM m)):MapAt w b m:=by
 obtain⟨es,clock,hb,F,_,hD⟩:=h
 refine⟨es,clock,hb,F,?_,hD⟩
 have:=congrArg Maps.size hD;rw [enc_size]at this
 simp [Maps.size,length_sorted]at this
 omega
theorem MapAt.lt {w:World}{b:Nat}{m:NMap}(h:MapAt w b m):b<w.heap.size:=World.ownsMap.lt h
theorem MapAt.at' {w w':World}{b:Nat}{m:NMap}(h:MapAt w b m)(hb:w'.heap[b]? =w.heap[b]?):MapAt w' b m:=by
 obtain⟨es,clock,h1,h2⟩:=h
 exact⟨es,clock,hb.trans h1,h2⟩
theorem MapAt.keep {S:Nat→Prop}{w w':World}{b:Nat}{m:NMap}(h:MapAt w b m)(hk:Kept S w w')(hS:S b):MapAt w' b m:=h.at' (hk.block b h.lt hS)
theorem MapAt.keepB {w w':World}{b:Nat}{m:NMap}(h:MapAt w b m)(hk:Below w.heap.size w w'):MapAt w' b m:=h.keep (S:=fun k=>k<w.heap.size) (Kept.of_below hk) h.lt
theorem mapAt_made (w:World):MapAt (w.alloc (.map #[] 0)) w.heap.size []:=World.ownsMap_made w _ _ _
theorem MapAt.look {w:World}{b:Nat}{m:NMap}(h:MapAt w b m){t e:TypeId}(ht:Tryz.prog.underlying t=some (.map 24 e)){z:Value}(hz:(zeroValue e).run Tryz.prog w= .ok z w)(x:Int)(hx:okU x):
   (Instr.lookup t (.map (some b)) (.int .u64 x) false).run Tryz.prog w= .ok ((getM m x).getD z) w:=by
 obtain⟨v,ps,hrun,hv⟩:=World.ownsMap.lookup h lawU ht hz (zd:= .held z) (zp:= []) rfl (key:= .int .u64 x) (kl:= .int .u64 x) (keyOf_int_mk Tryz.underlying24 hx);rw [enc_at]at hv
 obtain rfl:v=(getM m x).getD z:=by simpa [heldR]using congrArg (Option.map Prod.fst) hv
 exact hrun
theorem MapAt.look_ok {w:World}{b:Nat}{m:NMap}(h:MapAt w b m){t e:TypeId}(ht:Tryz.prog.underlying t=some (.map 24 e)){z:Value}(hz:(zeroValue e).run Tryz.prog w= .ok z w)(x:Int)(hx:okU x):
   (Instr.lookup t (.map (some b)) (.int .u64 x) true).run Tryz.prog w= .ok (.tuple #[(getM m x).getD z,.bool (getM m x).isSome]) w:=by
 obtain⟨v,ps,hrun,hv⟩:=World.ownsMap.look_ok h lawU ht hz (zd:= .held z) (zp:= []) rfl (key:= .int .u64 x) (kl:= .int .u64 x) (keyOf_int_mk Tryz.underlying24 hx);rw [enc_at]at hv;rw [enc_has]at hrun
 obtain rfl:v=(getM m x).getD z:=by simpa [heldR]using congrArg (Option.map Prod.fst) hv
 exact hrun
theorem MapAt.len {w:World}{b:Nat}{m:NMap}(h:MapAt w b m){t e:TypeId}(ht:Tryz.prog.underlying t=some (.map 24 e))(ty:TypeId):(Builtin.len_ #[t] ty #[.map (some b)]).run Tryz.prog w= .ok (.int .i64 m.length) w:=by
 have:=World.ownsMap.len h ht ty;rwa [enc_size]at this
def OnlyAt (b:Nat)(w w':World):Prop:=Kept (fun k=>k≠b) w w'
theorem only_of_turned {w w':World}{b:Nat}(h:w.mapTurned w' b):OnlyAt b w w'∧w'.heap.size=w.heap.size:=by
 have hg:=h.grown
 refine⟨⟨hg.os,hg.tape,hg.output,hg.size,fun k hk hne=>hg.block k hk fun e=>hne (Option.some.inj e)⟩,?_⟩
 obtain⟨es,clock,es',clock',_,rfl⟩:=h
 simp [ChangeMaps.setBlock]
theorem wpList_putM {P:Program} (hP:P=Tryz.prog) (w:World) {ops:Array Oper} {rest:List Oper} {o:Oper} {a:Act} {Q:Exit→Act→World→Prop}
   (hg:o.guard=none) (m x v:Operand) (t:TypeId) (hop:o.op=Op.mapUpdate t m x v) (e:TypeId) (ht:Tryz.prog.underlying t=some (.map 24 e)) (b:Nat) (l:NMap)
   (hm:a.eval m= .map (some b)) (hown:MapAt w b l) (hn:l.length<maxLen) (k:Int) (val:Value) (hx:a.eval x= .int .u64 k) (hk:okU k) (hv:a.eval v=val)
   (hK: ∀w',MapAt w' b (putM l k val)→OnlyAt b w w'→w'.heap.size=w.heap.size→wpList P ops Q rest (a.put o.dst undef) w'):
   wpList P ops Q (o::rest) a w:=by
 subst hP
 refine wpList_mapUpdate_in w hg m x v t hop 24 e lawU ht heldR b l.length (encM l) hm hown hn (.int .u64 k) val (.int .u64 k) hx hv (keyOf_int_mk Tryz.underlying24 hk) (.held val) [] rfl fun w' h1 h2=> ?_
 rw [enc_put]at h1
 exact hK w' (MapAt.of h1) (only_of_turned h2).1 (only_of_turned h2).2
theorem wpList_delM {P:Program} (hP:P=Tryz.prog) (w:World) {ops:Array Oper} {rest:List Oper} {o:Oper} {a:Act} {Q:Exit→Act→World→Prop}
   (hg:o.guard=none) (m x:Operand) (t:TypeId) (hop:o.op=Op.call { callee:=Callee.builtin Builtin.delete,args:= #[m,x],argTypes:= #[t,24] }) (e:TypeId) (ht:Tryz.prog.underlying t=some (.map 24 e)) (b:Nat) (l:NMap)
   (hm:a.eval m= .map (some b)) (hown:MapAt w b l) (k:Int) (hx:a.eval x= .int .u64 k) (hk:okU k)
   (hK: ∀w',MapAt w' b (delM l k)→OnlyAt b w w'→w'.heap.size=w.heap.size→wpList P ops Q rest (a.put o.dst (.tuple #[])) w'):
   wpList P ops Q (o::rest) a w:=by
 subst hP
 refine wpList_delete_own w hg m x t 24 hop e lawU ht heldR b l.length (encM l) hm hown (.int .u64 k) (.int .u64 k) hx (keyOf_int_mk Tryz.underlying24 hk) fun w' h1 h2=> ?_
 rw [enc_del]at h1
 exact hK w' (MapAt.of h1) (only_of_turned h2).1 (only_of_turned h2).2
end Go.Proofs.YtjknlhiimmbilaaGreatDoor
/- Ranges over maps whose keys are numbers. -/
set_option maxRecDepth 100000
namespace Go.Proofs.YtjknlhiimmbilaaGreatDoor
open Go.ChangeShapes Go.WideShapes Go.ChangeAt Go.RowKit Go.Sort Go.Maps
def RngAt (w:World)(b r:Nat)(m:NMap)(left:Int→Bool)(cnt:Nat):Prop:=
 ∃lf:Lit→Bool,w.ranges Tryz.prog 24 heldR b r m.length (encM m) lf cnt∧ ∀x,lf (.int .u64 x)=left x
theorem RngAt.map {w:World}{b r:Nat}{m:NMap}{left:Int→Bool}{cnt:Nat}(h:RngAt w b r m left cnt):MapAt w b m:=by
 obtain⟨lf,h1, -⟩:=h;exact h1.owns
theorem RngAt.left {w:World}{b r:Nat}{m:NMap}{left:Int→Bool}{cnt:Nat}(h:RngAt w b r m left cnt):w.rangeLeft b r=cnt:=by
 obtain⟨lf,h1, -⟩:=h;exact h1.left_eq
theorem RngAt.keep {S:Nat→Prop}{w w':World}{b r:Nat}{m:NMap}{left:Int→Bool}{cnt:Nat}(h:RngAt w b r m left cnt)(hk:Kept S w w')(hb:S b)(hr:S r):RngAt w' b r m left cnt:=by
 obtain⟨lf,⟨es,clock,since,seen,c0,h1,h2,h3,h4,h5,h6⟩,hl⟩:=h
 exact⟨lf,⟨es,clock,since,seen,c0,(hk.block b (box_lt h1) hb).trans h1,h2,h3,h4,(hk.block r (box_lt h5) hr).trans h5,h6⟩,hl⟩
theorem RngAt.lt {w:World}{b r:Nat}{m:NMap}{left:Int→Bool}{cnt:Nat}(h:RngAt w b r m left cnt):b<w.heap.size∧r<w.heap.size∧r≠b:=by
 obtain⟨lf,h1, -⟩:=h
 exact⟨h1.owns.lt,h1.lt,h1.ne⟩
theorem RngAt.keepB {w w':World}{b r:Nat}{m:NMap}{left:Int→Bool}{cnt:Nat}(h:RngAt w b r m left cnt)(hb:Below w.heap.size w w'):RngAt w' b r m left cnt:=
 h.keep (S:=fun k=>k<w.heap.size) (Kept.of_below hb) h.lt.1 h.lt.2.1
theorem wpList_rangeM {P:Program} (hP:P=Tryz.prog) (w:World) {ops:Array Oper} {rest:List Oper} {o:Oper} {a:Act} {Q:Exit→Act→World→Prop} (hg:o.guard=none) (m:Operand) (t:TypeId) (hop:o.op=Op.range t m) (e:TypeId) (ht:Tryz.prog.underlying t=some (.map 24 e)) (b:Nat) (l:NMap)
   (hm:a.eval m= .map (some b)) (hown:MapAt w b l)
   (hK: ∀w',RngAt w' b w.heap.size l (fun x=>(getM l x).isSome) l.length→Below w.heap.size w w'→w'.heap.size=w.heap.size+1→wpList P ops Q rest (a.put o.dst (.pointer (some ⟨w.heap.size,0,none⟩))) w'):
   wpList P ops Q (o::rest) a w:=by
 subst hP
 refine wpList_range_own w hg m t hop 24 e lawU ht heldR b l.length (encM l) hm hown fun w' h1 h2 h3=> ?_
 rw [enc_size]at h1
 exact hK w' ⟨_,h1,fun x=>enc_has l x⟩ ⟨h2.os,h2.tape,h2.output,h2.size,fun i hi=>h2.block i hi (by simp)⟩ h3
theorem wpList_nextM {P:Program} (hP:P=Tryz.prog) (w:World) {ops:Array Oper} {rest:List Oper} {o:Oper} {a:Act} {Q:Exit→Act→World→Prop} (hg:o.guard=none) (it:Operand) (hop:o.op=Op.next it false) (b r:Nat) (l:NMap) (left:Int→Bool) (cnt:Nat)
   (hit:a.eval it= .pointer (some ⟨r,0,none⟩)) (h:RngAt w b r l left cnt)
   (hDone:cnt=0→(∀x,left x=false)→wpList P ops Q rest (a.put o.dst (.tuple #[.bool false])) w)
   (hMore: ∀(x:Int) (v:Value) (w':World) (cnt':Nat),okU x→left x=true→getM l x=some v→RngAt w' b r l (fun y=>left y&& !(y==x)) cnt'→cnt'<cnt→Kept (fun k=>k≠r) w w'→w'.heap.size=w.heap.size→
     (Instr.entry (.pointer (some ⟨r,0,none⟩))).run Tryz.prog w'= .ok (.tuple #[.int .u64 x,v]) w'→wpList P ops Q rest (a.put o.dst (.tuple #[.bool true,.int .u64 x,v])) w'):
   wpList P ops Q (o::rest) a w:=by
 subst hP;obtain⟨lf,hr,hl⟩:=h
 refine wpList_next_ranges w hg it hop 24 lawU heldR (Value.int .u64) (fun v=>v) (fun key kl hkey=>by obtain⟨x,rfl,_⟩:=Maps.keyOf_int_inv Tryz.underlying24 hkey;exact⟨x,rfl⟩) (fun v y _=>⟨v,rfl⟩) b r l.length (encM l) lf cnt hit hr
   (fun h0 hlf=>hDone h0 fun x=>by rw [←hl x];exact hlf _) fun x v kl y w' cnt' hkey hlk hv hat hrg hlt hgr hsz hen=> ?_
 obtain⟨x',ex,rfl,hwx⟩:=Maps.keyOf_int_inv Tryz.underlying24 hkey
 obtain rfl:x=x':=by injection ex
 obtain rfl:y=(.held v,[]):=(Option.some.inj hv).symm
 have hgv:getM l x=some v:=by
   have h1:(DataW.held ((getM l x).getD (.bool true)):DataW Value)= .held v:=by rw [←enc_at];exact hat (.held (.bool true))
   have h2:(DataW.held ((getM l x).getD (.bool false)):DataW Value)= .held v:=by rw [←enc_at];exact hat (.held (.bool false))
   have h3:(getM l x).getD (.bool true)=v:=by injection h1
   have h4:(getM l x).getD (.bool false)=v:=by injection h2
   cases hgm:getM l x with
   |some u=>
    rw [hgm]at h3
    exact congrArg some h3
   |none=>
    rw [hgm]at h3 h4;have h5:Value.bool true=v:=h3;have h6:Value.bool false=v:=h4;rw [←h6]at h5
    cases h5
 refine hMore x v w' cnt' hwx (by rw [←hl x];exact hlk) hgv ⟨_,hrg,fun y=> ?_⟩ hlt ⟨hgr.os,hgr.tape,hgr.output,hgr.size,fun i hi hir=>hgr.block i hi (by simpa using hir)⟩ hsz hen
 show(lf (.int .u64 y)&& !(Lit.int .u64 y).sameKey (.int .u64 x))=_
 rw [hl y,sameKey_u64]
end Go.Proofs.YtjknlhiimmbilaaGreatDoor
/- The set of spend marks of the program. -/
set_option maxRecDepth 100000
namespace Go.Proofs.YtjknlhiimmbilaaGreatDoor
open Go.ChangeShapes Go.WideShapes Go.ChangeAt Go.RowKit Go.Sort
def setM (l:List Int):NMap:=l.map fun x=>(x,.bool true)
def insI (x:Int):List Int→List Int
 | []=> [x]
 |y::r=>if x<y then x::y::r else y::insI x r
def delS (x:Int)(l:List Int):List Int:=l.filter fun y=>y != x
def insS (x:Int)(l:List Int):List Int:=insI x (delS x l)
theorem setM_ins (x:Int): ∀l,insM (x,.bool true) (setM l)=setM (insI x l)
 | []=>rfl
 |y::r=>by
  have ih:=setM_ins x r;unfold setM at ih⊢
  simp only [List.map_cons,insM,insI]
  split
  · rfl
  · rw [ih];rfl
theorem setM_del (x:Int)(l:List Int):delM (setM l) x=setM (delS x l):=by
 unfold delM setM delS
 rw [List.filter_map];rfl
theorem setM_put (x:Int)(l:List Int):putM (setM l) x (.bool true)=setM (insS x l):=by
 unfold putM insS;rw [setM_del,setM_ins]
theorem setM_get (x:Int): ∀l,getM (setM l) x=if x∈l then some (.bool true)else none
 | []=>rfl
 |y::r=>by
  have ih:=setM_get x r;unfold getM setM at ih⊢;rw [List.map_cons,List.find?_cons]
  by_cases h:y=x
  · subst h;simp
  · have e:(y==x)=false:=by rw [beq_eq_false_iff_ne];exact h
    simp only [e]
    rw [ih]
    have:(x∈y::r)↔x∈r:=by simp [Ne.symm h]
    simp only [this]
theorem mem_insI (x z:Int): ∀l,z∈insI x l↔z=x∨z∈l
 | []=>by simp [insI]
 |y::r=>by
  have ih:=mem_insI x z r;unfold insI
  split
  · simp
  · simp only [List.mem_cons,ih];constructor
    · rintro(h|h|h)<;>simp [h]
    · rintro(h|h|h)<;>simp [h]
theorem mem_delS (x z:Int)(l:List Int):z∈delS x l↔z∈l∧z≠x:=by unfold delS;rw [List.mem_filter,bne_iff_ne]
theorem mem_insS (x z:Int)(l:List Int):z∈insS x l↔z=x∨z∈l:=by
 unfold insS;rw [mem_insI,mem_delS]
 by_cases h:z=x<;>simp [h]
theorem sorted_insI (x:Int): ∀l:List Int,l.Pairwise (· < ·)→x∉l→(insI x l).Pairwise (· < ·)
 | [],_,_=>by simp [insI]
 |y::r,h,hx=>by
  obtain⟨h1,h2⟩:=List.pairwise_cons.1 h
  simp only [List.mem_cons,not_or]at hx
  unfold insI
  split
  · rename_i hlt
    refine List.pairwise_cons.2 ⟨fun z hz=> ?_,h⟩
    rcases List.mem_cons.1 hz with rfl|hz
    · exact hlt
    · have:=h1 z hz;omega
  · rename_i hlt
    refine List.pairwise_cons.2 ⟨fun z hz=> ?_,sorted_insI x r h2 hx.2⟩
    rcases (mem_insI x z r).1 hz with rfl|hz
    · have:=hx.1;omega
    · exact h1 z hz
theorem sorted_delS (x:Int)(l:List Int)(h:l.Pairwise (· < ·)):(delS x l).Pairwise (· < ·):=h.filter _
theorem sorted_insS (x:Int)(l:List Int)(h:l.Pairwise (· < ·)):(insS x l).Pairwise (· < ·):=sorted_insI x _ (sorted_delS x l h) (by rw [mem_delS];simp)
theorem sorted_ext: ∀ {l m:List Int},l.Pairwise (· < ·)→m.Pairwise (· < ·)→(∀z,z∈l↔z∈m)→l=m
 | [],[],_,_,_=>rfl
 | [],y::r,_,_,h=>by have:=(h y).2 (by simp);simp at this
 |x::l,[],_,_,h=>by have:=(h x).1 (by simp);simp at this
 |x::l,y::r,hl,hm,h=>by
  obtain⟨l1,l2⟩:=List.pairwise_cons.1 hl;obtain⟨m1,m2⟩:=List.pairwise_cons.1 hm
  have hxy:x=y:=by
    rcases List.mem_cons.1 ((h x).1 (by simp))with e|e
    · exact e
    · rcases List.mem_cons.1 ((h y).2 (by simp))with e'|e'
      · exact e'.symm
      · have:=m1 x e;have:=l1 y e';omega
  subst hxy
  rw [sorted_ext l2 m2 fun z=> ?_]
  have:=h z
  simp only [List.mem_cons]at this
  constructor
  · intro hz;rcases this.1 (.inr hz)with e|e
    · have:=l1 z hz;omega
    · exact e
  · intro hz;rcases this.2 (.inr hz)with e|e
    · have:=m1 z hz;omega
    · exact e
def addS (l ms:List Int):List Int:=ms.foldl (fun l x=>insS x l) l
def remS (l ms:List Int):List Int:=ms.foldl (fun l x=>delS x l) l
theorem mem_addS (z:Int): ∀(ms l:List Int),z∈addS l ms↔z∈ms∨z∈l
 | [],l=>by simp [addS]
 |m::ms,l=>by
  have ih:=mem_addS z ms (insS m l);unfold addS at ih⊢;rw [List.foldl_cons,ih,mem_insS,List.mem_cons]
  constructor
  · rintro(h|h|h)<;>simp [h]
  · rintro((h|h)|h)<;>simp [h]
theorem mem_remS (z:Int): ∀(ms l:List Int),z∈remS l ms↔z∉ms∧z∈l
 | [],l=>by simp [remS]
 |m::ms,l=>by
  have ih:=mem_remS z ms (delS m l);unfold remS at ih⊢;rw [List.foldl_cons,ih,mem_delS,List.mem_cons,not_or]
  constructor
  · rintro⟨h1,h2,h3⟩;exact⟨⟨h3,h1⟩,h2⟩
  · rintro⟨⟨h1,h2⟩,h3⟩;exact⟨h2,h3,h1⟩
theorem sorted_addS: ∀(ms l:List Int),l.Pairwise (· < ·)→(addS l ms).Pairwise (· < ·)
 | [],_,h=>h
 |m::ms,l,h=>sorted_addS ms _ (sorted_insS m l h)
theorem sorted_remS: ∀(ms l:List Int),l.Pairwise (· < ·)→(remS l ms).Pairwise (· < ·)
 | [],_,h=>h
 |m::ms,l,h=>sorted_remS ms _ (sorted_delS m l h)
theorem rem_add (l ms:List Int)(h:l.Pairwise (· < ·))(hd: ∀x∈ms,x∉l):remS (addS l ms) ms=l:=by
 refine sorted_ext (sorted_remS _ _ (sorted_addS _ _ h)) h fun z=> ?_
 rw [mem_remS,mem_addS]
 constructor
 · rintro⟨h1,h2|h2⟩
   · exact absurd h2 h1
   · exact h2
 · intro hz;exact⟨fun hm=>hd z hm hz,.inr hz⟩
def repB:List Int→List Int→Bool
 |_,[]=>false
 |seen,x::r=>decide (x∈seen)||repB (insS x seen) r
theorem repB_nodup: ∀(l seen:List Int),repB seen l=false↔l.Nodup∧ ∀x∈l,x∉seen
 | [],_=>by simp [repB]
 |x::r,seen=>by
  unfold repB;rw [Bool.or_eq_false_iff,decide_eq_false_iff_not,repB_nodup r,List.nodup_cons]
  constructor
  · rintro⟨h1,h2,h3⟩
    refine⟨⟨fun hx=>h3 x hx ((mem_insS x x seen).2 (.inl rfl)),h2⟩,fun y hy=> ?_⟩
    rcases List.mem_cons.1 hy with rfl|hy
    · exact h1
    · exact fun hs=>h3 y hy ((mem_insS x y seen).2 (.inr hs))
  · rintro⟨⟨h1,h2⟩,h3⟩
    refine⟨h3 x (by simp),h2,fun y hy hs=> ?_⟩
    rcases (mem_insS x y seen).1 hs with rfl|hs
    · exact h1 hy
    · exact h3 y (by simp [hy]) hs
structure SetAt (b:Nat)(w:World)(l:List Int):Prop where
 map:MapAt w b (setM l)
 up:l.Pairwise (· < ·)
structure MkAt (s b:Nat)(w:World)(l:List Int):Prop where
 cell:w.heap[s]? =some (.cells #[.map (some b)] 143 (0,0))
 set:SetAt b w l
theorem SetAt.keepB {b:Nat}{w w':World}{l:List Int}(h:SetAt b w l)(hb:Below w.heap.size w w'):SetAt b w' l:=⟨h.map.keepB hb,h.up⟩
theorem MkAt.ne {s b:Nat}{w:World}{l:List Int}(h:MkAt s b w l):s≠b:=by
 rintro rfl;obtain⟨es,clock,hb,_⟩:=h.set.map
 rw [h.cell]at hb;simp at hb
theorem MkAt.lt {s b:Nat}{w:World}{l:List Int}(h:MkAt s b w l):s<w.heap.size:=(Array.getElem?_eq_some_iff.1 h.cell).1
theorem MkAt.keep {S:Nat→Prop}{s b:Nat}{w w':World}{l:List Int}(h:MkAt s b w l)(hk:Kept S w w')(hs:S s)(hb:S b):MkAt s b w' l:=
 ⟨(hk.block s h.lt hs).trans h.cell,h.set.map.keep hk hb,h.set.up⟩
theorem MkAt.keepB {s b:Nat}{w w':World}{l:List Int}(h:MkAt s b w l)(hb:Below w.heap.size w w'):MkAt s b w' l:=⟨box_after hb h.cell,h.set.keepB hb⟩
theorem SetAt.look {b:Nat}{w:World}{l:List Int}(h:SetAt b w l)(x:Int)(hx:okU x):(Instr.lookup 138 (.map (some b)) (.int .u64 x) false).run Tryz.prog w= .ok (.bool (decide (x∈l))) w:=by
 have h1:=h.map.look Tryz.underlying138 (zero_bool w) x hx;rw [setM_get]at h1;rw [h1]
 by_cases hm:x∈l<;>simp [hm]
theorem has_any (s b:Nat)(w:World)(l:List Int)(h:MkAt s b w l)(x:Int)(hx:okU x):
   Calls Tryz.prog 116 #[(.pointer (some ⟨s,0,none⟩)),.int .u64 x] w fun e w'=>e= .returned (.bool (decide (x∈l)))∧Below w.heap.size w w':=by
 have hl:=h.set.look x hx;obtain⟨x0,x1⟩:=box_cells h.cell
 go_enter Tryz.func116,Tryz.ntmps116
 go_wp2_with fail;go_ret
 exact⟨rfl,Below.refl _ _⟩
theorem mkNew_any (w:World):
   Calls Tryz.prog 39 #[] w fun e w'=> ∃s b,e= .returned (.pointer (some ⟨s,0,none⟩))∧MkAt s b w' []∧w.heap.size≤s∧w.heap.size≤b∧Below w.heap.size w w':=by
 have hmm:= @run_makeMap Tryz.prog
 go_enter Tryz.func39,Tryz.ntmps39
 go_wp2_with fail;go_ret;have hg:((w.alloc (.map #[] 0)).alloc (.cells #[.map (some w.heap.size)] 143)).heap[w.heap.size]? =some (.map #[] 0):=(two_new w (.map #[] 0) (.cells #[.map (some w.heap.size)] 143)).2;have hs:((w.alloc (.map #[] 0)).alloc (.cells #[.map (some w.heap.size)] 143)).heap[w.heap.size+1]? =some (.cells #[.map (some w.heap.size)] 143 (0,0)):=(two_new w (.map #[] 0) (.cells #[.map (some w.heap.size)] 143)).1
 exact⟨w.heap.size+1,w.heap.size,rfl,⟨hs,⟨(mapAt_made w).at' (by rw [hg];exact(box_new w (.map #[] 0)).symm),List.Pairwise.nil⟩⟩,by omega,Nat.le_refl _,bnew (bnew (Below.refl _ _) _) _⟩
theorem some_any (s b:Nat)(S:Nat→Prop)(w:World)(l:List Int)(h:MkAt s b w l)(a:Option Addr)(cap:Nat)(ms:List Int)(hms:numsR.rel S w [.slice a ms.length cap] ms)(c:Bool):
   Calls Tryz.prog 123 #[(.pointer (some ⟨s,0,none⟩)),.slice a ms.length cap,.bool c] w fun e w'=>e= .returned (.bool (ms.any fun x=>decide (x∈l)==c))∧Below w.heap.size w w':=by
 have hml:ms.length≤9223372036854775807:=by have:=sliceR.lens hms;unfold maxLen at this;omega
 have hok:=ints_wf hms;have HOK:=Hd hok;have HM:=Hd hms;have HS:=Hd h;clear hok hms h
 go_enter Tryz.func123,Tryz.ntmps123
 go_wp2_with fail
 go_loopw [11] (fun vi wr=> ∃k:Nat,k≤ms.length∧vi= .int .i64 k∧Below w.heap.size w wr∧Hid ((ms.take k).any (fun x=>decide (x∈l)==c)=false)) (fun vi _=>ms.length-(intOf vi).toNat)
 case atStart=>exact⟨0,Nat.zero_le _,rfl,Below.refl _ _,by show _=_;simp⟩
 case round=>
   obtain⟨k,hk,rfl,hbr,hany⟩:=hrel
   by_cases hlt:k<ms.length
   · obtain⟨bb,off,rfl,hbl,hcc⟩:=nums_at (numsR.keepB HM.out hbr) k hlt
     have HT:Hid ((ms.take (k+1)).any (fun x=>decide (x∈l)==c)=(decide (ms[k]∈l)==c)):=by show _=_;rw [List.take_succ_eq_append_getElem hlt,List.any_append,hany.out];simp
     have HT2:Hid ((decide (ms[k]∈l)==c)=true→ms.any (fun x=>decide (x∈l)==c)=true):=fun hh=>List.any_eq_true.2 ⟨ms[k],List.getElem_mem hlt,hh⟩
     have HSR:=Hd (HS.out.keepB hbr);have hlk:=HSR.out.set.look ms[k] (HOK.out _ (List.getElem_mem hlt));generalize ms[k]=x at*;obtain⟨x0,x1⟩:=box_cells HSR.out.cell;have HBR:=Hd hbr;clear hbr
     cases hd:(decide (x∈l)==c)with
     |true=>
      have HF:=Hd (HT2.out hd);go_wp2_with fail;go_ret
      exact⟨congrArg (fun b=>Ending.returned (.bool b)) HF.out.symm,HBR.out⟩
     |false=>
      go_wp2_with fail
      go_roundw
      case rel=>exact⟨k+1,by omega,by go_num,HBR.out,by show _=_;rw [HT.out,hd]⟩
      case measure=>simp [intOf];omega
   · obtain rfl:k=ms.length:=by omega
     rw [List.take_length]at hany;go_wp2_with fail;go_ret
     exact⟨congrArg (fun b=>Ending.returned (.bool b)) hany.out.symm,hbr⟩
end Go.Proofs.YtjknlhiimmbilaaGreatDoor
/- The set of spend marks of the program: Add, Remove. -/
set_option maxRecDepth 100000
set_option maxHeartbeats 1000000
namespace Go.Proofs.YtjknlhiimmbilaaGreatDoor
open Go.ChangeShapes Go.WideShapes Go.ChangeAt Go.RowKit Go.Sort
theorem only_below {n b:Nat}{w wr w':World}(hn:n=w.heap.size)(h:Below n w wr)(hb:n≤b)(ho:OnlyAt b wr w'):Below n w w':=by
 subst hn
 have h1:Kept (fun i=>i<w.heap.size) w wr:=Kept.of_below h
 have h2:Kept (fun i=>i<w.heap.size) w w':=h1.trans ho fun i _ hi=>by have:i<w.heap.size:=hi;show i≠b;omega
 exact h2.below (Nat.le_refl _)
theorem delS_len (x:Int)(l:List Int):(delS x l).length≤l.length:=List.length_filter_le _ _
theorem insI_len (x:Int): ∀l,(insI x l).length=l.length+1
 | []=>rfl
 |y::r=>by
  unfold insI
  split
  · rfl
  · simp [insI_len x r]
theorem insS_len (x:Int)(l:List Int):(insS x l).length≤l.length+1:=by
 unfold insS;rw [insI_len];have:=delS_len x l;omega
theorem addS_len: ∀(ms l:List Int),(addS l ms).length≤l.length+ms.length
 | [],l=>by simp [addS]
 |m::ms,l=>by
  have h1:=addS_len ms (insS m l);have h2:=insS_len m l;unfold addS at h1⊢
  rw [List.foldl_cons,List.length_cons];omega
theorem remS_len: ∀(ms l:List Int),(remS l ms).length≤l.length
 | [],l=>by simp [remS]
 |m::ms,l=>by
  have h1:=remS_len ms (delS m l);have h2:=delS_len m l;unfold remS at h1⊢
  rw [List.foldl_cons];omega
theorem addS_snoc (l ms:List Int)(k:Nat)(hk:k<ms.length):addS l (ms.take (k+1))=insS ms[k] (addS l (ms.take k)):=by
 unfold addS;rw [List.take_succ_eq_append_getElem hk,List.foldl_append];rfl
theorem remS_snoc (l ms:List Int)(k:Nat)(hk:k<ms.length):remS l (ms.take (k+1))=delS ms[k] (remS l (ms.take k)):=by
 unfold remS;rw [List.take_succ_eq_append_getElem hk,List.foldl_append];rfl
theorem SetAt.put {b:Nat}{w w':World}{l:List Int}{x:Int}(h:SetAt b w l)(hm:MapAt w' b (putM (setM l) x (.bool true))):SetAt b w' (insS x l):=⟨by rw [←setM_put];exact hm,sorted_insS x l h.up⟩
theorem SetAt.del {b:Nat}{w w':World}{l:List Int}{x:Int}(h:SetAt b w l)(hm:MapAt w' b (delM (setM l) x)):SetAt b w' (delS x l):=⟨by rw [←setM_del];exact hm,sorted_delS x l h.up⟩
theorem setM_len (l:List Int):(setM l).length=l.length:=by simp [setM]
theorem repeated_any (S:Nat→Prop)(w:World)(a:Option Addr)(cap:Nat)(ms:List Int)(hms:numsR.rel S w [.slice a ms.length cap] ms)(hlen:ms.length≤1000000):
   Calls Tryz.prog 124 #[.slice a ms.length cap] w fun e w'=>e= .returned (.bool (repB [] ms))∧Below w.heap.size w w':=by
 have hok:=ints_wf hms;have HOK:=Hd hok;have HM:=Hd hms;clear hok hms;have hmm:= @run_makeMap Tryz.prog
 go_enter Tryz.func124,Tryz.ntmps124
 go_upto_region 2 with(fail)
 have H0:Hid (SetAt w.heap.size (w.alloc (.map #[] 0)) []):=⟨mapAt_made w,List.Pairwise.nil⟩;have HB0:=Hd (bnew (Below.refl w.heap.size w) (.map #[] 0));generalize w.alloc (.map #[] 0)=W at*;go_wp2_with fail
 go_loopw [9] (fun vi wr=> ∃(k:Nat) (sn:List Int),k≤ms.length∧vi= .int .i64 k∧Below w.heap.size w wr∧SetAt w.heap.size wr sn∧sn.length≤k∧Hid (repB sn (ms.drop k)=repB [] ms)) (fun vi _=>ms.length-(intOf vi).toNat)
 case atStart=>exact⟨0,[],Nat.zero_le _,rfl,HB0.out,H0.out,Nat.le_refl _,rfl⟩
 case round=>
   obtain⟨k,sn,hk,rfl,hbr,hsn,hsl,hrep⟩:=hrel
   by_cases hlt:k<ms.length
   · obtain⟨bb,off,rfl,hbl,hcc⟩:=nums_at (numsR.keepB HM.out hbr) k hlt
     have HD:=Hd (List.drop_eq_getElem_cons hlt);have hokx:=HOK.out _ (List.getElem_mem hlt);have hlk:=hsn.look ms[k] hokx;have HOX:=Hd hokx;generalize ms[k]=x at*;have HSN:=Hd hsn;have HBR:=Hd hbr;have HSL:=Hd hsl;clear hsn hbr hsl hokx
     by_cases hd:x∈sn
     · have HF:Hid (repB [] ms=true):=by show _=_;rw [←hrep.out,HD.out];unfold repB;rw [decide_eq_true hd,Bool.true_or]
       rw [decide_eq_true hd]at hlk;go_wp2_with fail;go_ret
       exact⟨congrArg (fun b=>Ending.returned (.bool b)) HF.out.symm,HBR.out⟩
     · have HF:Hid (repB (insS x sn) (ms.drop (k+1))=repB [] ms):=by show _=_;rw [←hrep.out,HD.out];conv=>rhs;unfold repB;rw [decide_eq_false hd,Bool.false_or]
       rw [decide_eq_false hd]at hlk
       go_wp2_with (at_mapUpdate;go_loud (refine wpList_putM rfl _ rfl _ _ _ 138 rfl 4 Tryz.underlying138 w.heap.size (setM sn) rfl HSN.out.map (by rw [setM_len];unfold maxLen;have:=HSL.out;omega) x (.bool true) rfl HOX.out rfl ?_))
       intro w4 hm4 ho4 hz4
       have HS4:=Hd (HSN.out.put hm4);have HB4:=Hd (only_below rfl HBR.out (Nat.le_refl _) ho4);clear hm4 ho4 hz4;go_wp2_with fail
       go_roundw
       case rel=>exact⟨k+1,insS x sn,by omega,by go_num,HB4.out,HS4.out,by have:=insS_len x sn;have:=HSL.out;omega,HF⟩
       case measure=>simp [intOf];omega
   · obtain rfl:k=ms.length:=by omega
     have HF:Hid (repB [] ms=false):=by show _=_;rw [←hrep.out,List.drop_length];rfl
     have HBR:=Hd hbr;clear hbr hsn;go_wp2_with fail;go_ret
     exact⟨congrArg (fun b=>Ending.returned (.bool b)) HF.out.symm,HBR.out⟩
def addE (l ms:List Int):Int:=if (ms.any fun x=>decide (x∈l)==true)=true∨repB [] ms=true then 12 else 0
def addW (l ms:List Int):List Int:=if addE l ms=0 then addS l ms else l
def remE (l ms:List Int):Int:=if (ms.any fun x=>decide (x∈l)==false)=true∨repB [] ms=true then 4 else 0
def remW (l ms:List Int):List Int:=if remE l ms=0 then remS l ms else l
theorem add_any (s b:Nat)(S:Nat→Prop)(w:World)(l:List Int)(h:MkAt s b w l)(a:Option Addr)(cap:Nat)(ms:List Int)(hms:numsR.rel S w [.slice a ms.length cap] ms)(hlen:ms.length≤1000000)(hl:l.length≤1000000000)(hSb: ¬S b):
   Calls Tryz.prog 118 #[(.pointer (some ⟨s,0,none⟩)),.slice a ms.length cap] w fun e w'=>e= .returned (.int .i64 (addE l ms))∧MkAt s b w' (addW l ms)∧Kept (fun i=>i≠b) w w':=by
 have hok:=ints_wf hms;have HOK:=Hd hok;have HM:=Hd hms;have HS:=Hd h;have HNE:=Hd h.ne;clear hok hms h
 go_enter Tryz.func118,Tryz.ntmps118
 go_wp2_with fail
 refine(some_any s b S w l HS.out a cap ms HM.out true).mono ?_
 rintro e w1 ⟨rfl,hb1⟩;have HM1:=Hd (numsR.keepB HM.out hb1);have HS1:=Hd (HS.out.keepB hb1)
 have HK1:Hid (Kept (fun i=>i≠b) w w1):=Kept.of_below hb1
 by_cases hany:(ms.any fun x=>decide (x∈l)==true)=true
 · have HF:Hid (addE l ms=12):=by show _=_;unfold addE;rw [if_pos (.inl hany)]
   have HF2:Hid (addW l ms=l):=by show _=_;unfold addW;rw [if_neg (by rw [HF.out];omega)]
   rw [hany];clear hany;go_wp2_with fail;go_ret
   exact⟨ret_int HF.out.symm,by rw [HF2.out];exact HS1.out,HK1.out⟩
 · have HNA:=Hd hany
   rw [Bool.not_eq_true]at hany;rw [hany];clear hany;go_wp2_with fail
   refine(repeated_any S w1 a cap ms HM1.out hlen).mono ?_
   rintro e w2 ⟨rfl,hb2⟩;have HM2:=Hd (numsR.keepB HM1.out hb2);have HS2:=Hd (HS1.out.keepB hb2)
   have HK2:Hid (Kept (fun i=>i≠b) w w2):=HK1.out.trans (Kept.of_below (S:=fun i=>i≠b) hb2) fun _ _ h=>h
   by_cases hrep:repB [] ms=true
   · have HF:Hid (addE l ms=12):=by show _=_;unfold addE;rw [if_pos (.inr hrep)]
     have HF2:Hid (addW l ms=l):=by show _=_;unfold addW;rw [if_neg (by rw [HF.out];omega)]
     rw [hrep];clear hrep;go_wp2_with fail;go_ret
     exact⟨ret_int HF.out.symm,by rw [HF2.out];exact HS2.out,HK2.out⟩
   · have HF:Hid (addE l ms=0):=by show _=_;unfold addE;rw [if_neg (by rintro(h|h);exact HNA.out h;exact hrep h)]
     have HF2:Hid (addW l ms=addS l ms):=by show _=_;unfold addW;rw [if_pos HF.out]
     rw [Bool.not_eq_true]at hrep;rw [hrep];clear hrep hb1 hb2 HM1 HS1 HK1;obtain⟨x0,x1⟩:=box_cells HS2.out.cell;have hqn:(binOp .eql 138 (.map (some b)) (.map none)).run Tryz.prog w2= .ok (.bool false) w2:=run_eql_map_nil w2 _ _ _ (some b) Tryz.underlying138;go_wp2_with fail
     go_loopw [25] (fun vi wr=> ∃k:Nat,k≤ms.length∧vi= .int .i64 k∧SetAt b wr (addS l (ms.take k))∧Kept (fun i=>i≠b) w2 wr) (fun vi _=>ms.length-(intOf vi).toNat)
     case atStart=>exact⟨0,Nat.zero_le _,rfl,HS2.out.set,Kept.refl _ _⟩
     case round=>
       obtain⟨k,hk,rfl,hsn,hkr⟩:=hrel
       by_cases hlt:k<ms.length
       · obtain⟨bb,off,rfl,hbl,hcc⟩:=nums_at (numsR.keep HM2.out (hkr.mono fun i _ hi=>fun e=>hSb (e▸hi))) k hlt
         have HSNOC:=Hd (addS_snoc l ms k hlt);have HOX:=Hd (HOK.out _ (List.getElem_mem hlt))
         have HLE:Hid ((addS l (ms.take k)).length≤1001000000):=by show _≤_;have:=addS_len (ms.take k) l;rw [List.length_take]at this;omega
         generalize ms[k]=x at*;have HSN:=Hd hsn;have HKR:=Hd hkr;obtain⟨x0,x1⟩:=box_cells ((hkr.block s HS2.out.lt HNE.out).trans HS2.out.cell);clear hsn hkr
         go_wp2_with (at_mapUpdate;go_loud (refine wpList_putM rfl _ rfl _ _ _ 138 rfl 4 Tryz.underlying138 b (setM (addS l (ms.take k))) rfl HSN.out.map (by rw [setM_len];unfold maxLen;have:=HLE.out;omega) x (.bool true) rfl HOX.out rfl ?_))
         intro w4 hm4 ho4 hz4
         have HS4:=Hd (HSN.out.put hm4)
         have HK4:Hid (Kept (fun i=>i≠b) w2 w4):=HKR.out.trans ho4 fun _ _ h=>h
         clear hm4 ho4 hz4 x0 x1;go_wp2_with fail
         go_roundw
         case rel=>exact⟨k+1,by omega,by go_num,by rw [HSNOC.out];exact HS4.out,HK4.out⟩
         case measure=>simp [intOf];omega
       · obtain rfl:k=ms.length:=by omega
         rw [List.take_length]at hsn;have HSN:=Hd hsn;have HKR:=Hd hkr;clear hsn hkr;go_wp2_with fail;go_ret
         exact⟨ret_int HF.out.symm,by rw [HF2.out];exact⟨(HKR.out.block s HS2.out.lt HNE.out).trans HS2.out.cell,HSN.out⟩,HK2.out.trans HKR.out fun _ _ h=>h⟩
theorem remove_any (s b:Nat)(S:Nat→Prop)(w:World)(l:List Int)(h:MkAt s b w l)(a:Option Addr)(cap:Nat)(ms:List Int)(hms:numsR.rel S w [.slice a ms.length cap] ms)(hlen:ms.length≤1000000)(hl:l.length≤1000000000)(hSb: ¬S b):
   Calls Tryz.prog 82 #[(.pointer (some ⟨s,0,none⟩)),.slice a ms.length cap] w fun e w'=>e= .returned (.int .i64 (remE l ms))∧MkAt s b w' (remW l ms)∧Kept (fun i=>i≠b) w w':=by
 have hok:=ints_wf hms;have HOK:=Hd hok;have HM:=Hd hms;have HS:=Hd h;have HNE:=Hd h.ne;clear hok hms h
 go_enter Tryz.func82,Tryz.ntmps82
 go_wp2_with fail
 refine(some_any s b S w l HS.out a cap ms HM.out false).mono ?_
 rintro e w1 ⟨rfl,hb1⟩;have HM1:=Hd (numsR.keepB HM.out hb1);have HS1:=Hd (HS.out.keepB hb1)
 have HK1:Hid (Kept (fun i=>i≠b) w w1):=Kept.of_below hb1
 by_cases hany:(ms.any fun x=>decide (x∈l)==false)=true
 · have HF:Hid (remE l ms=4):=by show _=_;unfold remE;rw [if_pos (.inl hany)]
   have HF2:Hid (remW l ms=l):=by show _=_;unfold remW;rw [if_neg (by rw [HF.out];omega)]
   rw [hany];clear hany;go_wp2_with fail;go_ret
   exact⟨ret_int HF.out.symm,by rw [HF2.out];exact HS1.out,HK1.out⟩
 · have HNA:=Hd hany
   rw [Bool.not_eq_true]at hany;rw [hany];clear hany;go_wp2_with fail
   refine(repeated_any S w1 a cap ms HM1.out hlen).mono ?_
   rintro e w2 ⟨rfl,hb2⟩;have HM2:=Hd (numsR.keepB HM1.out hb2);have HS2:=Hd (HS1.out.keepB hb2)
   have HK2:Hid (Kept (fun i=>i≠b) w w2):=HK1.out.trans (Kept.of_below (S:=fun i=>i≠b) hb2) fun _ _ h=>h
   by_cases hrep:repB [] ms=true
   · have HF:Hid (remE l ms=4):=by show _=_;unfold remE;rw [if_pos (.inr hrep)]
     have HF2:Hid (remW l ms=l):=by show _=_;unfold remW;rw [if_neg (by rw [HF.out];omega)]
     rw [hrep];clear hrep;go_wp2_with fail;go_ret
     exact⟨ret_int HF.out.symm,by rw [HF2.out];exact HS2.out,HK2.out⟩
   · have HF:Hid (remE l ms=0):=by show _=_;unfold remE;rw [if_neg (by rintro(h|h);exact HNA.out h;exact hrep h)]
     have HF2:Hid (remW l ms=remS l ms):=by show _=_;unfold remW;rw [if_pos HF.out]
     rw [Bool.not_eq_true]at hrep;rw [hrep];clear hrep hb1 hb2 HM1 HS1 HK1;go_wp2_with fail
     go_loopw [16] (fun vi wr=> ∃k:Nat,k≤ms.length∧vi= .int .i64 k∧SetAt b wr (remS l (ms.take k))∧Kept (fun i=>i≠b) w2 wr) (fun vi _=>ms.length-(intOf vi).toNat)
     case atStart=>exact⟨0,Nat.zero_le _,rfl,HS2.out.set,Kept.refl _ _⟩
     case round=>
       obtain⟨k,hk,rfl,hsn,hkr⟩:=hrel
       by_cases hlt:k<ms.length
       · obtain⟨bb,off,rfl,hbl,hcc⟩:=nums_at (numsR.keep HM2.out (hkr.mono fun i _ hi=>fun e=>hSb (e▸hi))) k hlt
         have HSNOC:=Hd (remS_snoc l ms k hlt);have HOX:=Hd (HOK.out _ (List.getElem_mem hlt))
         have HLE:Hid ((remS l (ms.take k)).length≤1001000000):=by show _≤_;have:=remS_len (ms.take k) l;omega
         generalize ms[k]=x at*;have HSN:=Hd hsn;have HKR:=Hd hkr;obtain⟨x0,x1⟩:=box_cells ((hkr.block s HS2.out.lt HNE.out).trans HS2.out.cell);clear hsn hkr
         go_wp2_with (at_delete;go_loud (refine wpList_delM rfl _ rfl _ _ 138 rfl 4 Tryz.underlying138 b (setM (remS l (ms.take k))) rfl HSN.out.map x rfl HOX.out ?_))
         intro w4 hm4 ho4 hz4
         have HS4:=Hd (HSN.out.del hm4)
         have HK4:Hid (Kept (fun i=>i≠b) w2 w4):=HKR.out.trans ho4 fun _ _ h=>h
         clear hm4 ho4 hz4 x0 x1;go_wp2_with fail
         go_roundw
         case rel=>exact⟨k+1,by omega,by go_num,by rw [HSNOC.out];exact HS4.out,HK4.out⟩
         case measure=>simp [intOf];omega
       · obtain rfl:k=ms.length:=by omega
         rw [List.take_length]at hsn;have HSN:=Hd hsn;have HKR:=Hd hkr;clear hsn hkr;go_wp2_with fail;go_ret
         exact⟨ret_int HF.out.symm,by rw [HF2.out];exact⟨(HKR.out.block s HS2.out.lt HNE.out).trans HS2.out.cell,HSN.out⟩,HK2.out.trans HKR.out fun _ _ h=>h⟩
end Go.Proofs.YtjknlhiimmbilaaGreatDoor
