/- The example of the laws of chains in plain Lean: three blocks on one another, and one that contradicts the final block. -/
import Derived.Test.YtjknlhiimmbilaaGreatDoorChU
set_option maxRecDepth 100000
namespace Go.Proofs.YtjknlhiimmbilaaGreatDoor
open Go.ChangeShapes Go.WideShapes Go.ChangeAt Go.RowKit Go.Sort
def aR:RuM:=⟨2,2,0,0,0,10,3,2,1⟩
def pid:Nat→Int
 |0=>0
 |1=>324815263302521486
 |2=>11917723101330525173
 |_=>13657388392579330896
def aB (k:Nat):BlkM:=⟨pid k,(k:Int)+1,5,1,0,[]⟩
def aB4:BlkM:=⟨0,1,6,1,0,[]⟩
theorem aw_id0:blkID (aB 0)=pid 1:=by decide+kernel
theorem aw_id1:blkID (aB 1)=pid 2:=by decide+kernel
theorem aw_id2:blkID (aB 2)=pid 3:=by decide+kernel
theorem aw_id4:blkID aB4=7264001096590840511:=by decide+kernel
theorem aw_chk0:blkCheck aR.work (aB 0)=0:=by decide+kernel
theorem aw_chk1:blkCheck aR.work (aB 1)=0:=by decide+kernel
theorem aw_chk2:blkCheck aR.work (aB 2)=0:=by decide+kernel
theorem aw_chk4:blkCheck aR.work aB4=0:=by decide+kernel
theorem aw_app0:applyE aR (runW aR []) (aB 0)=0:=by decide+kernel
theorem aw_app1:applyE aR (runW aR [aB 0]) (aB 1)=0:=by decide+kernel
theorem aw_app2:applyE aR (runW aR [aB 0,aB 1]) (aB 2)=0:=by decide+kernel
theorem aw_past:(runW aR [aB 0,aB 1,aB 2]).past.length=3:=by decide+kernel
def aS (k:Nat)(a:Option Addr)(c:Nat):StB:=⟨pid (k+1),aB k,(k:Int)+1,a,c⟩
def AwS:Nat→ChM→Prop
 |0,m=>m=⟨[],[],0,0⟩
 |1,m=> ∃a c,m=⟨[aS 0 a c],[pid 1],0,0⟩
 |2,m=> ∃a c a' c',m=⟨[aS 0 a c,aS 1 a' c'],[pid 1,pid 2],0,0⟩
 |_,m=> ∃a c a' c' a'' c'',m=⟨[aS 0 a c,aS 1 a' c',aS 2 a'' c''],[pid 1,pid 2,pid 3],pid 1,1⟩
theorem aw_step (k:Nat)(hk:k<3)(m:ChM)(h:AwS k m):subE aR m (aB k)=0∧cntU m (aB k)=0∧cntA m (aB k)=1∧(∀ya yc,AwS (k+1) (subM aR m (aB k) ya yc)):=by
 match k,hk,h with
 |0,_,h=>
  obtain rfl:=h
  refine⟨(subE_app (r:=aR) aw_chk0 rfl (by kernel_rfl) (by kernel_rfl) (by kernel_rfl)).trans ?_,?_,?_,fun ya yc=>⟨ya,yc,?_⟩⟩
  · rw [show blksS _ (branF _ (aB 0))= []from by kernel_rfl];exact aw_app0
  · unfold cntU betS;rw [aw_id0];rfl
  · unfold cntA betS;rw [aw_id0];rfl
  · unfold subM addM betS;rw [aw_id0];rfl
 |1,_,h=>
  obtain⟨a,c,rfl⟩:=h
  refine⟨(subE_app (r:=aR) aw_chk1 (by rw [aw_id1];rfl) (by kernel_rfl) (by kernel_rfl) (by kernel_rfl)).trans ?_,?_,?_,fun ya yc=>⟨a,c,ya,yc,?_⟩⟩
  · rw [show blksS _ (branF _ (aB 1))= [aB 0]from by kernel_rfl];exact aw_app1
  · unfold cntU betS;rw [aw_id1];rfl
  · unfold cntA betS;rw [aw_id1];rfl
  · unfold subM addM betS;rw [aw_id1];rfl
 |2,_,h=>
  obtain⟨a,c,a',c',rfl⟩:=h
  refine⟨(subE_app (r:=aR) aw_chk2 (by rw [aw_id2];rfl) (by kernel_rfl) (by kernel_rfl) (by kernel_rfl)).trans ?_,?_,?_,fun ya yc=>⟨a,c,a',c',ya,yc,?_⟩⟩
  · rw [show blksS _ (branF _ (aB 2))= [aB 0,aB 1]from by kernel_rfl];exact aw_app2
  · unfold cntU betS;rw [aw_id2];rfl
  · unfold cntA betS;rw [aw_id2];rfl
  · unfold subM addM betS;rw [aw_id2];rfl
theorem aw_last (m:ChM)(h:AwS 3 m):subE aR m aB4=19∧tipS m=pid 3∧m.best.length=3∧m.hgt=1∧(runW aR (blksS m.L m.best)).past.length=3:=by
 obtain⟨a,c,a',c',a'',c'',rfl⟩:=h
 exact⟨subE_fin (r:=aR) aw_chk4 (by rw [aw_id4];rfl) rfl rfl,rfl,rfl,rfl,aw_past⟩
theorem aw_rules:RuOK aR:=⟨by decide,by decide,by decide,by decide,by decide,by decide,by decide,by decide,by decide,by decide⟩
theorem aw_newE:newE aR false=0:=by decide+kernel
theorem aw_pid (k:Nat):okU (pid k):=by
 match k with
 |0=>decide
 |1=>decide
 |2=>decide
 |_+3=>exact(by decide:okU 13657388392579330896)
theorem newCh_ok (r:RuM):ChOK r ⟨[],[],0,0⟩:=
 ⟨fun e he=>by simp at he,fun e he=>by simp at he,fun e he=>by simp at he,fun e he=>by simp at he,fun e he=>by simp at he,IsWay.nil _,RunOK.nil r,Nat.le_refl _,fun h=>by simp at h⟩
theorem stp_below {c:Nat}{SB PI SB' PI':Nat→Prop}{v v':ChV}{B:Nat}{w0 w w':World}(hb:Below B w0 w)(hB:B≤w.heap.size)(hm: ∀k,ChMut c v k→B≤k)(hs:ChStp c SB PI v w SB' PI' v' w'):Below B w0 w'∧B≤w'.heap.size∧ ∀k,ChMut c v' k→B≤k:=by
 refine⟨Kept.behind hb hs.kept hB fun k hk h=> ?_,Nat.le_trans hB hs.kept.size,fun k hk=> ?_⟩
 · have:=hm k h;omega
 · rcases hs.turn k hk with h|h
   · exact hm k h
   · omega
theorem BlkIn.empty (S:Nat→Prop)(w:World){p h mi wk:Int}(hp:okU p)(hh:okI h)(hmi:okU mi)(hw:okU wk):BlkIn S w ⟨p,h,mi,wk,0,[]⟩ none 0:=⟨hp,hh,hmi,hw,(by decide:okU 0),sliceR.nil⟩
end Go.Proofs.YtjknlhiimmbilaaGreatDoor
