/- Opening rules and lists of blocks that come as arguments. -/
import Derived.Test.YtjknlhiimmbilaaGreatDoorReads
import Derived.Test.YtjknlhiimmbilaaGreatDoorMLw
set_option maxRecDepth 100000
namespace Go.Proofs.YtjknlhiimmbilaaGreatDoor
open Go.ChangeShapes Go.WideShapes Go.ChangeAt Go.RowKit
theorem rulesR.rew {S:Nat→Prop}{w:World}{cs:List Value}{r:RulesM}(h:rulesR.rel S w cs r):okU r.rew:=by
 obtain⟨_,_,rfl,⟨rfl, -⟩,_,_,rfl,⟨rfl, -⟩,_,_,rfl,⟨_,_,rfl,⟨rfl, -⟩,_,_,rfl,⟨rfl, -⟩,⟨rfl, -⟩⟩,_,_,rfl,⟨rfl,hw⟩,_,_,rfl,⟨rfl, -⟩,_,_,rfl,⟨rfl, -⟩,⟨rfl, -⟩⟩:=h
 exact hw
section
variable {H:Type} {enc:TypeId×Value→H} {W:World}
theorem reads_txs:Reads H enc Tryz.prog W txsR 46:=reads_tx.slice Tryz.underlying46 (by kernel_rfl) (by rw [txR.n];omega)
theorem reads_block:Reads H enc Tryz.prog W blkR 48:=
 Reads.map (fun(a,b,c,d,e,f)=>⟨a,b,c,d,e,f⟩) _ (fun _=>rfl) (Reads.struct Tryz.underlying48 (by kernel_rfl)
   (.more rfl (by kernel_rfl) reads_u64 (.more rfl (by kernel_rfl) reads_i64 (.more rfl (by kernel_rfl) reads_u64 (.more rfl (by kernel_rfl) reads_u64 (.more rfl (by kernel_rfl) reads_u64 (.last rfl (by kernel_rfl) reads_txs)))))))
theorem reads_blocks:Reads H enc Tryz.prog W blksR 58:=reads_block.slice Tryz.underlying58 (by kernel_rfl) (by rw [blkR.n];omega)
theorem open_blocks {rc:Reach}{b0:Nat}{v:Value}{d:DataW H}{ps:List MemPlace}(hv:Value.okWide Tryz.prog W rc b0 58 v)(h:DataW.Trod enc Tryz.prog W 0 (fun _=>true) true 58 v d ps):
   ∃(a:Option Addr) (cap:Nat) (l:List BlkM),v= .slice a l.length cap∧blksR.rel (fun k=>k<W.heap.size) W [.slice a l.length cap] l:=by
 exact open_rel_slice (P:=Tryz.prog) Tryz.underlying58 reads_blocks hv h
theorem open_rulesW {rc:Reach}{b0:Nat}{v:Value}{d:DataW H}{ps:List MemPlace}(hv:Value.okWide Tryz.prog W rc b0 26 v)(h:DataW.Trod enc Tryz.prog W 0 (fun _=>true) true 26 v d ps):
   ∃r:RulesM,okU r.rew∧v= .agg #[.int .i64 r.mode,.int .i64 r.depth,.int .i64 r.bl,.int .i64 r.bu,.int .i64 r.q,.int .u64 r.rew,.int .i64 r.win,.int .i64 r.fin,.int .u64 r.work]:=by
 obtain⟨⟨cs⟩,r,rfl,hr⟩:=open_rel_struct (P:=Tryz.prog) Tryz.underlying26 reads_rules hv h;have hr':cs=_:=rulesR.inv hr
 exact⟨r,rulesR.rew hr,by rw [hr']⟩
end
end Go.Proofs.YtjknlhiimmbilaaGreatDoor
