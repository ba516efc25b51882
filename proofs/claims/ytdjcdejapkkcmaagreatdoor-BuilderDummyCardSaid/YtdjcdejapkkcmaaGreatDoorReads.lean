/- Opening rules and transactions that come as arguments. -/
import Derived.Test.YtdjcdejapkkcmaaGreatDoorRows
import Derived.Test.YtdjcdejapkkcmaaGreatDoorM25
import Derived.Test.YtdjcdejapkkcmaaGreatDoorM01
namespace Go.Proofs.YtdjcdejapkkcmaaGreatDoor
open Go.ChangeShapes Go.WideShapes Go.ChangeAt Go.RowKit

theorem own : ownKnob Tryz.prog.godebug = none := by kernel_rfl
theorem laidOut : laidOutB Tryz.prog = true := by kernel_rfl
structure RulesM where
  mode : Int
  depth : Int
  bl : Int
  bu : Int
  q : Int
  rew : Int
  win : Int
  fin : Int
  work : Int
def rulesR : Rep RulesM := mapR (fun r => (r.mode, r.depth, (r.bl, r.bu, r.q), r.rew, r.win, r.fin, r.work))
  (pairR (intR .i64) (pairR (intR .i64) (pairR (pairR (intR .i64) (pairR (intR .i64) (intR .i64))) (pairR u64R (pairR (intR .i64) (pairR (intR .i64) u64R))))))
theorem rulesR.inv {S : Nat → Prop} {w : World} {cs : List Value} {r : RulesM} (h : rulesR.rel S w cs r) : cs = [.int .i64 r.mode, .int .i64 r.depth, .int .i64 r.bl, .int .i64 r.bu, .int .i64 r.q, .int .u64 r.rew, .int .i64 r.win, .int .i64 r.fin, .int .u64 r.work] := by
  obtain ⟨_, _, rfl, ⟨rfl, -⟩, _, _, rfl, ⟨rfl, -⟩, _, _, rfl, ⟨_, _, rfl, ⟨rfl, -⟩, _, _, rfl, ⟨rfl, -⟩, ⟨rfl, -⟩⟩, _, _, rfl, ⟨rfl, -⟩, _, _, rfl, ⟨rfl, -⟩, _, _, rfl, ⟨rfl, -⟩, ⟨rfl, -⟩⟩ := h
  rfl
section
variable {H : Type} {enc : TypeId × Value → H} {W : World}
theorem reads_i64 : Reads H enc Tryz.prog W (intR .i64) 3 := Reads.int Tryz.underlying3
theorem reads_u64 : Reads H enc Tryz.prog W u64R 24 := Reads.int Tryz.underlying24
theorem reads_u8 : Reads H enc Tryz.prog W (intR .u8) 5 := Reads.int Tryz.underlying5
theorem reads_nums : Reads H enc Tryz.prog W numsR 29 := reads_u64.slice Tryz.underlying29 (by kernel_rfl) (Nat.lt_succ_self 0)
theorem reads_bytes : Reads H enc Tryz.prog W bytesR 28 := reads_u8.slice Tryz.underlying28 (by kernel_rfl) (Nat.lt_succ_self 0)
theorem reads_point : Reads H enc Tryz.prog W (pairR u64R u64R) 78 := Reads.array2 Tryz.underlying78 (by kernel_rfl) (by kernel_rfl) reads_u64
theorem reads_out : Reads H enc Tryz.prog W outR 98 :=
  Reads.map (fun x => ⟨x.1, x.2.1.1, x.2.1.2, x.2.2⟩) _ (fun _ => rfl) (Reads.struct Tryz.underlying98 (by kernel_rfl)
    (.more rfl (by kernel_rfl) reads_u64 (.more rfl (by kernel_rfl) reads_point (.last rfl (by kernel_rfl) reads_nums))))
theorem reads_outs : Reads H enc Tryz.prog W outsR 43 := reads_out.slice Tryz.underlying43 (by kernel_rfl) (by rw [outR.n]; omega)
theorem reads_tx : Reads H enc Tryz.prog W txR 45 :=
  Reads.map (fun (a, b, c, d, e, f, g, h, i, j) => ⟨a, b, c, d, e, f, g, h, i, j⟩) _ (fun _ => rfl) (Reads.struct Tryz.underlying45 (by kernel_rfl)
    (.more rfl (by kernel_rfl) reads_u64 (.more rfl (by kernel_rfl) reads_nums (.more rfl (by kernel_rfl) reads_outs (.more rfl (by kernel_rfl) reads_u64 (.more rfl (by kernel_rfl) reads_u64 (.more rfl (by kernel_rfl) reads_u64
      (.more rfl (by kernel_rfl) reads_u64 (.more rfl (by kernel_rfl) reads_u64 (.more rfl (by kernel_rfl) reads_i64 (.last rfl (by kernel_rfl) reads_bytes)))))))))))
theorem reads_params : Reads H enc Tryz.prog W (pairR (intR .i64) (pairR (intR .i64) (intR .i64))) 23 :=
  Reads.struct Tryz.underlying23 (by kernel_rfl) (.more rfl (by kernel_rfl) reads_i64 (.more rfl (by kernel_rfl) reads_i64 (.last rfl (by kernel_rfl) reads_i64)))
theorem reads_rules : Reads H enc Tryz.prog W rulesR 26 :=
  Reads.map (fun (a, b, (c, d, e), f, g, h, i) => ⟨a, b, c, d, e, f, g, h, i⟩) _ (fun _ => rfl) (Reads.struct Tryz.underlying26 (by kernel_rfl)
    (.more rfl (by kernel_rfl) reads_i64 (.more rfl (by kernel_rfl) reads_i64 (.more rfl (by kernel_rfl) reads_params (.more rfl (by kernel_rfl) reads_u64 (.more rfl (by kernel_rfl) reads_i64 (.more rfl (by kernel_rfl) reads_i64 (.last rfl (by kernel_rfl) reads_u64))))))))
set_option maxRecDepth 100000 in
theorem open_rules {rc : Reach} {b0 : Nat} {v : Value} {d : DataW H} {ps : List MemPlace} (hv : Value.okWide Tryz.prog W rc b0 26 v) (h : DataW.Trod enc Tryz.prog W 0 (fun _ => true) true 26 v d ps) :
    ∃ r : RulesM, v = .agg #[.int .i64 r.mode, .int .i64 r.depth, .int .i64 r.bl, .int .i64 r.bu, .int .i64 r.q, .int .u64 r.rew, .int .i64 r.win, .int .i64 r.fin, .int .u64 r.work] := by
  obtain ⟨⟨cs⟩, r, rfl, hr⟩ := open_rel_struct (P := Tryz.prog) Tryz.underlying26 reads_rules hv h
  have hr' : cs = _ := rulesR.inv hr
  exact ⟨r, by rw [hr']⟩
set_option maxRecDepth 100000 in
theorem open_tx {rc : Reach} {b0 : Nat} {v : Value} {d : DataW H} {ps : List MemPlace} (hv : Value.okWide Tryz.prog W rc b0 45 v) (h : DataW.Trod enc Tryz.prog W 0 (fun _ => true) true 45 v d ps) :
    ∃ (t : TxM) (ma oa pa : Option Addr) (mc oc pc : Nat), v = .agg #[.int .u64 t.anchor, .slice ma t.marks.length mc, .slice oa t.outs.length oc, .int .u64 t.dep, .int .u64 t.wd, .int .u64 t.fee, .int .u64 t.acc, .int .u64 t.nonce, .int .i64 t.exp, .slice pa t.proof.length pc] ∧ TxIn (fun k => k < W.heap.size) W t ma oa pa mc oc pc := by
  obtain ⟨⟨cs⟩, t, rfl, hr⟩ := open_rel_struct (P := Tryz.prog) Tryz.underlying45 reads_tx hv h
  obtain ⟨ma, oa, pa, mc, oc, pc, hcs, hin⟩ := txR.inv hr
  have hcs' : cs = _ := hcs
  exact ⟨t, ma, oa, pa, mc, oc, pc, by rw [hcs']; rfl, hin⟩
end
end Go.Proofs.YtdjcdejapkkcmaaGreatDoor
