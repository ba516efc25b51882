/- Opening cases of the builder's laws that come as arguments. -/
import Derived.Test.YtdjcdejapkkcmaaGreatDoorReads
import Derived.Test.YtdjcdejapkkcmaaGreatDoorM13
namespace Go.Proofs.YtdjcdejapkkcmaaGreatDoor
open Go.ChangeShapes Go.WideShapes Go.ChangeAt Go.RowKit

def caseR : Rep CaseM := mapR (fun c => ((⟨c.rules.mode, c.rules.depth, c.rules.bl, c.rules.bu, c.rules.qu, c.rules.rew, c.rules.win, c.rules.fin, c.rules.work⟩ : RulesM), c.orc, c.coins, c.spend, c.dums, c.outs, c.dep, c.wd, c.fee, c.owner, c.nonce, c.exp, c.seed, c.spoil, c.by_))
  (pairR rulesR (pairR u64R (pairR coinsR (pairR bytesR (pairR numsR (pairR paysSR (pairR u64R (pairR u64R (pairR u64R (pairR u64R (pairR u64R (pairR (intR .i64) (pairR u64R (pairR (intR .u8) u64R))))))))))))))
theorem caseR.inv {S : Nat → Prop} {w : World} {cs : List Value} {c : CaseM} (h : caseR.rel S w cs c) : ∃ x : CaAd, cs.toArray = caC c x ∧ CaseAt S w c x ∧ CaseOk c := by
  obtain ⟨c0, _, rfl, h0, _, _, rfl, ⟨rfl, w1⟩, c2, _, rfl, h2, c3, _, rfl, h3, c4, _, rfl, h4, c5, _, rfl, h5, _, _, rfl, ⟨rfl, w6⟩, _, _, rfl, ⟨rfl, w7⟩, _, _, rfl, ⟨rfl, w8⟩, _, _, rfl, ⟨rfl, w9⟩, _, _, rfl, ⟨rfl, w10⟩, _, _, rfl, ⟨rfl, w11⟩, _, _, rfl, ⟨rfl, w12⟩, _, _, rfl, ⟨rfl, -⟩, ⟨rfl, -⟩⟩ := h
  have e0 : c0 = _ := rulesR.inv h0
  subst e0
  obtain ⟨a2, k2, rfl⟩ := one_form h2
  obtain ⟨a3, k3, rfl⟩ := one_form h3
  obtain ⟨a4, k4, rfl⟩ := one_form h4
  obtain ⟨a5, k5, rfl⟩ := one_form h5
  exact ⟨⟨a2, k2, a3, k3, a4, k4, a5, k5⟩, rfl, ⟨h2, h3, h4, h5⟩, ⟨w1, w6, w7, w8, w9, w10, w11, w12⟩⟩
section
variable {H : Type} {enc : TypeId × Value → H} {W : World}
theorem reads_coin : Reads H enc Tryz.prog W coinR 74 :=
  Reads.map (fun (a, b, c, d, e) => ⟨a, b, c, d, e⟩) _ (fun _ => rfl) (Reads.struct Tryz.underlying74 (by kernel_rfl)
    (.more rfl (by kernel_rfl) reads_u64 (.more rfl (by kernel_rfl) reads_i64 (.more rfl (by kernel_rfl) reads_u64 (.more rfl (by kernel_rfl) reads_u64 (.last rfl (by kernel_rfl) reads_u64))))))
theorem reads_coins : Reads H enc Tryz.prog W coinsR 27 := reads_coin.slice Tryz.underlying27 (by kernel_rfl) (by rw [coinR.n]; omega)
theorem reads_payS : Reads H enc Tryz.prog W paySR 69 :=
  Reads.map (fun (a, b, c) => ⟨a, b, c⟩) _ (fun _ => rfl) (Reads.struct Tryz.underlying69 (by kernel_rfl)
    (.more rfl (by kernel_rfl) reads_u64 (.more rfl (by kernel_rfl) reads_i64 (.last rfl (by kernel_rfl) reads_u64))))
theorem reads_paysS : Reads H enc Tryz.prog W paysSR 30 := reads_payS.slice Tryz.underlying30 (by kernel_rfl) (by rw [paySR.n]; omega)
theorem reads_case : Reads H enc Tryz.prog W caseR 32 :=
  Reads.map (fun (r, b, c, d, e, f, g, h, i, j, k, l, m, n, o) => ⟨⟨r.mode, r.depth, r.bl, r.bu, r.q, r.rew, r.win, r.fin, r.work⟩, b, c, d, e, f, g, h, i, j, k, l, m, n, o⟩) _ (fun _ => rfl) (Reads.struct Tryz.underlying32 (by kernel_rfl)
    (.more rfl (by kernel_rfl) reads_rules (.more rfl (by kernel_rfl) reads_u64 (.more rfl (by kernel_rfl) reads_coins (.more rfl (by kernel_rfl) reads_bytes (.more rfl (by kernel_rfl) reads_nums (.more rfl (by kernel_rfl) reads_paysS
      (.more rfl (by kernel_rfl) reads_u64 (.more rfl (by kernel_rfl) reads_u64 (.more rfl (by kernel_rfl) reads_u64 (.more rfl (by kernel_rfl) reads_u64 (.more rfl (by kernel_rfl) reads_u64 (.more rfl (by kernel_rfl) reads_i64 (.more rfl (by kernel_rfl) reads_u64 (.more rfl (by kernel_rfl) reads_u8 (.last rfl (by kernel_rfl) reads_u64))))))))))))))))
set_option maxRecDepth 100000 in
theorem open_case {rc : Reach} {b0 : Nat} {v : Value} {d : DataW H} {ps : List MemPlace} (hv : Value.okWide Tryz.prog W rc b0 32 v) (h : DataW.Trod enc Tryz.prog W 0 (fun _ => true) true 32 v d ps) :
    ∃ (c : CaseM) (x : CaAd), v = .agg (caC c x) ∧ CaseAt (fun k => k < W.heap.size) W c x ∧ CaseOk c := by
  obtain ⟨⟨cs⟩, c, rfl, hr⟩ := open_rel_struct (P := Tryz.prog) Tryz.underlying32 reads_case hv h
  obtain ⟨x, hcs, ha, hok⟩ := caseR.inv hr
  have hcs' : (⟨cs⟩ : Array Value) = caC c x := hcs
  exact ⟨c, x, by rw [hcs'], ha, hok⟩
end
end Go.Proofs.YtdjcdejapkkcmaaGreatDoor
