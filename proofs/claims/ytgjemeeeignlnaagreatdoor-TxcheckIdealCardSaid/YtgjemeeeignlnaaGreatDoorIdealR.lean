/- Proved: TxcheckIdeal returns true for all rules, transactions and issued proofs, and its arguments read afterwards as they read before; the package-level variables that the row lists are tied to the program's text; no other conditions. -/
import Derived.Test.YtgjemeeeignlnaaGreatDoorIdealW
import Derived.Test.YtgjemeeeignlnaaGreatDoorReads
import Derived.Test.YtgjemeeeignlnaaGreatDoorGoes
import Derived.Test.YtgjemeeeignlnaaGreatDoorIdealFb
import Derived.Test.YtgjemeeeignlnaaGreatDoorIdealFc
import Derived.Test.YtgjemeeeignlnaaGreatDoorCards
import Derived.Test.YtgjemeeeignlnaaGreatDoorTie
import Derived.SevenTiedAt
import Derived.LaidMore
import Derived.Stop.Joined
namespace Go.Proofs.YtgjemeeeignlnaaGreatDoor.txcheckIdeal
open Go.ChangeShapes Go.WideShapes Go.ChangeAt Go.RowKit

structure IssueM where
  seed : Int
  oth : Int
  at' : Int
  chg : Int
  more : Int
def issueR : Rep IssueM := mapR (fun x => (x.seed, x.oth, x.at', x.chg, x.more)) (pairR u64R (pairR (intR .u8) (pairR (intR .u16) (pairR (intR .u8) (intR .i64)))))
theorem ok8_in {x : Int} (h : (Lit.int .u8 x).wf = true) : 0 ≤ x ∧ x < 256 := by
  simp [Lit.wf, IntKind.min, IntKind.max, IntKind.signed, IntKind.bits] at h; omega
theorem ok16_in {x : Int} (h : (Lit.int .u16 x).wf = true) : 0 ≤ x ∧ x < 65536 := by
  simp [Lit.wf, IntKind.min, IntKind.max, IntKind.signed, IntKind.bits] at h; omega
theorem ok64_in {x : Int} (h : (Lit.int .i64 x).wf = true) : x < 9223372036854775808 := by
  simp [Lit.wf, IntKind.min, IntKind.max, IntKind.signed, IntKind.bits] at h; omega
theorem issueR.inv {S : Nat → Prop} {w : World} {cs : List Value} {x : IssueM} (h : issueR.rel S w cs x) : cs = [.int .u64 x.seed, .int .u8 x.oth, .int .u16 x.at', .int .u8 x.chg, .int .i64 x.more] ∧ 0 ≤ x.oth ∧ x.oth < 256 ∧ 0 ≤ x.at' ∧ x.at' < 65536 := by
  obtain ⟨_, _, rfl, ⟨rfl, -⟩, _, _, rfl, ⟨rfl, h1⟩, _, _, rfl, ⟨rfl, h2⟩, _, _, rfl, ⟨rfl, -⟩, ⟨rfl, -⟩⟩ := h
  exact ⟨rfl, (ok8_in h1).1, (ok8_in h1).2, (ok16_in h2).1, (ok16_in h2).2⟩
theorem rulesR.depth {S : Nat → Prop} {w : World} {cs : List Value} {r : RulesM} (h : rulesR.rel S w cs r) : r.depth < 9223372036854775808 := by
  obtain ⟨_, _, rfl, ⟨rfl, -⟩, _, _, rfl, ⟨rfl, h1⟩, -⟩ := h
  exact ok64_in h1
section
variable {H : Type} {enc : TypeId × Value → H} {W : World}
theorem reads_u16 : Reads H enc Tryz.prog W (intR .u16) 32 := Reads.int Tryz.underlying32
theorem reads_issue : Reads H enc Tryz.prog W issueR 34 :=
  Reads.map (fun (a, b, c, d, e) => ⟨a, b, c, d, e⟩) _ (fun _ => rfl) (Reads.struct Tryz.underlying34 (by kernel_rfl)
    (.more rfl (by kernel_rfl) reads_u64 (.more rfl (by kernel_rfl) reads_u8 (.more rfl (by kernel_rfl) reads_u16 (.more rfl (by kernel_rfl) reads_u8 (.last rfl (by kernel_rfl) reads_i64))))))
set_option maxRecDepth 100000 in
theorem open_issue {rc : Reach} {b0 : Nat} {v : Value} {d : DataW H} {ps : List MemPlace} (hv : Value.okWide Tryz.prog W rc b0 34 v) (h : DataW.Trod enc Tryz.prog W 0 (fun _ => true) true 34 v d ps) :
    ∃ x : IssueM, v = .agg #[.int .u64 x.seed, .int .u8 x.oth, .int .u16 x.at', .int .u8 x.chg, .int .i64 x.more] ∧ 0 ≤ x.oth ∧ x.oth < 256 ∧ 0 ≤ x.at' ∧ x.at' < 65536 := by
  obtain ⟨⟨cs⟩, x, rfl, hr⟩ := open_rel_struct (P := Tryz.prog) Tryz.underlying34 reads_issue hv h
  obtain ⟨hr', hb⟩ := issueR.inv hr
  have hr2 : cs = _ := hr'
  exact ⟨x, by rw [hr2], hb⟩
set_option maxRecDepth 100000 in
theorem open_rulesI {rc : Reach} {b0 : Nat} {v : Value} {d : DataW H} {ps : List MemPlace} (hv : Value.okWide Tryz.prog W rc b0 26 v) (h : DataW.Trod enc Tryz.prog W 0 (fun _ => true) true 26 v d ps) :
    ∃ r : RulesM, v = .agg #[.int .i64 r.mode, .int .i64 r.depth, .int .i64 r.bl, .int .i64 r.bu, .int .i64 r.q, .int .u64 r.rew, .int .i64 r.win, .int .i64 r.fin, .int .u64 r.work] ∧ r.depth < 9223372036854775808 := by
  obtain ⟨⟨cs⟩, r, rfl, hr⟩ := open_rel_struct (P := Tryz.prog) Tryz.underlying26 reads_rules hv h
  have hr' : cs = _ := rulesR.inv hr
  exact ⟨r, by rw [hr'], rulesR.depth hr⟩
end

theorem door_met (os : Os) (args : Array Value) : laidMetH Tryz.prog Rows.txcheckIdealRow.laid ((World.doorLaid Tryz.prog 4000 os).forCall (fun _ _ => 0) ⟨#[], args, []⟩).memory :=
  laidMetH_of_parts3 (fuel := 8) (laidMet_of_run' 8 (by kernel_rfl) (by kernel_rfl)) (by kernel_rfl) (by kernel_rfl)

set_option maxRecDepth 100000 in
theorem lifted (os : Os) (started : os.Started) (H : Type) (enc : TypeId × Value → H) :
    ReturnsInHanded {} Tryz.checked os 3 .any (fun w args => (Rows.txcheckIdealSpec.pre enc Tryz.prog Tryz.f3 [] false w args ∧ laidMetH Tryz.prog Rows.txcheckIdealRow.laid w) ∧ sizedMet enc Tryz.prog Tryz.f3 (OpenSpec.ofChange Rows.txcheckIdealSpec) false w args)
      (Rows.txcheckIdealSpec.post enc Tryz.prog Tryz.f3 false true false false) := by
  refine returnsInHanded_of_change_and (C := Tryz.checked) (X := fun w _ => laidMetH Tryz.prog Rows.txcheckIdealRow.laid w) (fun _ _ _ hh h => h.of_heap hh) own started (by kernel_rfl) Tryz.func3
    (ChangeSpec.witness_shaped (enc := enc) (C := Tryz.checked) (os := os) (X := fun w _ => laidMetH Tryz.prog Rows.txcheckIdealRow.laid w) false (World.doorLaid Tryz.prog 4000 os)
      #[.agg #[.int .i64 0, .int .i64 0, .int .i64 0, .int .i64 0, .int .i64 0, .int .u64 0, .int .i64 0, .int .i64 0, .int .u64 0], .agg #[.int .u64 0, .slice none 0 0, .slice none 0 0, .int .u64 0, .int .u64 0, .int .u64 0, .int .u64 0, .int .u64 0, .int .i64 0, .slice none 0 0], .agg #[.int .u64 0, .int .u8 0, .int .u16 0, .int .u8 0, .int .i64 0]]
      8 rfl (World.shaped_of_RefB (by kernel_rfl) (by kernel_rfl)) (by kernel_rfl) (by kernel_rfl) (by kernel_rfl) (door_met os _)) ?_
  intro W base args ds gs before hval0 hW _ _ hL _
  have hval : ∀ (j : Nat) t v, Tryz.f3.params[j]? = some t → args[j]? = some v → Value.okWide Tryz.prog W .any base t v := hval0
  have hW' := hW
  obtain ⟨p, q, hA0, hV, rfl, hfz, hnd⟩ := hW
  have hA : DataW.TrodAll enc Tryz.prog W 0 (fun _ => true) true Tryz.f3.params.toList args.toList ds p := hA0
  rw [Tryz.params3] at hA hval
  obtain ⟨v0, vs0, d0, ds0, p0, q0, hargs, rfl, rfl, h0, r0⟩ := trodAll_cons hA
  obtain ⟨v1, vs1, d1, ds1, p1, q1, rfl, rfl, rfl, h1, r1⟩ := trodAll_cons r0
  obtain ⟨v2, vs2, d2, ds2, p2, q2, rfl, rfl, rfl, h2, r2⟩ := trodAll_cons r1
  obtain ⟨rfl, rfl, rfl⟩ := trodAll_nil r2
  obtain rfl : args = #[v0, v1, v2] := by cases args; simp_all
  obtain ⟨rfl, rfl⟩ := trodVars_none hV
  have k0 := h0
  have lt0 : ∀ x ∈ p0, x.block < W.heap.size := by obtain ⟨m, hm⟩ := k0; exact DataW.trod_lt m _ _ _ hm
  have k1 := h1
  have lt1 : ∀ x ∈ p1, x.block < W.heap.size := by obtain ⟨m, hm⟩ := k1; exact DataW.trod_lt m _ _ _ hm
  have k2 := h2
  have lt2 : ∀ x ∈ p2, x.block < W.heap.size := by obtain ⟨m, hm⟩ := k2; exact DataW.trod_lt m _ _ _ hm
  obtain ⟨r, rfl, hrd⟩ := open_rulesI (hval 0 26 v0 rfl rfl) h0
  obtain ⟨t, ma, oa, pa, mc, oc, pc, rfl, ht⟩ := open_tx (hval 1 31 v1 rfl rfl) h1
  obtain ⟨x, rfl, o0, o1, o2, o3⟩ := open_issue (hval 2 34 v2 rfl rfl) h2
  clear hA0 hval0
  refine (ideal_law W r.mode r.depth r.bl r.bu r.q r.rew r.win r.fin r.work hrd t ma oa pa mc oc pc ht x.seed x.oth x.at' x.chg x.more o0 o1 o2 o3).mono fun e W' ⟨he, bel⟩ => ?_
  subst he
  exact ⟨_, rfl, _, _, _, [], _, [], hW', trodAll_mk1 (shut_bool Tryz.underlying4 _), (trodAll_cons_mk (Below.trod laidOut (by kernel_rfl) (of_decide_eq_true (by kernel_rfl)) k0 bel lt0) (trodAll_cons_mk (Below.trod laidOut (by kernel_rfl) (of_decide_eq_true (by kernel_rfl)) k1 bel lt1) (trodAll_cons_mk (Below.trod laidOut (by kernel_rfl) (of_decide_eq_true (by kernel_rfl)) k2 bel lt2) trodAll_mk0))), rfl, bel.frame _, fun h => by cases h⟩

set_option maxRecDepth 100000 in
theorem closed : joinedFacts Tryz.pinned.checked.prog 3 Tryz.f3 Rows.txcheckIdealSpec Rows.txcheckIdealRow = true := by
  unfold joinedFacts
  simp only [Bool.and_eq_true]
  exact ⟨⟨⟨⟨⟨⟨⟨⟨⟨⟨⟨⟨⟨⟨⟨⟨⟨⟨⟨⟨⟨⟨⟨⟨⟨⟨⟨⟨⟨⟨⟨by kernel_rfl, by kernel_rfl⟩, by kernel_rfl⟩, by kernel_rfl⟩, by kernel_rfl⟩, by kernel_rfl⟩, by kernel_rfl⟩, by kernel_rfl⟩, by kernel_rfl⟩, fInPlace⟩, beq_iff_eq.2 fUnfollowed.symm⟩, beq_iff_eq.2 fRecurses.symm⟩, fNamed⟩, by kernel_rfl⟩, by kernel_rfl⟩, by kernel_rfl⟩, by kernel_rfl⟩, by kernel_rfl⟩, by kernel_rfl⟩, by kernel_rfl⟩, by kernel_rfl⟩, by kernel_rfl⟩, by kernel_rfl⟩, by kernel_rfl⟩, by kernel_rfl⟩, by kernel_rfl⟩, by kernel_rfl⟩, by kernel_rfl⟩, by kernel_rfl⟩, by kernel_rfl⟩, by kernel_rfl⟩, by kernel_rfl⟩

theorem over : Rows.TxcheckIdealSaid :=
  OpenClaim.holds_of_wide 3 Tryz.f3 rfl rfl rfl rfl rfl rfl rfl ⟨rfl, rfl, rfl, rfl, rfl⟩ rfl rfl rfl rfl rfl (by kernel_rfl) Tryz.func3 closed
    (of_decide_eq_true (by kernel_rfl)) (by unfold Func.isWrapper; first | (rw [if_pos (by decide +kernel)]; kernel_rfl) | (rw [if_neg (by decide +kernel)]; exact ⟨rfl, rfl⟩))
    (fun os started H enc _ => lifted os started H enc)

set_option maxRecDepth 100000 in
theorem proved : Rows.TxcheckIdealCardSaid :=
  Claim7.holds_tied_plain_at .later [] _ true Rows.txcheckIdealCard.stood.harness true
    over (fun _ h => by cases h) (by kernel_rfl) (fun _ h => by cases h) txcheckIdeal_row_tie rfl ⟨rfl, rfl⟩ (by kernel_rfl) rfl
    (fun f fn hf hfn => by
      obtain rfl : f = 3 := Option.some.inj ((show Tryz.prog.funcNamed "moidore/moidorelaw42.TxcheckIdeal" = some 3 by kernel_rfl).symm.trans hf) |>.symm
      obtain rfl : fn = Tryz.f3 := (Option.some.inj (Tryz.func3.symm.trans hfn)).symm
      exact ⟨by kernel_rfl, fun j t ht => by
        rw [Tryz.params3] at ht
        have hm : t ∈ [26, 31, 34] := by simpa using Array.mem_of_getElem? ht
        have hall : ([26, 31, 34].all fun u => !Tryz.prog.wantsStandIn u) = true := by kernel_rfl
        exact (show Tryz.prog.wantsStandIn t = false by simpa using List.all_eq_true.1 hall t hm)⟩)
    (goesBy_none _ rfl).symm
#print axioms proved
end Go.Proofs.YtgjemeeeignlnaaGreatDoor.txcheckIdeal
