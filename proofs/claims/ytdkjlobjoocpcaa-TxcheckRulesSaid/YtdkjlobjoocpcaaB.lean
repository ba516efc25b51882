/- Proved: TxcheckRules returns true for every value of the rules, and the argument reads afterwards as it read before; no conditions. -/
import Derived.Test.YtdkjlobjoocpcaaA
import Derived.Deep.RegionHeld3
namespace Go.Proofs.Ytdkjlobjoocpcaa
open Go.ChangeShapes Go.WideShapes Go.ChangeAt Go.RowKit

set_option maxHeartbeats 1000000 in
theorem law_any (m d bl bu q rew win fin work : Int) (w : World) :
    Calls Try.prog 3 #[.agg #[.int .i64 m, .int .i64 d, .int .i64 bl, .int .i64 bu, .int .i64 q, .int .u64 rew, .int .i64 win, .int .i64 fin, .int .u64 work]] w fun e w' => e = .returned (.bool true) ∧ Below w.heap.size w w' := by
  go_enter Try.func3, Try.ntmps3
  go_wp2_with fail
  go_region_held3 (fun w' => Below w.heap.size w w' ∧ w.heap.size < w'.heap.size ∧ (∀ o, w'.cell? ⟨w.heap.size, o, none⟩ = (w.alloc (.cells #[.int .i64 m, .int .i64 d, .int .i64 bl, .int .i64 bu, .int .i64 q, .int .u64 rew, .int .i64 win, .int .i64 fin, .int .u64 work] 26)).cell? ⟨w.heap.size, o, none⟩))
    (first
      | exact ⟨(Below.refl _ _).new _ |>.drew, by simp, fun o => rfl⟩
      | (have hh := ‹Below w.heap.size w _ ∧ _ < _ ∧ _›; exact ⟨hh.1.next hb, Nat.lt_of_lt_of_le hh.2.1 hb.size, fun o => (hb.cell (p := ⟨_, _, _⟩) hh.2.1).trans (hh.2.2 o)⟩))
    (first
      | (go_at_call 4; refine (awake_any _).mono ?_; rintro e w' ⟨rfl, hb⟩)
      | (go_at_call 5; refine (rules_any _ _ _ _ _ _ _ _ _ _).mono ?_; rintro e w' ⟨rfl, hb⟩)
      | (go_at_call 6; refine (refRules_any _ _ _ _ _ _ _ _ _ _).mono ?_; rintro e w' ⟨rfl, hb⟩))
  all_goals go_wp2
  all_goals go_ret
  all_goals (have hh := ‹Below w.heap.size w _ ∧ _ < _ ∧ _›; exact ⟨rfl, hh.1⟩)

theorem Try.cells3 : Try.prog.cellsOf 3 = 1 := by kernel_rfl
theorem Try.cells23 : Try.prog.cellsOf 23 = 3 := by kernel_rfl
theorem Try.cells24 : Try.prog.cellsOf 24 = 1 := by kernel_rfl
theorem Try.cells26 : Try.prog.cellsOf 26 = 9 := by kernel_rfl
theorem own : ownKnob Try.prog.godebug = none := by kernel_rfl
theorem laidOut : laidOutB Try.prog = true := by kernel_rfl

def FieldsRead (Q : TypeId → Nat → Prop) : List Field → Prop
  | [] => True
  | f :: fs => Q f.type f.offset ∧ FieldsRead Q fs
theorem fieldsRead_of (Q : TypeId → Nat → Prop) : ∀ (fs : List Field), (∀ (i : Nat) (f : Field), fs[i]? = some f → Q f.type f.offset) → FieldsRead Q fs
  | [], _ => trivial
  | f :: fs, h => ⟨h 0 f rfl, fieldsRead_of Q fs fun i g hg => h (i + 1) g (by simpa using hg)⟩
theorem trod_fields {H : Type} {enc : TypeId × Value → H} {P : Program} {W : World} {sp : Nat → Bool} {held : Bool} {base fuel : Nat} {t : TypeId} {cs : List Value} {x : DataW H × List MemPlace} {fs : List Field}
    (ht : P.underlying t = some (.struct fs.toArray)) (h : DataW.trod enc P W base sp held fuel t cs = some x) :
    cs.length = P.cellsOf t ∧ ∃ n, FieldsRead (fun u o => ∃ y, DataW.trod enc P W base sp held n u ((cs.drop o).take (P.cellsOf u)) = some y) fs := by
  obtain ⟨xs, n, -, -, hl, hxl, hfs⟩ := DataW.trod_struct ht h
  refine ⟨hl, n, fieldsRead_of _ fs fun i f hf => ?_⟩
  have hi : i < xs.length := by
    rw [hxl]
    have := (List.getElem?_eq_some_iff.1 hf).1
    simpa using this
  exact ⟨xs[i], by rw [hfs i f (by simpa using hf)]; simp [hi]⟩

/-- The one argument, opened: nine numbers. -/
theorem open_rules {H : Type} {enc : TypeId × Value → H} {W : World} {sp : Nat → Bool} {held : Bool} {base : Nat} {r : Reach} {b0 : Nat} {v : Value} {d : DataW H} {ps : List MemPlace}
    (hv : Value.okWide Try.prog W r b0 26 v) (h : DataW.Trod enc Try.prog W base sp held 26 v d ps) :
    ∃ m d bl bu q rew win fin work : Int, v = .agg #[.int .i64 m, .int .i64 d, .int .i64 bl, .int .i64 bu, .int .i64 q, .int .u64 rew, .int .i64 win, .int .i64 fin, .int .u64 work] := by
  unfold Value.okWide at hv
  rw [Try.underlying26] at hv
  obtain ⟨cs, rfl, -, -⟩ := hv
  obtain ⟨fuel, hf⟩ := h
  obtain ⟨hl, n, f0, f1, f2, f3, f4, f5, f6, -⟩ := trod_fields Try.underlying26 hf
  rw [Try.cells26] at hl
  obtain ⟨cs⟩ := cs
  match cs, hl with
  | [c0, c1, c2, c3, c4, c5, c6, c7, c8], _ =>
    simp [Try.cells3, Try.cells23, Try.cells24, Value.cells] at f0 f1 f2 f3 f4 f5 f6
    obtain ⟨_, _, f0⟩ := f0
    obtain ⟨_, _, f1⟩ := f1
    obtain ⟨_, _, f2⟩ := f2
    obtain ⟨_, _, f3⟩ := f3
    obtain ⟨_, _, f4⟩ := f4
    obtain ⟨_, _, f5⟩ := f5
    obtain ⟨_, _, f6⟩ := f6
    obtain ⟨a0, e0, -, -⟩ := DataW.trod_int Try.underlying3 f0
    obtain ⟨a1, e1, -, -⟩ := DataW.trod_int Try.underlying3 f1
    obtain ⟨a3, e3, -, -⟩ := DataW.trod_int Try.underlying24 f3
    obtain ⟨a4, e4, -, -⟩ := DataW.trod_int Try.underlying3 f4
    obtain ⟨a5, e5, -, -⟩ := DataW.trod_int Try.underlying3 f5
    obtain ⟨a6, e6, -, -⟩ := DataW.trod_int Try.underlying24 f6
    obtain ⟨_, k, g0, g1, g2, -⟩ := trod_fields Try.underlying23 f2
    simp [Try.cells3] at g0 g1 g2
    obtain ⟨_, _, g0⟩ := g0
    obtain ⟨_, _, g1⟩ := g1
    obtain ⟨_, _, g2⟩ := g2
    obtain ⟨b0, e20, -, -⟩ := DataW.trod_int Try.underlying3 g0
    obtain ⟨b1, e21, -, -⟩ := DataW.trod_int Try.underlying3 g1
    obtain ⟨b2, e22, -, -⟩ := DataW.trod_int Try.underlying3 g2
    simp only [List.cons.injEq, and_true] at e0 e1 e3 e4 e5 e6 e20 e21 e22
    subst e0 e1 e3 e4 e5 e6 e20 e21 e22
    exact ⟨_, _, _, _, _, _, _, _, _, rfl⟩

set_option maxRecDepth 100000 in
theorem lifted (os : Os) (started : os.Started) (H : Type) (enc : TypeId × Value → H) :
    ReturnsInHanded {} Try.checked os 3 .any (Rows.txcheckRulesSpec.pre6 enc Try.prog Try.f3 Rows.txcheckRulesRow.domain false) (Rows.txcheckRulesSpec.post enc Try.prog Try.f3 false true false false) := by
  refine returnsInHanded_of_change (C := Try.checked) own started (by kernel_rfl) Try.func3
    (ChangeSpec.witness6 (enc := enc) (C := Try.checked) false ⟨#[], #[.agg #[.int .i64 0, .int .i64 0, .int .i64 0, .int .i64 0, .int .i64 0, .int .u64 0, .int .i64 0, .int .i64 0, .int .u64 0]], []⟩ 8 (by kernel_rfl) (by kernel_rfl) (by kernel_rfl) (by kernel_rfl)) ?_
  intro W base args ds gs before hval0 hW hcnd _
  have hval : ∀ (j : Nat) t v, Try.f3.params[j]? = some t → args[j]? = some v → Value.okWide Try.prog W .any base t v := hval0
  have hW' := hW
  obtain ⟨p, q, hA0, hV, rfl, hfz, hnd⟩ := hW
  have hA : DataW.TrodAll enc Try.prog W 0 (fun _ => true) true Try.f3.params.toList args.toList ds p := hA0
  rw [Try.params3] at hA hval
  obtain ⟨v0, vs0, d0, ds0, p0, q0, hargs, rfl, rfl, h0, r0⟩ := trodAll_cons hA
  obtain ⟨rfl, rfl, rfl⟩ := trodAll_nil r0
  obtain rfl : args = #[v0] := by cases args; simp_all
  obtain ⟨rfl, rfl⟩ := trodVars_none hV
  have k0 := h0
  have lt0 : ∀ x ∈ p0, x.block < W.heap.size := by obtain ⟨m, hm⟩ := k0; exact DataW.trod_lt m _ _ _ hm
  obtain ⟨m, d, bl, bu, q, rew, win, fin, work, rfl⟩ := open_rules (hval 0 26 v0 rfl rfl) h0
  clear hA0 hval0
  refine (law_any m d bl bu q rew win fin work W).mono fun e W' ⟨he, bel⟩ => ?_
  subst he
  exact ⟨_, rfl, _, _, _, [], _, [], hW', trodAll_mk1 (shut_bool Try.underlying4 _), (trodAll_cons_mk (Below.trod laidOut (by kernel_rfl) (of_decide_eq_true (by kernel_rfl)) k0 bel lt0) trodAll_mk0), rfl, bel.frame _, fun h => by cases h⟩

theorem over : Rows.txcheckRulesRow.holds Try.pinned (OpenSpec.ofChange Rows.txcheckRulesSpec) :=
  OpenClaim.holds_of_wide 3 Try.f3 rfl rfl rfl rfl rfl rfl rfl ⟨rfl, rfl, rfl, rfl, rfl⟩ rfl rfl rfl rfl rfl (by kernel_rfl) Try.func3 (by kernel_rfl)
    (of_decide_eq_true (by kernel_rfl)) (by unfold Func.isWrapper; first | (rw [if_pos (by decide +kernel)]; kernel_rfl) | (rw [if_neg (by decide +kernel)]; exact ⟨rfl, rfl⟩))
    (fun os started H enc _ => lifted os started H enc)

theorem txcheckRules_holds : Rows.TxcheckRulesSaid := over
#print axioms txcheckRules_holds
end Go.Proofs.Ytdkjlobjoocpcaa
