/- The group: products and powers in the extension of the field; what is public and what is shared. -/
import Derived.Test.YtdjcdejapkkcmaaGreatDoorM02
import Derived.Test.YtdjcdejapkkcmaaGreatDoorM04
import Derived.Test.YtdjcdejapkkcmaaGreatDoorM03
import Derived.BigQuiet
import Derived.Test.YtdjcdejapkkcmaaGreatDoorM09
import Derived.Test.YtdjcdejapkkcmaaGreatDoorM13
namespace Go.Proofs.YtdjcdejapkkcmaaGreatDoor
open Go.ChangeShapes Go.WideShapes Go.ChangeAt Go.RowKit Go.Sort

abbrev PtM := Int × Int
def extMul (a b : PtM) : PtM := (addP (mulP a.1 b.1) (mulP 7 (mulP a.2 b.2)), addP (mulP a.1 b.2) (mulP a.2 b.1))
def extLoop : Nat → PtM → PtM → Nat → PtM
  | 0, r, _, _ => r
  | k + 1, r, a, e => if e = 0 then r else extLoop k (if e % 2 = 1 then extMul r a else r) (extMul a a) (e / 2)
def extPow (a : PtM) (e : Nat) : PtM := extLoop 64 (1, 0) a e
abbrev ptV (a : PtM) : Value := .agg #[.int .u64 a.1, .int .u64 a.2]
theorem extMul_pos (a b : PtM) : 0 ≤ (extMul a b).1 ∧ 0 ≤ (extMul a b).2 := ⟨(addP_word _ _).1, (addP_word _ _).1⟩
theorem generator_big (w : World) : Calls Tryz.prog 252 #[.agg #[.int .u64 18446744069414584321]] w fun e w' => e = .returned (.int .u64 7) ∧ Below w.heap.size w w' := by
  go_enter Tryz.func252, Tryz.ntmps252
  go_wp2_with fail
  refine (numbers_big _).mono ?_
  rintro e w1 ⟨rfl, hb⟩
  go_wp2
  go_ret
  exact ⟨rfl, bnext (bnew (Below.refl _ _) _) hb⟩
theorem four_bx (w : World) (a b c d : Obj) : ((((w.alloc a).alloc b).alloc c).alloc d).heap[w.heap.size + 1 + 1 + 1]? = some d ∧ ((((w.alloc a).alloc b).alloc c).alloc d).heap[w.heap.size + 1 + 1]? = some c ∧
    ((((w.alloc a).alloc b).alloc c).alloc d).heap[w.heap.size + 1]? = some b ∧ ((((w.alloc a).alloc b).alloc c).alloc d).heap[w.heap.size]? = some a := by
  have e1 : (w.alloc a).heap.size = w.heap.size + 1 := World.size_alloc ..
  have e2 : ((w.alloc a).alloc b).heap.size = w.heap.size + 2 := by rw [World.size_alloc, e1]
  have e3 : (((w.alloc a).alloc b).alloc c).heap.size = w.heap.size + 3 := by rw [World.size_alloc, e2]
  exact ⟨e3 ▸ box_new _ d, box_old (e2 ▸ box_new _ c), box_old (box_old (e1 ▸ box_new _ b)), box_old (box_old (box_old (box_new _ a)))⟩
theorem read2 {w : World} {b : Nat} {u0 u1 x y : Value} (k0 : w.cell? ⟨b, 0, none⟩ = some u0) (k1 : w.cell? ⟨b, 1, none⟩ = some u1) :
    ((w.setCell ⟨b, 0, none⟩ x).setCell ⟨b, 1, none⟩ y).cell? ⟨b, 0, none⟩ = some x ∧ ((w.setCell ⟨b, 0, none⟩ x).setCell ⟨b, 1, none⟩ y).cell? ⟨b, 1, none⟩ = some y := by
  have d01 : (⟨b, 0, none⟩ : Addr) ≠ ⟨b, 1, none⟩ := by simp
  exact ⟨(World.cell?_setCell_other _ _ _ _ d01.symm).trans (World.cell?_setCell_same _ _ _ k0), World.cell?_setCell_same _ _ _ ((World.cell?_setCell_other _ _ _ _ d01).trans k1)⟩
theorem box2_set {w : World} {b : Nat} {u0 u1 : Value} {t : TypeId} (h : w.heap[b]? = some (.cells #[u0, u1] t (0, 0))) (x y : Value) : ((w.setCell ⟨b, 0, none⟩ x).setCell ⟨b, 1, none⟩ y).heap[b]? = some (.cells #[x, y] t (0, 0)) := box_set (box_set h)
set_option maxRecDepth 100000 in
set_option maxHeartbeats 400000 in
theorem extMul_any (x0 x1 y0 y1 : Int) (a0 : 0 ≤ x0) (a1 : 0 ≤ x1) (b0 : 0 ≤ y0) (b1 : 0 ≤ y1) (w : World) :
    Calls Tryz.prog 231 #[.agg #[.int .u64 18446744069414584321], .agg #[.int .u64 x0, .int .u64 x1], .agg #[.int .u64 y0, .int .u64 y1]] w fun e w' => e = .returned (ptV (extMul (x0, x1) (y0, y1))) ∧ Below w.heap.size w w' := by
  obtain ⟨q3, q2, q1, q0⟩ := four_bx w (.cells #[.int .u64 18446744069414584321] 110) (.cells #[.int .u64 x0, .int .u64 x1] 78) (.cells #[.int .u64 y0, .int .u64 y1] 78) (.cells #[.int .u64 0, .int .u64 0] 78)
  have hb := bnew (bnew (bnew (bnew (Below.refl w.heap.size w) (.cells #[.int .u64 18446744069414584321] 110)) (.cells #[.int .u64 x0, .int .u64 x1] 78)) (.cells #[.int .u64 y0, .int .u64 y1] 78)) (.cells #[.int .u64 0, .int .u64 0] 78)
  have HB := Lib.hid hb
  have Q3 := Lib.hid q3
  have HR : Hid (extMul (x0, x1) (y0, y1) = (addP (mulP x0 y0) (mulP 7 (mulP x1 y1)), addP (mulP x0 y1) (mulP x1 y0))) := rfl
  have p1 := (mulP_in x1 y1).1
  have p2 := (mulP_in x0 y0).1
  have p3 := (mulP_in x0 y1).1
  have p4 := (mulP_in x1 y0).1
  have p5 := (mulP_in 7 (mulP x1 y1)).1
  go_enter Tryz.func231, Tryz.ntmps231
  go_wp2_with fail
  generalize (((w.alloc (.cells #[.int .u64 18446744069414584321] 110)).alloc (.cells #[.int .u64 x0, .int .u64 x1] 78)).alloc (.cells #[.int .u64 y0, .int .u64 y1] 78)).alloc (.cells #[.int .u64 0, .int .u64 0] 78) = W at *
  have Q0 := Lib.hid q0
  have Q1 := Lib.hid q1
  have Q2 := Lib.hid q2
  have z0 := box_regrown q0
  have z1 := box_regrown q1
  have z2 := box_regrown q2
  clear hb q0 q1 q2 q3
  refine wp_region_quiet_below (by kernel_rfl) (by kernel_rfl) ?_
  repeat (quiet_step (first
    | with_reducible exact Calls.regrown_of (generator_big _)
    | with_reducible exact Calls.regrown_of (Mul_big x1 y1 a1 b1 _)
    | with_reducible exact Calls.regrown_of (Mul_big 7 (mulP x1 y1) (by omega) p1 _)))
  refine wpQuiet_nil ?_
  intro w1 hw'
  obtain ⟨⟨dq, osq⟩, hw''⟩ := hw'
  have hb1 := below_regrown W dq osq
  rw [← hw''] at hb1
  clear hw'' z0 z1 z2
  have z0 := box_regrown (box_after hb1 Q0.out)
  have z1 := box_regrown (box_after hb1 Q1.out)
  have z2 := box_regrown (box_after hb1 Q2.out)
  generalize mulP 7 (mulP x1 y1) = sq at *
  go_wp2_with fail
  refine wp_region_quiet_tail 24 (by kernel_rfl) (by kernel_rfl) ?_
  simp only [List.take_succ_cons, List.take_zero, List.drop_succ_cons, List.drop_zero]
  repeat (quiet_step (first
    | with_reducible exact Calls.regrown_of (Mul_big x0 y0 a0 b0 _)
    | with_reducible exact Calls.regrown_of (Mul_big x0 y1 a0 b1 _)
    | with_reducible exact Calls.regrown_of (Mul_big x1 y0 a1 b0 _)
    | with_reducible exact Calls.regrown_of (Add_big (mulP x0 y0) sq p2 p5 _)
    | with_reducible exact Calls.regrown_of (Add_big (mulP x0 y1) (mulP x1 y0) p3 p4 _)))
  refine wpQuiet_nil ?_
  intro w2 hw'
  obtain ⟨⟨dq, osq⟩, hw''⟩ := hw'
  have hb2 := below_regrown w1 dq osq
  rw [← hw''] at hb2
  clear hw'' z0 z1 z2
  have hbA := bnext hb1 hb2
  have q3 := box_after hbA Q3.out
  have c0 := (box_cells q3).1 0
  have c1 := (box_cells q3).1 1
  simp at c0 c1
  obtain ⟨r0, r1⟩ := read2 (x := .int .u64 (addP (mulP x0 y0) sq)) (y := .int .u64 (addP (mulP x0 y1) (mulP x1 y0))) c0 c1
  obtain ⟨f0, f1⟩ := box_cells q3
  have HBA := Lib.hid (HB.out.trans (hbA.mono HB.out.size))
  clear hb1 hb2 hbA q3
  go_wp2_with fail
  refine bodyPost_ret (v := .agg #[.int .u64 (addP (mulP x0 y0) sq), .int .u64 (addP (mulP x0 y1) (mulP x1 y0))]) (by simp [results, Tryz.results231, go_sem, r0, r1]) rfl ⟨by rw [HR.out], ?_⟩
  exact (HBA.out.setCell (by dsimp only; omega) _).setCell (by dsimp only; omega) _
theorem extMul_eq {x0 x1 y0 y1 t0 t1 : Int} (h : extMul (x0, x1) (y0, y1) = (t0, t1)) (a0 : 0 ≤ x0) (a1 : 0 ≤ x1) (b0 : 0 ≤ y0) (b1 : 0 ≤ y1) (w : World) :
    Calls Tryz.prog 231 #[.agg #[.int .u64 18446744069414584321], .agg #[.int .u64 x0, .int .u64 x1], .agg #[.int .u64 y0, .int .u64 y1]] w fun e w' => e = .returned (.agg #[.int .u64 t0, .int .u64 t1]) ∧ Below w.heap.size w w' := by
  have := extMul_any x0 x1 y0 y1 a0 a1 b0 b1 w
  rw [h] at this
  exact this
theorem extMul_ex (x0 x1 y0 y1 : Int) : ∃ t0 t1, extMul (x0, x1) (y0, y1) = (t0, t1) ∧ 0 ≤ t0 ∧ 0 ≤ t1 := ⟨_, _, rfl, (extMul_pos _ _).1, (extMul_pos _ _).2⟩
theorem extLoop_zero : ∀ (k : Nat) (r a : PtM), extLoop k r a 0 = r
  | 0, _, _ => rfl
  | k + 1, r, a => by unfold extLoop; rw [if_pos rfl]
theorem extLoop_step (k : Nat) (r a : PtM) (e : Nat) (he : e ≠ 0) : extLoop (k + 1) r a e = extLoop k (if e % 2 = 1 then extMul r a else r) (extMul a a) (e / 2) := by
  rw [extLoop, if_neg he]
/-- The frame of Pow: the field, the factor, the result's cell, the product so far. -/
structure PowAt (w : World) (Q : Nat) (r0 r1 b0 b1 : Int) (wr : World) : Prop where
  bel : Below w.heap.size w wr
  far : w.heap.size + 1 + 1 < Q
  fld : wr.heap[w.heap.size]? = some (.cells #[.int .u64 18446744069414584321] 110 (0, 0))
  fac : wr.heap[w.heap.size + 1]? = some (.cells #[.int .u64 b0, .int .u64 b1] 78 (0, 0))
  res : wr.heap[w.heap.size + 1 + 1]? = some (.cells #[.int .u64 0, .int .u64 0] 78 (0, 0))
  prd : wr.heap[Q]? = some (.cells #[.int .u64 r0, .int .u64 r1] 78 (0, 0))
theorem PowAt.next {w w1 w2 : World} {Q : Nat} {r0 r1 b0 b1 : Int} (h : PowAt w Q r0 r1 b0 b1 w1) (hb : Below w1.heap.size w1 w2) : PowAt w Q r0 r1 b0 b1 w2 :=
  ⟨h.bel.trans (hb.mono h.bel.size), h.far, box_after hb h.fld, box_after hb h.fac, box_after hb h.res, box_after hb h.prd⟩
theorem PowAt.setR {w w1 : World} {Q : Nat} {r0 r1 b0 b1 : Int} (h : PowAt w Q r0 r1 b0 b1 w1) (t0 t1 : Int) : PowAt w Q t0 t1 b0 b1 ((w1.setCell ⟨Q, 0, none⟩ (.int .u64 t0)).setCell ⟨Q, 1, none⟩ (.int .u64 t1)) := by
  have hf := h.far
  exact ⟨(h.bel.setCell (by dsimp only; omega) _).setCell (by dsimp only; omega) _, hf, box_set_far (box_set_far h.fld (by dsimp only; omega)) (by dsimp only; omega), box_set_far (box_set_far h.fac (by dsimp only; omega)) (by dsimp only; omega), box_set_far (box_set_far h.res (by dsimp only; omega)) (by dsimp only; omega), box2_set h.prd _ _⟩
theorem PowAt.setA {w w1 : World} {Q : Nat} {r0 r1 b0 b1 : Int} (h : PowAt w Q r0 r1 b0 b1 w1) (t0 t1 : Int) : PowAt w Q r0 r1 t0 t1 ((w1.setCell ⟨w.heap.size + 1, 0, none⟩ (.int .u64 t0)).setCell ⟨w.heap.size + 1, 1, none⟩ (.int .u64 t1)) := by
  have hf := h.far
  exact ⟨(h.bel.setCell (by dsimp only; omega) _).setCell (by dsimp only; omega) _, hf, box_set_far (box_set_far h.fld (by dsimp only; omega)) (by dsimp only; omega), box2_set h.fac _ _, box_set_far (box_set_far h.res (by dsimp only; omega)) (by dsimp only; omega), box_set_far (box_set_far h.prd (by dsimp only; omega)) (by dsimp only; omega)⟩
theorem redP_one : redP 1 = 1 := by decide
theorem ext_even {k : Nat} {r0 r1 b0 b1 : Int} {e : Nat} (h0 : e ≠ 0) (hz : e % 2 = 0) : extLoop (k + 1) (r0, r1) (b0, b1) e = extLoop k (r0, r1) (extMul (b0, b1) (b0, b1)) (e / 2) := by
  rw [extLoop_step _ _ _ _ h0, if_neg (by omega)]
theorem ext_odd {k : Nat} {r0 r1 b0 b1 : Int} {e : Nat} (hz : e % 2 = 1) : extLoop (k + 1) (r0, r1) (b0, b1) e = extLoop k (extMul (r0, r1) (b0, b1)) (extMul (b0, b1) (b0, b1)) (e / 2) := by
  rw [extLoop_step _ _ _ _ (by omega), if_pos hz]
set_option maxRecDepth 100000 in
set_option maxHeartbeats 1000000 in
theorem extPow_any (x0 x1 : Int) (a0 : 0 ≤ x0) (a1 : 0 ≤ x1) (e : Nat) (he : e < 18446744073709551616) (w : World) :
    Calls Tryz.prog 153 #[.agg #[.int .u64 18446744069414584321], .agg #[.int .u64 x0, .int .u64 x1], .int .u64 e] w fun o w' => o = .returned (ptV (extPow (x0, x1) e)) ∧ Below w.heap.size w w' := by
  have hb := bnew (bnew (bnew (Below.refl w.heap.size w) (.cells #[.int .u64 18446744069414584321] 110)) (.cells #[.int .u64 x0, .int .u64 x1] 78)) (.cells #[.int .u64 0, .int .u64 0] 78)
  have e1 : (w.alloc (.cells #[.int .u64 18446744069414584321] 110)).heap.size = w.heap.size + 1 := World.size_alloc ..
  have e2 : ((w.alloc (.cells #[.int .u64 18446744069414584321] 110)).alloc (.cells #[.int .u64 x0, .int .u64 x1] 78)).heap.size = w.heap.size + 1 + 1 := by rw [World.size_alloc, e1]
  have e3 : (((w.alloc (.cells #[.int .u64 18446744069414584321] 110)).alloc (.cells #[.int .u64 x0, .int .u64 x1] 78)).alloc (.cells #[.int .u64 0, .int .u64 0] 78)).heap.size = w.heap.size + 1 + 1 + 1 := by rw [World.size_alloc, e2]
  have q0 := box_old (o' := .cells #[.int .u64 0, .int .u64 0] 78) (box_old (o' := .cells #[.int .u64 x0, .int .u64 x1] 78) (box_new w (.cells #[.int .u64 18446744069414584321] 110)))
  have q1 := box_old (o' := .cells #[.int .u64 0, .int .u64 0] 78) (box_new (w.alloc (.cells #[.int .u64 18446744069414584321] 110)) (.cells #[.int .u64 x0, .int .u64 x1] 78))
  have q2 := box_new ((w.alloc (.cells #[.int .u64 18446744069414584321] 110)).alloc (.cells #[.int .u64 x0, .int .u64 x1] 78)) (.cells #[.int .u64 0, .int .u64 0] 78)
  rw [e1] at q1
  rw [e2] at q2
  have HE := Lib.hid he
  have HP : Hid (extLoop 64 (1, 0) (x0, x1) e = extPow (x0, x1) e) := rfl
  have Q0 := Lib.hid q0
  have Q1 := Lib.hid q1
  have Q2 := Lib.hid q2
  have HB := Lib.hid hb
  have HS := Lib.hid e3
  clear he hb q0 q1 q2 e1 e2 e3
  go_enter Tryz.func153, Tryz.ntmps153
  go_wp2_with fail
  refine (Reduce_big 1 (by omega) _).mono ?_
  rintro o w1 ⟨rfl, hb1⟩
  rw [redP_one]
  have hsz := hb1.size
  rw [HS.out] at hsz
  have HSZ := Lib.hid hsz
  have hp0 : PowAt w w1.heap.size 1 0 x0 x1 (w1.alloc (.cells #[.int .u64 1, .int .u64 0] 78)) :=
    ⟨((HB.out.trans (hb1.mono HB.out.size))).alloc (Nat.le_trans HB.out.size hb1.size) _, by omega, box_old (box_after hb1 Q0.out), box_old (box_after hb1 Q1.out), box_old (box_after hb1 Q2.out), box_new w1 _⟩
  have HP0 := Lib.hid hp0
  clear hp0 hsz hb1 Q0 Q1 Q2 HB HS
  go_wp2_with fail
  generalize w1.alloc (.cells #[.int .u64 1, .int .u64 0] 78) = w2 at *
  generalize w1.heap.size = Q at *
  clear HSZ
  go_loopw [2] (fun ve wr => ∃ (k n : Nat) (m r0 r1 b0 b1 : Int), ve = .int .u64 m ∧ Hid (m = n) ∧ n < 2 ^ k ∧ n < 18446744073709551616 ∧ 0 ≤ r0 ∧ 0 ≤ r1 ∧ 0 ≤ b0 ∧ 0 ≤ b1 ∧ Hid (extLoop k (r0, r1) (b0, b1) n = extPow (x0, x1) e) ∧ Hid (PowAt w Q r0 r1 b0 b1 wr)) (fun ve _ => (intOf ve).toNat)
  case atStart => exact ⟨64, e, e, 1, 0, x0, x1, rfl, rfl, HE.out, HE.out, by omega, by omega, a0, a1, HP, HP0⟩
  case round =>
    clear HP0 HP HE a0 a1
    obtain ⟨k, n, m, r0, r1, b0, b1, rfl, hmn, hk, hn, p0, p1, p2, p3, hinv, hat⟩ := hrel
    by_cases hk0 : n = 0
    · subst hk0
      obtain rfl : m = 0 := hmn.out
      have HF : Hid ((r0, r1) = extPow (x0, x1) e) := by show _ = _; rw [← hinv.out, extLoop_zero]
      clear hinv hk hn
      obtain ⟨y0, y1⟩ := box_cells hat.out.prd
      have c0 := (box_cells hat.out.res).1 0
      have c1 := (box_cells hat.out.res).1 1
      simp at c0 c1
      obtain ⟨s0, s1⟩ := read2 (x := .int .u64 r0) (y := .int .u64 r1) c0 c1
      obtain ⟨z0, z1⟩ := box_cells hat.out.res
      clear c0 c1
      go_wp2_with fail
      refine bodyPost_ret (v := .agg #[.int .u64 r0, .int .u64 r1]) (by simp [results, Tryz.results153, go_sem, s0, s1]) rfl ⟨by show Ending.returned (ptV (r0, r1)) = _; rw [HF.out], ?_⟩
      exact (hat.out.bel.setCell (by dsimp only; omega) _).setCell (by dsimp only; omega) _
    · have k1 : 0 < m := by rw [hmn.out]; omega
      have k2 : m < 18446744073709551616 := by rw [hmn.out]; omega
      have k3 : 0 ≤ m / 2 := by omega
      have k4 : m / 2 < 18446744073709551616 := by omega
      obtain ⟨j, rfl⟩ : ∃ j, k = j + 1 := ⟨k - 1, by cases k with | zero => simp at hk; omega | succ k => rfl⟩
      have hj : n / 2 < 2 ^ j := by rw [Nat.pow_succ] at hk; omega
      have HJ := Lib.hid hj
      clear hj hk
      have hand := and_one n hn
      rw [← hmn.out] at hand
      have hnh : Hid (m / 2 = ((n / 2 : Nat) : Int)) := by show _ = _; rw [hmn.out]; omega
      have hnm : Hid ((m / 2).toNat < m.toNat) := by show _ < _; omega
      obtain ⟨fx0, fx1⟩ := box_cells hat.out.fld
      obtain ⟨ax0, ax1⟩ := box_cells hat.out.fac
      obtain ⟨s0, s1, hs, hq0, hq1⟩ := extMul_ex b0 b1 b0 b1
      have HSQ := Lib.hid hs
      by_cases hodd : n % 2 = 1
      · rw [hodd] at hand
        have hI : Hid (extLoop j (extMul (r0, r1) (b0, b1)) (extMul (b0, b1) (b0, b1)) (n / 2) = extPow (x0, x1) e) := by show _ = _; rw [← ext_odd hodd, hinv.out]
        obtain ⟨t0, t1, ht, hm0, hm1⟩ := extMul_ex r0 r1 b0 b1
        have HTM := Lib.hid ht
        have hI2 : Hid (extLoop j (t0, t1) (s0, s1) (n / 2) = extPow (x0, x1) e) := by show _ = _; rw [← ht, ← hs, hI.out]
        clear hI hs ht
        obtain ⟨px0, px1⟩ := box_cells hat.out.prd
        clear hinv
        go_wp2_with fail
        refine (extMul_eq HTM.out p0 p1 p2 p3 _).mono ?_
        rintro o w3 ⟨rfl, hb3⟩
        have h3 := hat.out.next hb3
        clear fx0 fx1 ax0 ax1 px0 px1
        obtain ⟨px0, px1⟩ := box_cells h3.prd
        have H4 := Lib.hid (h3.setR t0 t1)
        obtain ⟨fx0, fx1⟩ := box_cells H4.out.fld
        obtain ⟨ax0, ax1⟩ := box_cells H4.out.fac
        clear h3
        go_wp2_with fail
        refine (extMul_eq HSQ.out p2 p3 p2 p3 _).mono ?_
        rintro o w5 ⟨rfl, hb5⟩
        have h5 := H4.out.next hb5
        clear fx0 fx1 ax0 ax1 px0 px1
        obtain ⟨ax0, ax1⟩ := box_cells h5.fac
        have H6 := Lib.hid (h5.setA s0 s1)
        clear h5
        go_wp2_with fail
        go_roundw
        case rel => exact ⟨j, n / 2, m / 2, t0, t1, s0, s1, rfl, hnh, HJ.out, by omega, hm0, hm1, hq0, hq1, hI2, H6⟩
        case measure => exact hnm.out
      · have hz : n % 2 = 0 := by omega
        rw [hz] at hand
        have hI : Hid (extLoop j (r0, r1) (extMul (b0, b1) (b0, b1)) (n / 2) = extPow (x0, x1) e) := by show _ = _; rw [← ext_even hk0 hz, hinv.out]
        have hI2 : Hid (extLoop j (r0, r1) (s0, s1) (n / 2) = extPow (x0, x1) e) := by show _ = _; rw [← hs, hI.out]
        clear hinv hI hs
        go_wp2_with fail
        refine (extMul_eq HSQ.out p2 p3 p2 p3 _).mono ?_
        rintro o w3 ⟨rfl, hb3⟩
        have h3 := hat.out.next hb3
        clear fx0 fx1 ax0 ax1
        obtain ⟨ax0, ax1⟩ := box_cells h3.fac
        have H4 := Lib.hid (h3.setA s0 s1)
        clear h3
        go_wp2_with fail
        go_roundw
        case rel => exact ⟨j, n / 2, m / 2, r0, r1, s0, s1, rfl, hnh, HJ.out, by omega, p0, p1, hq0, hq1, hI2, H4⟩
        case measure => exact hnm.out
/-- What power gives: an array that was stored into a new cell. -/
theorem power_any (x0 x1 : Int) (a0 : 0 ≤ x0) (a1 : 0 ≤ x1) (e : Nat) (he : e < 18446744073709551616) (w : World) :
    Calls Tryz.prog 99 #[.agg #[.int .u64 x0, .int .u64 x1], .int .u64 e] w fun o w' => o = .returned (ptV (extPow (x0, x1) e)) ∧ Below w.heap.size w w' := by
  have q0 := box_old (o' := .cells #[.int .u64 0, .int .u64 0] 78) (box_new w (.cells #[.int .u64 x0, .int .u64 x1] 78))
  have q1 := box_new (w.alloc (.cells #[.int .u64 x0, .int .u64 x1] 78)) (.cells #[.int .u64 0, .int .u64 0] 78)
  rw [World.size_alloc] at q1
  have hb := bnew (bnew (Below.refl w.heap.size w) (.cells #[.int .u64 x0, .int .u64 x1] 78)) (.cells #[.int .u64 0, .int .u64 0] 78)
  have HB := Lib.hid hb
  have Q1 := Lib.hid q1
  obtain ⟨c0, c1⟩ := box_cells q0
  clear q0 q1 hb
  go_enter Tryz.func99, Tryz.ntmps99
  go_wp2_with fail
  refine (extPow_any x0 x1 a0 a1 e he _).mono ?_
  obtain ⟨t0, t1, ht⟩ : ∃ t0 t1, extPow (x0, x1) e = (t0, t1) := ⟨_, _, rfl⟩
  have HT := Lib.hid ht
  rw [ht]
  clear ht
  rintro o w3 ⟨rfl, hb3⟩
  have q3 := box_after hb3 Q1.out
  have k0 := (box_cells q3).1 0
  have k1 := (box_cells q3).1 1
  simp at k0 k1
  obtain ⟨s0, s1⟩ := read2 (x := .int .u64 t0) (y := .int .u64 t1) k0 k1
  clear c0 c1
  obtain ⟨z0, z1⟩ := box_cells q3
  have hbw := HB.out.trans (hb3.mono HB.out.size)
  clear q3 k0 k1 hb3
  go_wp2_with fail
  refine bodyPost_ret (v := .agg #[.int .u64 t0, .int .u64 t1]) (by simp [results, Tryz.results99, go_sem, s0, s1]) rfl ⟨by rw [HT.out], ?_⟩
  exact (hbw.setCell (by dsimp only; omega) _).setCell (by dsimp only; omega) _
theorem base_any (w : World) : Calls Tryz.prog 100 #[] w fun o w' => o = .returned (.agg #[.int .u64 2, .int .u64 1]) ∧ Below w.heap.size w w' := by
  have q0 := box_new w (.cells #[.int .u64 2, .int .u64 1] 78)
  obtain ⟨z0, z1⟩ := box_cells q0
  clear q0
  go_enter Tryz.func100, Tryz.ntmps100
  go_wp2_with fail
  refine bodyPost_ret (v := .agg #[.int .u64 2, .int .u64 1]) (by simp [results, Tryz.results100, go_sem, z0]) rfl ⟨rfl, ?_⟩
  exact bnew (Below.refl _ _) _
/-- The public point of an exponent; the point that is shared. -/
def pubP (e : Int) : PtM := extPow (2, 1) e.toNat
def shaP (x0 x1 e : Int) : PtM := if groupB x0 x1 = true then extPow (x0, x1) e.toNat else (0, 0)
theorem public_any (e : Int) (he : okU e) (w : World) :
    Calls Tryz.prog 54 #[.int .u64 e] w fun o w' => o = .returned (ptV (pubP e)) ∧ Below w.heap.size w w' := by
  have q1 := box_new w (.cells #[.int .u64 0, .int .u64 0] 78)
  have hb := bnew (Below.refl w.heap.size w) (.cells #[.int .u64 0, .int .u64 0] 78)
  have HB := Lib.hid hb
  have Q1 := Lib.hid q1
  obtain ⟨n, hn⟩ := Int.eq_ofNat_of_zero_le (okU_in he).1
  have hlt := (okU_in he).2
  subst hn
  have hlt : n < 18446744073709551616 := by omega
  obtain ⟨t0, t1, ht⟩ : ∃ t0 t1, extPow (2, 1) n = (t0, t1) := ⟨_, _, rfl⟩
  have HT := Lib.hid ht
  have HL := Lib.hid hlt
  clear ht q1 hb he
  go_enter Tryz.func54, Tryz.ntmps54
  go_wp2_with fail
  refine (base_any _).mono ?_
  rintro o w2 ⟨rfl, hb2⟩
  have HB2 := Lib.hid hb2
  clear hb2
  go_wp2_with fail
  refine (power_any 2 1 (by omega) (by omega) n HL.out _).mono ?_
  rw [HT.out]
  rintro o w3 ⟨rfl, hb3⟩
  have q3 := box_after hb3 (box_after HB2.out Q1.out)
  have k0 := (box_cells q3).1 0
  have k1 := (box_cells q3).1 1
  simp at k0 k1
  obtain ⟨s0, s1⟩ := read2 (x := .int .u64 t0) (y := .int .u64 t1) k0 k1
  obtain ⟨z0, z1⟩ := box_cells q3
  have hbw := (HB.out.trans (HB2.out.mono HB.out.size)).trans (hb3.mono (Nat.le_trans HB.out.size HB2.out.size))
  clear q3 k0 k1 hb3
  go_wp2_with fail
  refine bodyPost_ret (v := .agg #[.int .u64 t0, .int .u64 t1]) (by simp [results, Tryz.results54, go_sem, s0, s1]) rfl ⟨by show _ = Ending.returned (ptV (extPow (2, 1) n)); rw [HT.out], ?_⟩
  exact (hbw.setCell (by dsimp only; omega) _).setCell (by dsimp only; omega) _
theorem shared_any (x0 x1 e : Int) (a0 : 0 ≤ x0) (a1 : 0 ≤ x1) (he : okU e) (w : World) :
    Calls Tryz.prog 109 #[.agg #[.int .u64 x0, .int .u64 x1], .int .u64 e] w fun o w' => o = .returned (ptV (shaP x0 x1 e)) ∧ Below w.heap.size w w' := by
  have q0 := box_old (o' := .cells #[.int .u64 0, .int .u64 0] 78) (box_new w (.cells #[.int .u64 x0, .int .u64 x1] 78))
  have q1 := box_new (w.alloc (.cells #[.int .u64 x0, .int .u64 x1] 78)) (.cells #[.int .u64 0, .int .u64 0] 78)
  rw [World.size_alloc] at q1
  have hb := bnew (bnew (Below.refl w.heap.size w) (.cells #[.int .u64 x0, .int .u64 x1] 78)) (.cells #[.int .u64 0, .int .u64 0] 78)
  have HB := Lib.hid hb
  have Q0 := Lib.hid q0
  have Q1 := Lib.hid q1
  obtain ⟨n, hn⟩ := Int.eq_ofNat_of_zero_le (okU_in he).1
  have hlt := (okU_in he).2
  subst hn
  have hlt : n < 18446744073709551616 := by omega
  have HL := Lib.hid hlt
  obtain ⟨c0, c1⟩ := box_cells q0
  clear q0 q1 hb he hlt
  go_enter Tryz.func109, Tryz.ntmps109
  go_wp2_with fail
  refine (groupValid_any _ x0 x1).mono ?_
  rintro o w2 ⟨rfl, hb2⟩
  have q0 := box_after hb2 Q0.out
  have q2 := box_after hb2 Q1.out
  have Q2 := Lib.hid q2
  have HB2 := Lib.hid (HB.out.trans (hb2.mono HB.out.size))
  have HS2 := Lib.hid (Nat.le_trans HB.out.size hb2.size)
  clear c0 c1 hb2
  obtain ⟨c0, c1⟩ := box_cells q0
  cases hv : groupB x0 x1 with
  | false =>
    have HR : Hid (shaP x0 x1 n = (0, 0)) := by show _ = _; unfold shaP; rw [hv]; rfl
    have k0 := (box_cells q2).1 0
    have k1 := (box_cells q2).1 1
    simp at k0 k1
    obtain ⟨s0, s1⟩ := read2 (x := .int .u64 0) (y := .int .u64 0) k0 k1
    obtain ⟨z0, z1⟩ := box_cells q2
    clear q2 k0 k1
    go_wp2_with fail
    refine bodyPost_ret (v := .agg #[.int .u64 0, .int .u64 0]) (by simp [results, Tryz.results109, go_sem, s0, s1]) rfl ⟨by rw [HR.out], ?_⟩
    exact (HB2.out.setCell (by dsimp only; omega) _).setCell (by dsimp only; omega) _
  | true =>
    have HR : Hid (shaP x0 x1 n = extPow (x0, x1) n) := by show _ = _; unfold shaP; rw [hv]; rfl
    obtain ⟨t0, t1, ht⟩ : ∃ t0 t1, extPow (x0, x1) n = (t0, t1) := ⟨_, _, rfl⟩
    have HT := Lib.hid ht
    clear ht q2
    go_wp2_with fail
    refine (power_any x0 x1 a0 a1 n HL.out _).mono ?_
    rw [HT.out]
    rintro o w3 ⟨rfl, hb3⟩
    have q3 := box_after hb3 Q2.out
    have k0 := (box_cells q3).1 0
    have k1 := (box_cells q3).1 1
    simp at k0 k1
    obtain ⟨s0, s1⟩ := read2 (x := .int .u64 t0) (y := .int .u64 t1) k0 k1
    clear c0 c1
    obtain ⟨z0, z1⟩ := box_cells q3
    have hbw := HB2.out.trans (hb3.mono HS2.out)
    clear q3 k0 k1 hb3
    go_wp2_with fail
    refine bodyPost_ret (v := .agg #[.int .u64 t0, .int .u64 t1]) (by simp [results, Tryz.results109, go_sem, s0, s1]) rfl ⟨by rw [HR.out, HT.out], ?_⟩
    exact (hbw.setCell (by dsimp only; omega) _).setCell (by dsimp only; omega) _
end Go.Proofs.YtdjcdejapkkcmaaGreatDoor
/- The cipher: what is sealed of two elements. -/
namespace Go.Proofs.YtdjcdejapkkcmaaGreatDoor
open Go.ChangeShapes Go.WideShapes Go.ChangeAt Go.RowKit Go.Sort

set_option maxRecDepth 100000 in
set_option maxHeartbeats 1000000 in
theorem cElements_any (S : Nat → Prop) (w : World) (k n : Int) (a : Option Addr) (cap : Nat) (l : List Int) (h : numsR.rel S w [.slice a l.length cap] l) (hk : k < 18446744069414584321) (hn : n < 18446744069414584321) (he : ∀ x ∈ l, x < 18446744069414584321) (hl : l.length ≤ 1000000) :
    Calls Tryz.prog 239 #[.int .u64 k, .int .u64 n, .slice a l.length cap] w fun e w' => e = .returned (.bool true) ∧ Below w.heap.size w w' := by
  have H := Lib.hid h
  have HE := Lib.hid he
  clear h he
  go_enter Tryz.func239, Tryz.ntmps239
  go_wp2_with fail
  go_loopw [17] (fun vi wr => ∃ j : Nat, j ≤ l.length ∧ vi = .int .i64 j ∧ Below w.heap.size w wr) (fun vi _ => l.length - (intOf vi).toNat)
  case atStart => exact ⟨0, Nat.zero_le _, rfl, Below.refl _ _⟩
  case round =>
    obtain ⟨j, hj, rfl, hbr⟩ := hrel
    by_cases hlt : j < l.length
    · obtain ⟨bb, off, rfl, hbl, n0, n1, hc⟩ := nums_at (numsR.keepB H.out hbr) j hlt
      have hx := HE.out _ (List.getElem_mem hlt)
      generalize l[j] = x at *
      go_wp2_with fail
      go_roundw
      case rel => exact ⟨j + 1, by omega, by go_num, hbr⟩
      case measure => simp [intOf]; omega
    · obtain rfl : j = l.length := by omega
      go_wp2_with fail
      go_ret
      exact ⟨rfl, hbr⟩
def startC (k n : Int) (c : Int) : T3 := permS (k, n, addP 786432 c)
set_option maxRecDepth 100000 in
set_option maxHeartbeats 1000000 in
theorem start_any (w : World) (k n : Int) (hk : okU k) (hn : okU n) (c : Nat) (hc : c ≤ 1000) :
    Calls Tryz.prog 240 #[.int .u64 k, .int .u64 n, .int .i64 c] w fun e w' => e = .returned (.agg #[.int .u64 (startC k n c).1, .int .u64 (startC k n c).2.1, .int .u64 (startC k n c).2.2]) ∧ Below w.heap.size w w' := by
  have q0 := box_old (o' := .cells #[.int .u64 18446744069414584321] 110) (box_new w (.cells #[.int .u64 0, .int .u64 0, .int .u64 0] 111))
  have q1 := box_new (w.alloc (.cells #[.int .u64 0, .int .u64 0, .int .u64 0] 111)) (.cells #[.int .u64 18446744069414584321] 110)
  rw [World.size_alloc] at q1
  have hb := bnew (bnew (Below.refl w.heap.size w) (.cells #[.int .u64 0, .int .u64 0, .int .u64 0] 111)) (.cells #[.int .u64 18446744069414584321] 110)
  have HB := Lib.hid hb
  have Q0 := Lib.hid q0
  obtain ⟨x0, x1⟩ := box_cells q1
  have hw : IntKind.u64.wrap (c : Int) = c := by rw [IntKind.wrap_u64]; omega
  have c0 : (0 : Int) ≤ c := by omega
  have c1 : (c : Int) < 18446744073709551616 := by omega
  have HW : Hid (Words3 (k, n, addP 786432 c)) := ⟨okU_in hk, okU_in hn, addP_word _ _⟩
  obtain ⟨cc, hcc⟩ : ∃ cc : Int, (c : Int) = cc := ⟨_, rfl⟩
  rw [hcc] at hw c0 c1 HW ⊢
  have HS : Hid (startC k n cc = permS (k, n, addP 786432 cc)) := rfl
  clear q0 q1 hb hcc hc
  go_enter Tryz.func240, Tryz.ntmps240
  go_wp2_with fail
  refine (Add_big 786432 cc (by omega) c0 _).mono ?_
  rintro e w2 ⟨rfl, hb2⟩
  have HB2 := Lib.hid hb2
  clear hb2 x0 x1
  go_wp2_with fail
  refine (permute_big (k, n, addP 786432 cc) HW.out _).mono ?_
  rintro e w3 ⟨rfl, hb3⟩
  have q3 := box_after hb3 (box_after HB2.out Q0.out)
  have hbw := HB.out.trans ((HB2.out.trans (hb3.mono HB2.out.size)).mono HB.out.size)
  obtain ⟨y0, y1⟩ := box_cells q3
  have HBW := Lib.hid hbw
  have HS2 : Hid (w.heap.size ≤ w3.heap.size) := hbw.size
  generalize permS (k, n, addP 786432 cc) = t at *
  obtain ⟨r0, r1, r2⟩ := read3 (x := .int .u64 t.1) (y := .int .u64 t.2.1) (z := .int .u64 t.2.2) (y0 0) (y0 1) (y0 2)
  clear q3 hbw hb3
  go_wp2_with fail
  refine bodyPost_ret (v := .agg #[.int .u64 t.1, .int .u64 t.2.1, .int .u64 t.2.2]) (by simp [results, Tryz.results240, go_sem, r0, r1, r2]) rfl ⟨by rw [HS.out], ?_⟩
  exact ((HBW.out.setCell (by dsimp only; omega) _).setCell (by dsimp only; omega) _).setCell (by dsimp only; omega) _
/-- The frame of Seal: the field, the cipher's state. -/
structure CiAt (w : World) (P Q : Nat) (s : T3) (wr : World) : Prop where
  bel : Below w.heap.size w wr
  bp : w.heap.size ≤ P
  bq : P < Q
  fld : wr.heap[P]? = some (.cells #[.int .u64 18446744069414584321] 110 (0, 0))
  st : wr.heap[Q]? = some (.cells #[.int .u64 s.1, .int .u64 s.2.1, .int .u64 s.2.2] 111 (0, 0))
theorem CiAt.next {w w1 w2 : World} {P Q : Nat} {s : T3} (h : CiAt w P Q s w1) (hb : Below w1.heap.size w1 w2) : CiAt w P Q s w2 := ⟨h.bel.trans (hb.mono h.bel.size), h.bp, h.bq, box_after hb h.fld, box_after hb h.st⟩
def sealC (k n x y : Int) : List Int :=
  [addP (startC k n 2).1 x, addP (startC k n 2).2.1 y, (permS (addP (startC k n 2).1 x, addP (startC k n 2).2.1 y, (startC k n 2).2.2)).1]
theorem three_in {a b c : Int} (ha : 0 ≤ a ∧ a < 18446744069414584321) (hb : 0 ≤ b ∧ b < 18446744069414584321) (hc : 0 ≤ c ∧ c < 18446744069414584321) : ∀ z ∈ [a, b, c], 0 ≤ z ∧ z < 18446744069414584321 := by
  intro z hz
  simp only [List.mem_cons, List.not_mem_nil, or_false] at hz
  rcases hz with rfl | rfl | rfl <;> assumption
theorem sealC_in (k n x y : Int) : ∀ z ∈ sealC k n x y, 0 ≤ z ∧ z < 18446744069414584321 := three_in (addP_in _ _) (addP_in _ _) (permS_in _)
theorem box_below {B : Nat} {w w' : World} {b : Nat} {cs : Array Value} {t : TypeId} {f : Nat × Nat} (hb : Below B w w') (h : w.heap[b]? = some (.cells cs t f)) (hB : b < B) : w'.heap[b]? = some (.cells cs t f) := (hb.block b hB).trans h
theorem CiAt.past {w w1 w2 : World} {P Q : Nat} {s : T3} (h : CiAt w P Q s w1) (hb : Below (Q + 1) w1 w2) : CiAt w P Q s w2 :=
  ⟨h.bel.trans (hb.mono (by have := h.bp; have := h.bq; omega)), h.bp, h.bq, box_below hb h.fld (by have := h.bq; omega), box_below hb h.st (by omega)⟩
theorem CiAt.set {w w1 : World} {P Q : Nat} {s t : T3} (h : CiAt w P Q s w1) (i : Nat) (v : Value) (ht : (#[.int .u64 s.1, .int .u64 s.2.1, .int .u64 s.2.2] : Array Value).setIfInBounds i v = #[.int .u64 t.1, .int .u64 t.2.1, .int .u64 t.2.2]) : CiAt w P Q t (w1.setCell ⟨Q, i, none⟩ v) := by
  have := h.bp
  have := h.bq
  refine ⟨h.bel.setCell (by dsimp only; omega) _, h.bp, h.bq, box_set_far h.fld (by dsimp only; omega), ?_⟩
  have h2 := box_set (i := i) (v := v) h.st
  rw [ht] at h2
  exact h2
theorem CiAt.store {w w1 : World} {P Q : Nat} {s : T3} (h : CiAt w P Q s w1) (t : T3) : CiAt w P Q t (((w1.setCell ⟨Q, 0, none⟩ (.int .u64 t.1)).setCell ⟨Q, 1, none⟩ (.int .u64 t.2.1)).setCell ⟨Q, 2, none⟩ (.int .u64 t.2.2)) :=
  ((h.set (t := (t.1, s.2.1, s.2.2)) 0 _ rfl).set (t := (t.1, t.2.1, s.2.2)) 1 _ rfl).set (t := t) 2 _ rfl
def stC (s : T3) (x y : Int) : Nat → T3
  | 0 => s
  | 1 => (addP s.1 x, s.2.1, s.2.2)
  | _ => permS (addP s.1 x, addP s.2.1 y, s.2.2)
def lsC (s : T3) (x y : Int) : Nat → List Int
  | 0 => []
  | 1 => [addP s.1 x]
  | _ => [addP s.1 x, addP s.2.1 y]
set_option maxRecDepth 100000 in
set_option maxHeartbeats 2000000 in
theorem cSeal_any (S : Nat → Prop) (w : World) (k n x y : Int) (hk : 0 ≤ k ∧ k < 18446744069414584321) (hn : 0 ≤ n ∧ n < 18446744069414584321) (hx : 0 ≤ x ∧ x < 18446744069414584321) (hy : 0 ≤ y ∧ y < 18446744069414584321) (a : Option Addr) (cap : Nat) (h : numsR.rel S w [.slice a 2 cap] [x, y]) :
    Calls Tryz.prog 165 #[.int .u64 k, .int .u64 n, .slice a 2 cap] w fun e w' => (∃ a' c', e = .returned (.slice a' 3 c') ∧ numsR.rel (fun i => w.heap.size ≤ i) w' [.slice a' 3 c'] (sealC k n x y)) ∧ Below w.heap.size w w' := by
  have H := Lib.hid h
  have HX := Lib.hid hx
  have HY := Lib.hid hy
  have HK := Lib.hid (okU_of hk.1 (by omega))
  have HN := Lib.hid (okU_of hn.1 (by omega))
  go_enter Tryz.func165, Tryz.ntmps165
  go_wp2_with fail
  refine (cElements_any S w k n a cap [x, y] h hk.2 hn.2 (by intro z hz; simp at hz; rcases hz with rfl | rfl <;> omega) (by simp)).mono ?_
  rintro e w1 ⟨rfl, hb1⟩
  have HB1 := Lib.hid hb1
  clear hk hn hx hy h hb1
  go_wp2_with fail
  refine (start_any _ k n HK.out HN.out 2 (by omega)).mono ?_
  rintro e w2 ⟨rfl, hb2⟩
  have HF := Lib.hid (box_after hb2 (box_new w1 (.cells #[.int .u64 18446744069414584321] 110)))
  have HB2 := Lib.hid (bnext (bnew HB1.out _) hb2)
  have hsz := hb2.size
  rw [World.size_alloc] at hsz
  have HSZ := Lib.hid (show w1.heap.size < w2.heap.size by omega)
  have HR : Hid (sealC k n x y = [addP (startC k n 2).1 x, addP (startC k n 2).2.1 y, (permS (addP (startC k n 2).1 x, addP (startC k n 2).2.1 y, (startC k n 2).2.2)).1]) := rfl
  have HW0 : Hid (Words3 (startC k n 2)) := permS_words _
  have e2 : startC k n ((2 : Nat) : Int) = startC k n 2 := rfl
  rw [e2]
  generalize startC k n 2 = s at *
  have hci : CiAt w w1.heap.size w2.heap.size s (w2.alloc (.cells #[.int .u64 s.1, .int .u64 s.2.1, .int .u64 s.2.2] 111)) :=
    ⟨bnew HB2.out _, HB1.out.size, HSZ.out, box_old HF.out, box_new w2 _⟩
  have HCI := Lib.hid hci
  clear hci hsz hb2 e2
  obtain ⟨P, hP⟩ : ∃ P, w1.heap.size = P := ⟨_, rfl⟩
  obtain ⟨Q, hQ⟩ : ∃ Q, w2.heap.size = Q := ⟨_, rfl⟩
  rw [hP, hQ] at HCI
  have hbs := bnew HB2.out (.cells #[.int .u64 s.1, .int .u64 s.2.1, .int .u64 s.2.2] 111)
  have HBS := Lib.hid hbs
  go_wp2_with (at_make; refine wpList_make_rel rfl _ _ rfl u64R (w2.alloc (.cells #[.int .u64 s.1, .int .u64 s.2.1, .int .u64 s.2.2] 111)).heap.size Tryz.etyNums rfl rfl (n := 3) ?_ ?_ ?_ ?_ ?_)
  · rfl
  · omega
  · unfold maxLen; omega
  · exact Nat.le_refl _
  intro w4 ho4 hb4
  have HQ3 : Hid (w.heap.size ≤ Q) := by have h1 := HCI.out.bp; have h2 := HCI.out.bq; show _ ≤ _; omega
  have hci4 : CiAt w P Q s w4 := by
    have h := HCI.out
    exact ⟨h.bel.trans (hb4.mono (by have := HQ3.out; omega)), h.bp, h.bq, box_below hb4 h.fld (by have := h.bq; omega), box_below hb4 h.st (by omega)⟩
  have HCI4 := Lib.hid hci4
  have HO4 := Lib.hid (Own.mono ho4 (F' := fun i => Q + 1 ≤ i) fun i _ h => by have h' : i = Q + 1 := h; omega)
  clear ho4 hb4 hci4 HCI HBS hbs hP hQ HF HB2 HSZ
  go_wp2_with fail
  go_loopw [9, 29] (fun vs vi wr => ∃ (j : Nat), j ≤ 2 ∧ vi = .int .i64 j ∧ Hid (CiAt w P Q (stC s x y j) wr) ∧ Hid (Own u64R (Q + 1) 24 (fun i => Q + 1 ≤ i) wr vs (lsC s x y j))) (fun _ vi _ => 2 - (intOf vi).toNat)
  case atStart => exact ⟨0, by omega, rfl, HCI4, HO4⟩
  case round =>
    clear HCI4 HO4
    obtain ⟨j, hj, rfl, hci, hown⟩ := hrel
    have hbr := hci.out.bel
    rcases (by omega : j = 0 ∨ j = 1 ∨ j = 2) with rfl | rfl | rfl
    · have e0 : stC s x y 0 = s := rfl
      rw [e0] at hci
      obtain ⟨bb, off, rfl, hbl, n0, n1, hc⟩ := nums_at (numsR.keepB H.out hbr) 0 (by simp)
      have hc' : wr.cell? ⟨bb, off, none⟩ = some (.int .u64 x) := hc
      clear hc n0 n1 e0
      have HCX := Lib.hid hc'
      have hx0 := HX.out.1
      have hs0 := HW0.out.1.1
      have HL0 : Hid (lsC s x y 0 = []) := rfl
      have HL1 : Hid (lsC s x y 1 = [] ++ [addP s.1 x]) := rfl
      rw [HL0.out] at hown
      obtain ⟨ga, gc, rfl, -, -⟩ := sliceR.form hown.out.slice
      have y0 := box_regrown hci.out.fld
      have z0 := box_regrown hci.out.st
      have HAD := Lib.hid (addP_in s.1 x)
      go_wp2_with fail
      refine wp_region_quiet_tail 9 (by kernel_rfl) (by kernel_rfl) ?_
      simp only [List.take_succ_cons, List.take_zero, List.drop_succ_cons, List.drop_zero]
      repeat (quiet_step (with_reducible exact Calls.regrown_of (Add_big s.1 x hs0 hx0 _)))
      refine wpQuiet_nil ?_
      intro w5 hw'
      obtain ⟨⟨dq, osq⟩, hw''⟩ := hw'
      have hb5 := below_regrown wr dq osq
      rw [← hw''] at hb5
      clear hw'' y0 z0 hc'
      have h5 := hci.out.next hb5
      obtain ⟨z0, z1⟩ := box_cells h5.st
      have H5 := Lib.hid h5
      have HO5 := Lib.hid (hown.out.keepB hb5)
      clear hb5 h5
      have HC5 := Lib.hid (H5.out.set (t := (addP s.1 x, s.2.1, s.2.2)) 0 (.int .u64 (addP s.1 x)) rfl)
      have HO5b := Lib.hid (Own.mono (HO5.out.keep ((Kept.refl _ _).setCell (p := ⟨Q, 0, none⟩) (fun _ h => by have h' : Q + 1 ≤ Q := h; omega) (.int .u64 (addP s.1 x)))) (F' := fun i => False ∨ Q + 1 ≤ i) fun _ _ h => .inr h)
      have HYR : Hid (u64R.rel (fun _ => False) (w5.setCell ⟨Q, 0, none⟩ (.int .u64 (addP s.1 x))) [.int .u64 (addP s.1 x)] (addP s.1 x)) := ⟨rfl, okU_of HAD.out.1 (by have := HAD.out.2; omega)⟩
      have HQB : Hid (Q + 1 ≤ (w5.setCell ⟨Q, 0, none⟩ (.int .u64 (addP s.1 x))).heap.size) := by have := box_lt HC5.out.st; show _ ≤ _; omega
      go_upto_region 10 with (fail)
      generalize w5.setCell ⟨Q, 0, none⟩ (.int .u64 (addP s.1 x)) = w5b at *
      clear z0 z1
      obtain ⟨z0, z1⟩ := box_cells HC5.out.st
      go_wp2_with (at_builtin; refine wpList_push (r := u64R) (wr := w5b) (es := [.int .u64 (addP s.1 x)]) (v := .slice ga 0 gc) (w0 := w5b) (B := Q + 1) rfl _ _ rfl Tryz.etyNums rfl rfl (Below.refl _ _) HQB.out HO5b.out HYR.out (fun x hx => hx.elim) (by unfold maxLen; simp) (by simp) ?_)
      intro v6 w6 ho6 hb6
      have HC6 := Lib.hid (HC5.out.past hb6)
      have HO6 := Lib.hid ho6
      clear ho6 hb6
      go_wp2_with fail
      go_roundw
      case rel => exact ⟨1, by omega, by go_num, HC6, HO6⟩
      case measure => simp [intOf]
    · have e0 : stC s x y 1 = (addP s.1 x, s.2.1, s.2.2) := rfl
      rw [e0] at hci
      have HP1 := Lib.hid (addP_in s.1 x)
      have HS1 := Lib.hid HW0.out.2.1
      have HS2 := Lib.hid HW0.out.2.2
      have HLL : Hid (lsC s x y 1 = [addP s.1 x] ∧ lsC s x y 2 = [addP s.1 x] ++ [addP s.2.1 y] ∧ stC s x y 2 = permS (addP s.1 x, addP s.2.1 y, s.2.2)) := ⟨rfl, rfl, rfl⟩
      obtain ⟨q0, hq0⟩ : ∃ z, addP s.1 x = z := ⟨_, rfl⟩
      obtain ⟨q1, hq1⟩ : ∃ z, s.2.1 = z := ⟨_, rfl⟩
      obtain ⟨q2, hq2⟩ : ∃ z, s.2.2 = z := ⟨_, rfl⟩
      rw [hq0, hq1, hq2] at hci
      rw [hq0] at HP1
      rw [hq1] at HS1
      rw [hq2] at HS2
      rw [hq0, hq1, hq2] at HLL
      clear hq0 hq1 hq2 e0
      obtain ⟨bb, off, rfl, hbl, n0, n1, hc⟩ := nums_at (numsR.keepB H.out hbr) 1 (by simp)
      have hc' : wr.cell? ⟨bb, off + 1, none⟩ = some (.int .u64 y) := hc
      clear hc n0 n1
      have HCX := Lib.hid hc'
      have hx0 := HY.out.1
      have hs0 := HS1.out.1
      rw [HLL.out.1] at hown
      obtain ⟨ga, gc, rfl, -, -⟩ := sliceR.form hown.out.slice
      have y0 := box_regrown hci.out.fld
      have z0 := box_regrown hci.out.st
      have HAD := Lib.hid (addP_in q1 y)
      go_wp2_with fail
      refine wp_region_quiet_tail 9 (by kernel_rfl) (by kernel_rfl) ?_
      simp only [List.take_succ_cons, List.take_zero, List.drop_succ_cons, List.drop_zero]
      repeat (quiet_step (with_reducible exact Calls.regrown_of (Add_big q1 y hs0 hx0 _)))
      refine wpQuiet_nil ?_
      intro w5 hw'
      obtain ⟨⟨dq, osq⟩, hw''⟩ := hw'
      have hb5 := below_regrown wr dq osq
      rw [← hw''] at hb5
      clear hw'' y0 z0 hc'
      have h5 := hci.out.next hb5
      obtain ⟨z0, z1⟩ := box_cells h5.st
      have H5 := Lib.hid h5
      have HO5 := Lib.hid (hown.out.keepB hb5)
      clear hb5 h5
      have HC5 := Lib.hid (H5.out.set (t := (q0, addP q1 y, q2)) 1 (.int .u64 (addP q1 y)) rfl)
      have HO5b := Lib.hid (Own.mono (HO5.out.keep ((Kept.refl _ _).setCell (p := ⟨Q, 1, none⟩) (fun _ h => by have h' : Q + 1 ≤ Q := h; omega) (.int .u64 (addP q1 y)))) (F' := fun i => False ∨ Q + 1 ≤ i) fun _ _ h => .inr h)
      have HYR : Hid (u64R.rel (fun _ => False) (w5.setCell ⟨Q, 1, none⟩ (.int .u64 (addP q1 y))) [.int .u64 (addP q1 y)] (addP q1 y)) := ⟨rfl, okU_of HAD.out.1 (by have := HAD.out.2; omega)⟩
      have HQB : Hid (Q + 1 ≤ (w5.setCell ⟨Q, 1, none⟩ (.int .u64 (addP q1 y))).heap.size) := by have := box_lt HC5.out.st; show _ ≤ _; omega
      go_upto_region 10 with (fail)
      generalize w5.setCell ⟨Q, 1, none⟩ (.int .u64 (addP q1 y)) = w5b at *
      clear z0 z1
      obtain ⟨z0, z1⟩ := box_cells HC5.out.st
      go_wp2_with (at_builtin; refine wpList_push (r := u64R) (wr := w5b) (es := [.int .u64 (addP q1 y)]) (v := .slice ga 1 gc) (w0 := w5b) (B := Q + 1) rfl _ _ rfl Tryz.etyNums rfl rfl (Below.refl _ _) HQB.out HO5b.out HYR.out (fun x hx => hx.elim) (by unfold maxLen; simp) (by simp) ?_)
      intro v6 w6 ho6 hb6
      have HC6 := Lib.hid (HC5.out.past hb6)
      have HO6 := Lib.hid ho6
      have HWP : Hid (Words3 (q0, addP q1 y, q2)) := ⟨⟨HP1.out.1, by have := HP1.out.2; show q0 < _; omega⟩, ⟨HAD.out.1, by have := HAD.out.2; show addP q1 y < _; omega⟩, HS2.out⟩
      clear ho6 hb6 z0 z1
      obtain ⟨z0, z1⟩ := box_cells HC6.out.st
      go_wp2_with fail
      refine (permute_big (q0, addP q1 y, q2) HWP.out _).mono ?_
      rintro e w7 ⟨rfl, hb7⟩
      have h7 := HC6.out.next hb7
      clear z0 z1
      obtain ⟨z0, z1⟩ := box_cells h7.st
      have HC8 := Lib.hid (h7.store (permS (q0, addP q1 y, q2)))
      have HO8 : Hid (Own u64R (Q + 1) 24 (fun i => Q + 1 ≤ i) (((w7.setCell ⟨Q, 0, none⟩ (.int .u64 (permS (q0, addP q1 y, q2)).1)).setCell ⟨Q, 1, none⟩ (.int .u64 (permS (q0, addP q1 y, q2)).2.1)).setCell ⟨Q, 2, none⟩ (.int .u64 (permS (q0, addP q1 y, q2)).2.2)) v6 ([q0] ++ [addP q1 y])) :=
        (HO6.out.keepB hb7).keep ((((Kept.refl _ _).setCell (fun _ h => by have h' : Q + 1 ≤ Q := h; omega) _).setCell (fun _ h => by have h' : Q + 1 ≤ Q := h; omega) _).setCell (fun _ h => by have h' : Q + 1 ≤ Q := h; omega) _)
      generalize permS (q0, addP q1 y, q2) = t8 at *
      clear h7 hb7
      go_wp2_with fail
      go_roundw
      case rel => exact ⟨2, by omega, by go_num, by rw [HLL.out.2.2]; exact HC8, by rw [HLL.out.2.1]; exact HO8⟩
      case measure => simp [intOf]
    · have e0 : stC s x y 2 = permS (addP s.1 x, addP s.2.1 y, s.2.2) := rfl
      have e1 : lsC s x y 2 = [addP s.1 x, addP s.2.1 y] := rfl
      have HIN := Lib.hid (permS_in (addP s.1 x, addP s.2.1 y, s.2.2))
      rw [e0] at hci
      rw [e1] at hown
      have HRR : Hid (sealC k n x y = [addP s.1 x, addP s.2.1 y] ++ [(permS (addP s.1 x, addP s.2.1 y, s.2.2)).1]) := HR.out
      generalize permS (addP s.1 x, addP s.2.1 y, s.2.2) = t at *
      obtain ⟨q0, hq0⟩ : ∃ z, addP s.1 x = z := ⟨_, rfl⟩
      obtain ⟨q1, hq1⟩ : ∃ z, addP s.2.1 y = z := ⟨_, rfl⟩
      rw [hq0, hq1] at hown HRR
      obtain ⟨ga, gc, rfl, -, -⟩ := sliceR.form hown.out.slice
      obtain ⟨z0, z1⟩ := box_cells hci.out.st
      have HO5b := Lib.hid (Own.mono hown.out (F' := fun i => False ∨ Q + 1 ≤ i) fun _ _ h => .inr h)
      have HYR : Hid (u64R.rel (fun _ => False) wr [.int .u64 t.1] t.1) := ⟨rfl, okU_of HIN.out.1 (by have := HIN.out.2; omega)⟩
      have HQB : Hid (Q + 1 ≤ wr.heap.size) := by have := box_lt hci.out.st; show _ ≤ _; omega
      clear e0 e1 hq0 hq1
      go_wp2_with (at_builtin; refine wpList_push (r := u64R) (wr := wr) (es := [.int .u64 t.1]) (v := .slice ga 2 gc) (w0 := wr) (B := Q + 1) rfl _ _ rfl Tryz.etyNums rfl rfl (Below.refl _ _) HQB.out HO5b.out HYR.out (fun x hx => hx.elim) (by unfold maxLen; simp) (by simp) ?_)
      intro v6 w6 ho6 hb6
      have HC6 := Lib.hid (hci.out.past hb6)
      have HO6 := Lib.hid ho6
      clear ho6 hb6 z0 z1
      go_wp2_with fail
      go_ret
      have h6 := HO6.out.slice
      obtain ⟨a', c', rfl, -, -⟩ := sliceR.form h6
      refine ⟨⟨a', c', rfl, ?_⟩, HC6.out.bel⟩
      rw [HRR.out]
      exact numsR.mono h6 fun i _ h => by
        have h1 := HQ3.out
        have h' : Q + 1 ≤ i := by first | exact h | exact h.resolve_left id
        omega
end Go.Proofs.YtdjcdejapkkcmaaGreatDoor
