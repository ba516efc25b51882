/- The walk of TxcheckOracle. -/
import Derived.Test.YthbniihoommedaaGreatDoorOr
namespace Go.Proofs.YthbniihoommedaaGreatDoor
open Go.ChangeShapes Go.WideShapes Go.ChangeAt Go.RowKit

theorem box_new2 (w : World) (o1 o2 : Obj) : ((w.alloc o1).alloc o2).heap[w.heap.size + 1]? = some o2 := by
  rw [← World.size_alloc w o1]; exact box_new _ _
theorem rulesE_01 (m d bl bu q rew win fin work : Int) : rulesE m d bl bu q rew win fin work = 0 ∨ rulesE m d bl bu q rew win fin work = 1 := by
  unfold rulesE; split
  · exact .inl rfl
  · exact .inr rfl

theorem quiet_left {P : Program} {f : FuncId} {args : Array Value} {w : World} {n : Nat} {v : Value}
    (h : Calls P f args (w.drewN n) fun e w' => e = .returned v ∧ w.drewN n = w') : Calls P f args (w.drewN n) fun e w'' => e = .returned v ∧ ∃ m, w'' = w.drewN m :=
  h.mono fun _ _ ⟨he, hm⟩ => ⟨he, n, hm.symm⟩
theorem OrAt.drewN {ideal : Bool} {st : Int} {p : Nat} {w : World} (h : OrAt ideal st p w) (n : Nat) : OrAt ideal st p (w.drewN n) := h.keepB (bdrewN (Below.refl _ _) n)

/-- Check refuses rules that are not valid. -/
theorem check_rules (w : World) (p : Nat) (m d bl bu q rew win fin work : Int) (c0 c1 c2 c3 c4 c5 c6 c7 c8 c9 : Value) (hr : rulesE m d bl bu q rew win fin work = 1) :
    Calls Tryz.prog 9 #[.pointer (some ⟨p, 0, none⟩), .agg #[.int .i64 m, .int .i64 d, .int .i64 bl, .int .i64 bu, .int .i64 q, .int .u64 rew, .int .i64 win, .int .i64 fin, .int .u64 work], .agg #[c0, c1, c2, c3, c4, c5, c6, c7, c8, c9]] w
      fun e w' => e = .returned (.int .i64 1) ∧ Below w.heap.size w w' := by
  have HR := Lib.hid hr
  clear hr
  go_enter Tryz.func9, Tryz.ntmps9
  go_wp2_with fail
  refine (rules_any m d bl bu q rew win fin work _).mono ?_
  rintro e w1 ⟨rfl, hb1⟩
  rw [HR.out]
  go_wp2_with fail
  go_ret
  exact ⟨rfl, bnext (bnew (bnew (Below.refl _ _) _) _) hb1⟩

/-- Check refuses an oracle of another mode. -/
theorem check_mode (w : World) (p : Nat) (ideal : Bool) (st : Int) (ho : OrAt ideal st p w) (m d bl bu q rew win fin work : Int) (c0 c1 c2 c3 c4 c5 c6 c7 c8 c9 : Value) (hr : rulesE m d bl bu q rew win fin work = 0) (hi : ideal ≠ (m == 3)) :
    Calls Tryz.prog 9 #[.pointer (some ⟨p, 0, none⟩), .agg #[.int .i64 m, .int .i64 d, .int .i64 bl, .int .i64 bu, .int .i64 q, .int .u64 rew, .int .i64 win, .int .i64 fin, .int .u64 work], .agg #[c0, c1, c2, c3, c4, c5, c6, c7, c8, c9]] w
      fun e w' => e = .returned (.int .i64 1) ∧ Below w.heap.size w w' := by
  have HR := Lib.hid hr
  clear hr
  obtain ⟨b, hb⟩ : ∃ b : Bool, (m == 3) = b := ⟨_, rfl⟩
  have hi' : ideal = !b := by rw [hb] at hi; cases ideal <;> cases b <;> simp_all
  subst hi'
  clear hi
  have hbA := bnew (Below.refl w.heap.size w) (.cells #[.int .i64 m, .int .i64 d, .int .i64 bl, .int .i64 bu, .int .i64 q, .int .u64 rew, .int .i64 win, .int .i64 fin, .int .u64 work] 26)
  have hbB := bnew hbA (.cells #[c0, c1, c2, c3, c4, c5, c6, c7, c8, c9] 31)
  have HX := Lib.hid (box_old (o' := .cells #[c0, c1, c2, c3, c4, c5, c6, c7, c8, c9] 31) (box_new w (.cells #[.int .i64 m, .int .i64 d, .int .i64 bl, .int .i64 bu, .int .i64 q, .int .u64 rew, .int .i64 win, .int .i64 fin, .int .u64 work] 26)))
  go_enter Tryz.func9, Tryz.ntmps9
  go_wp2_with fail
  refine (rules_any m d bl bu q rew win fin work _).mono ?_
  rintro e w1 ⟨rfl, hb1⟩
  rw [HR.out]
  obtain ⟨x0, x1⟩ := box_cells (box_after hb1 HX.out)
  have HO := Lib.hid (ho.keepB (bnext hbB hb1))
  have hfin := bnext hbB hb1
  clear ho
  cases b with
  | true =>
    go_wp2_with fail
    go_quiet ((go_at_call 15; exact quiet_left (isIdeal_any _ p false st (HO.out.drewN _))))
    go_wp2_with fail
    go_ret
    exact ⟨rfl, by repeat (first | exact hfin | refine bdrewN ?_ _)⟩
  | false =>
    go_wp2_with fail
    go_quiet ((go_at_call 15; exact quiet_left (isIdeal_any _ p true st (HO.out.drewN _))))
    go_wp2_with fail
    go_ret
    exact ⟨rfl, by repeat (first | exact hfin | refine bdrewN ?_ _)⟩

/-- What the law asks of its arguments ahead of the check. -/
def oracleB (e : Int) (ideal : Bool) (m : Int) : Bool := (e == 0) && (ideal == (m == 3))

set_option maxRecDepth 100000 in
set_option maxHeartbeats 2000000 in
theorem oracle_law (w : World) (m d bl bu q rew win fin work : Int) (t : TxM) (ma oa pa : Option Addr) (mc oc pc : Nat) (ideal : Bool) (h : TxIn (fun k => k < w.heap.size) w t ma oa pa mc oc pc) :
    Calls Tryz.prog 3 #[.agg #[.int .i64 m, .int .i64 d, .int .i64 bl, .int .i64 bu, .int .i64 q, .int .u64 rew, .int .i64 win, .int .i64 fin, .int .u64 work],
      .agg #[.int .u64 t.anchor, .slice ma t.marks.length mc, .slice oa t.outs.length oc, .int .u64 t.dep, .int .u64 t.wd, .int .u64 t.fee, .int .u64 t.acc, .int .u64 t.nonce, .int .i64 t.exp, .slice pa t.proof.length pc], .bool ideal] w
      fun e w' => e = .returned (.bool true) ∧ Below w.heap.size w w' := by
  have hbA := bnew (Below.refl w.heap.size w) (.cells #[.int .i64 m, .int .i64 d, .int .i64 bl, .int .i64 bu, .int .i64 q, .int .u64 rew, .int .i64 win, .int .i64 fin, .int .u64 work] 26)
  have hbB := bnew hbA (.cells #[.int .u64 t.anchor, .slice ma t.marks.length mc, .slice oa t.outs.length oc, .int .u64 t.dep, .int .u64 t.wd, .int .u64 t.fee, .int .u64 t.acc, .int .u64 t.nonce, .int .i64 t.exp, .slice pa t.proof.length pc] 31)
  have HX := Lib.hid (box_old (o' := .cells #[.int .u64 t.anchor, .slice ma t.marks.length mc, .slice oa t.outs.length oc, .int .u64 t.dep, .int .u64 t.wd, .int .u64 t.fee, .int .u64 t.acc, .int .u64 t.nonce, .int .i64 t.exp, .slice pa t.proof.length pc] 31) (box_new w (.cells #[.int .i64 m, .int .i64 d, .int .i64 bl, .int .i64 bu, .int .i64 q, .int .u64 rew, .int .i64 win, .int .i64 fin, .int .u64 work] 26)))
  have HY := Lib.hid (box_new2 w (.cells #[.int .i64 m, .int .i64 d, .int .i64 bl, .int .i64 bu, .int .i64 q, .int .u64 rew, .int .i64 win, .int .i64 fin, .int .u64 work] 26) (.cells #[.int .u64 t.anchor, .slice ma t.marks.length mc, .slice oa t.outs.length oc, .int .u64 t.dep, .int .u64 t.wd, .int .u64 t.fee, .int .u64 t.acc, .int .u64 t.nonce, .int .i64 t.exp, .slice pa t.proof.length pc] 31))
  have HE := Lib.hid (rulesE_01 m d bl bu q rew win fin work)
  go_enter Tryz.func3, Tryz.ntmps3
  go_wp2_with fail
  refine (awake_any _).mono ?_
  rintro e w1 ⟨rfl, hb1⟩
  have hw1 := bnext hbB hb1
  obtain ⟨x0, x1⟩ := box_cells (box_after hb1 HX.out)
  obtain ⟨y0, y1⟩ := box_cells (box_after hb1 HY.out)
  go_wp2_with fail
  refine (small_any _ _ t ma oa pa mc oc pc 1200 (h.keepB hw1)).mono ?_
  rintro e w2 ⟨rfl, hb2⟩
  have hw2 := bnext hw1 hb2
  generalize smallB t 1200 = sm
  cases sm with
  | false =>
    go_wp2_with fail
    refine (awake_any _).mono ?_
    rintro e w3 ⟨rfl, hb3⟩
    go_wp2_with fail
    go_ret
    exact ⟨rfl, bnext hw2 hb3⟩
  | true =>
    clear x0 x1 y0 y1
    obtain ⟨x0, x1⟩ := box_cells (box_after hb2 (box_after hb1 HX.out))
    obtain ⟨y0, y1⟩ := box_cells (box_after hb2 (box_after hb1 HY.out))
    go_wp2_with fail
    refine (refRules_any m d bl bu q rew win fin work _).mono ?_
    rintro e w3 ⟨rfl, hb3⟩
    have hw3 := bnext hw2 hb3
    clear x0 x1 y0 y1
    have HX3 := Lib.hid (box_after hb3 (box_after hb2 (box_after hb1 HX.out)))
    have HY3 := Lib.hid (box_after hb3 (box_after hb2 (box_after hb1 HY.out)))
    obtain ⟨x0, x1⟩ := box_cells HX3.out
    generalize hE : rulesE m d bl bu q rew win fin work = E
    rw [hE] at HE
    have HEE := Lib.hid hE
    clear hE
    rcases HE.out with he | he
    · subst he
      obtain ⟨mb, hmb⟩ : ∃ mb : Bool, (m == 3) = mb := ⟨_, rfl⟩
      have HMB := Lib.hid hmb
      cases ideal with
      | true =>
        cases mb with
        | true =>
          go_wp2_with fail
          refine (awake_any _).mono ?_
          rintro e w4 ⟨rfl, hb4⟩
          go_wp2_with fail
          go_ret
          exact ⟨rfl, bnext hw3 hb4⟩
        | false =>
          go_wp2_with fail
          refine (real_any _).mono ?_
          rintro e w4 ⟨p, rfl, hp, ho4, hb4⟩
          have hw4 := bnext hw3 hb4
          go_wp2_with fail
          refine (ideal_any _ 1).mono ?_
          rintro e w5 ⟨p', rfl, hp', ho5, hb5⟩
          have hw5 := bnext hw4 hb5
          obtain ⟨y0, y1⟩ := box_cells (box_after hb5 (box_after hb4 HY3.out))
          obtain ⟨z0, z1⟩ := box_cells (box_after hb5 (box_after hb4 HX3.out))
          clear x0 x1
          go_wp2_with fail
          refine (check_mode w5 p' true 1 ho5 m d bl bu q rew win fin work _ _ _ _ _ _ _ _ _ _ HEE.out (by rw [HMB.out]; simp)).mono ?_
          rintro e w6 ⟨rfl, hb6⟩
          go_wp2_with fail
          go_ret
          exact ⟨rfl, bnext hw5 hb6⟩
      | false =>
        cases mb with
        | false =>
          go_wp2_with fail
          refine (awake_any _).mono ?_
          rintro e w4 ⟨rfl, hb4⟩
          go_wp2_with fail
          go_ret
          exact ⟨rfl, bnext hw3 hb4⟩
        | true =>
          go_wp2_with fail
          refine (real_any _).mono ?_
          rintro e w4 ⟨p, rfl, hp, ho4, hb4⟩
          have hw4 := bnext hw3 hb4
          obtain ⟨y0, y1⟩ := box_cells (box_after hb4 HY3.out)
          obtain ⟨z0, z1⟩ := box_cells (box_after hb4 HX3.out)
          clear x0 x1
          go_wp2_with fail
          refine (check_mode w4 p false 0 ho4 m d bl bu q rew win fin work _ _ _ _ _ _ _ _ _ _ HEE.out (by rw [HMB.out]; simp)).mono ?_
          rintro e w6 ⟨rfl, hb6⟩
          go_wp2_with fail
          go_ret
          exact ⟨rfl, bnext hw4 hb6⟩
    · subst he
      cases ideal with
      | true =>
        go_wp2_with fail
        refine (real_any _).mono ?_
        rintro e w4 ⟨p, rfl, hp, ho4, hb4⟩
        have hw4 := bnext hw3 hb4
        go_wp2_with fail
        refine (ideal_any _ 1).mono ?_
        rintro e w5 ⟨p', rfl, hp', ho5, hb5⟩
        have hw5 := bnext hw4 hb5
        obtain ⟨y0, y1⟩ := box_cells (box_after hb5 (box_after hb4 HY3.out))
        obtain ⟨z0, z1⟩ := box_cells (box_after hb5 (box_after hb4 HX3.out))
        clear x0 x1
        go_wp2_with fail
        refine (check_rules w5 p' m d bl bu q rew win fin work _ _ _ _ _ _ _ _ _ _ HEE.out).mono ?_
        rintro e w6 ⟨rfl, hb6⟩
        go_wp2_with fail
        go_ret
        exact ⟨rfl, bnext hw5 hb6⟩
      | false =>
        go_wp2_with fail
        refine (real_any _).mono ?_
        rintro e w4 ⟨p, rfl, hp, ho4, hb4⟩
        have hw4 := bnext hw3 hb4
        obtain ⟨y0, y1⟩ := box_cells (box_after hb4 HY3.out)
        obtain ⟨z0, z1⟩ := box_cells (box_after hb4 HX3.out)
        clear x0 x1
        go_wp2_with fail
        refine (check_rules w4 p m d bl bu q rew win fin work _ _ _ _ _ _ _ _ _ _ HEE.out).mono ?_
        rintro e w6 ⟨rfl, hb6⟩
        go_wp2_with fail
        go_ret
        exact ⟨rfl, bnext hw4 hb6⟩
end Go.Proofs.YthbniihoommedaaGreatDoor
