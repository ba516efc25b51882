/- The law TxcheckOpen: its walk. In the open mode Check returns what the reference's Check returns, and the oracle is asked nothing. -/
import Derived.Test.YtmieheeibakdhaaGreatDoorMTxR
namespace Go.Proofs.YtmieheeibakdhaaGreatDoor
open Go.ChangeShapes Go.WideShapes Go.ChangeAt Go.RowKit Go.Sort

theorem smallB_proof' {t : TxM} (h : smallB t 1200 = true) : t.proof.length ≤ 1200 := by
  unfold smallB at h
  simp at h
  omega
set_option maxRecDepth 100000 in
set_option maxHeartbeats 4000000 in
theorem open_law (w : World) (m d bl bu qu rew win fin work : Int) (t : TxM) (ma oa pa : Option Addr) (mc oc pc : Nat) (h : TxIn (fun k => k < w.heap.size) w t ma oa pa mc oc pc) :
    Calls Tryz.prog 3 #[.agg #[.int .i64 m, .int .i64 d, .int .i64 bl, .int .i64 bu, .int .i64 qu, .int .u64 rew, .int .i64 win, .int .i64 fin, .int .u64 work], .agg #[.int .u64 t.anchor, .slice ma t.marks.length mc, .slice oa t.outs.length oc, .int .u64 t.dep, .int .u64 t.wd, .int .u64 t.fee, .int .u64 t.acc, .int .u64 t.nonce, .int .i64 t.exp, .slice pa t.proof.length pc]] w fun e w' => e = .returned (.bool true) ∧ Below w.heap.size w w' := by
  have hbB := (bnew (bnew (Below.refl w.heap.size w) (.cells #[.int .i64 m, .int .i64 d, .int .i64 bl, .int .i64 bu, .int .i64 qu, .int .u64 rew, .int .i64 win, .int .i64 fin, .int .u64 work] 26)) (.cells #[.int .u64 t.anchor, .slice ma t.marks.length mc, .slice oa t.outs.length oc, .int .u64 t.dep, .int .u64 t.wd, .int .u64 t.fee, .int .u64 t.acc, .int .u64 t.nonce, .int .i64 t.exp, .slice pa t.proof.length pc] 31))
  have HA0 := Lib.hid (two_new w (.cells #[.int .i64 m, .int .i64 d, .int .i64 bl, .int .i64 bu, .int .i64 qu, .int .u64 rew, .int .i64 win, .int .i64 fin, .int .u64 work] 26) (.cells #[.int .u64 t.anchor, .slice ma t.marks.length mc, .slice oa t.outs.length oc, .int .u64 t.dep, .int .u64 t.wd, .int .u64 t.fee, .int .u64 t.acc, .int .u64 t.nonce, .int .i64 t.exp, .slice pa t.proof.length pc] 31)).2
  have HA1 := Lib.hid (two_new w (.cells #[.int .i64 m, .int .i64 d, .int .i64 bl, .int .i64 bu, .int .i64 qu, .int .u64 rew, .int .i64 win, .int .i64 fin, .int .u64 work] 26) (.cells #[.int .u64 t.anchor, .slice ma t.marks.length mc, .slice oa t.outs.length oc, .int .u64 t.dep, .int .u64 t.wd, .int .u64 t.fee, .int .u64 t.acc, .int .u64 t.nonce, .int .i64 t.exp, .slice pa t.proof.length pc] 31)).1
  have HBel := Lib.hid hbB
  have H := Lib.hid (h.keepB hbB)
  clear hbB h
  go_enter Tryz.func3, Tryz.ntmps3
  go_wp2_with fail
  generalize (w.alloc (.cells #[.int .i64 m, .int .i64 d, .int .i64 bl, .int .i64 bu, .int .i64 qu, .int .u64 rew, .int .i64 win, .int .i64 fin, .int .u64 work] 26)).alloc (.cells #[.int .u64 t.anchor, .slice ma t.marks.length mc, .slice oa t.outs.length oc, .int .u64 t.dep, .int .u64 t.wd, .int .u64 t.fee, .int .u64 t.acc, .int .u64 t.nonce, .int .i64 t.exp, .slice pa t.proof.length pc] 31) = W at *
  refine (awake_any W).mono ?_
  rintro e w1 ⟨rfl, hb1⟩
  obtain ⟨x0, x1⟩ := box_cells (box_after hb1 HA0.out)
  obtain ⟨y0, y1⟩ := box_cells (box_after hb1 HA1.out)
  by_cases hm : m = 2
  · subst hm
    go_wp2_with fail
    refine (small_any _ w1 t ma oa pa mc oc pc 1200 (H.out.keepB hb1)).mono ?_
    rintro e w2 ⟨rfl, hb2⟩
    have hb2d := bnext hb1 hb2
    clear x0 x1 y0 y1
    cases hs : smallB t 1200 with
    | false =>
      go_wp2_with fail
      refine (awake_any w2).mono ?_
      rintro e w3 ⟨rfl, hb3⟩
      go_wp2_with fail
      go_ret
      exact ⟨rfl, bnext HBel.out (bnext hb2d hb3)⟩
    | true =>
      have hpl := smallB_proof' hs
      clear hs
      go_wp2_with fail
      refine (real_any w2).mono ?_
      rintro e w3 ⟨p, rfl, hp, ho, hb3⟩
      have hb3d := bnext hb2d hb3
      have HA3 := Lib.hid (box_after hb3d HA0.out)
      have HB3 := Lib.hid (box_after hb3d HA1.out)
      have H3 := Lib.hid (H.out.keepB hb3d)
      have HO := Lib.hid ho
      clear ho hp
      go_wp2_with fail
      go_region_held3 (fun w' => Below w3.heap.size w3 w' ∧ (∀ o, w'.cell? ⟨w.heap.size, o, none⟩ = (#[.int .i64 2, .int .i64 d, .int .i64 bl, .int .i64 bu, .int .i64 qu, .int .u64 rew, .int .i64 win, .int .i64 fin, .int .u64 work] : Array Value)[o]?) ∧ (∀ o, w'.cell? ⟨w.heap.size + 1, o, none⟩ = (#[.int .u64 t.anchor, .slice ma t.marks.length mc, .slice oa t.outs.length oc, .int .u64 t.dep, .int .u64 t.wd, .int .u64 t.fee, .int .u64 t.acc, .int .u64 t.nonce, .int .i64 t.exp, .slice pa t.proof.length pc] : Array Value)[o]?))
        (first
          | with_reducible exact ChK.drew (ChK.of HA3.out HB3.out (Below.refl _ _))
          | with_reducible exact HK1.out
          | with_reducible exact HK2.out
          | with_reducible exact HK3.out)
        (first
          | (go_at_call 7; refine (check_open _ _ p 0 (HO.out.keepB (‹Below w3.heap.size w3 _ ∧ _›).1) d bl bu qu rew win fin work t ma oa pa mc oc pc (H3.out.keepB (‹Below w3.heap.size w3 _ ∧ _›).1) (by omega)).mono ?_; rintro e w4 ⟨rfl, hb4⟩
             have HK1 := Lib.hid (ChK.of HA3.out HB3.out (bnext (‹Below w3.heap.size w3 _ ∧ _›).1 hb4)))
          | (go_at_call 8; refine (rcheck_open _ _ d bl bu qu rew win fin work t ma oa pa mc oc pc (H3.out.keepB HK1.out.1) (by omega)).mono ?_; rintro e w5 ⟨rfl, hb5⟩
             have HK2 := Lib.hid (ChK.of HA3.out HB3.out (bnext HK1.out.1 hb5)))
          | (go_at_call 9; refine (questions_any _ p 0 false (HO.out.keepB HK2.out.1)).mono ?_; rintro e w6 ⟨⟨qa, qc, rfl⟩, hb6⟩
             have HK3 := Lib.hid (ChK.of HA3.out HB3.out (bnext HK2.out.1 hb6))))
      have hfin := bnext HBel.out (bnext hb3d HK3.out.1)
      go_wp2_with fail
      go_ret
      exact ⟨rfl, hfin⟩
  · have z1 : (m == 2) = false := by rw [beq_eq_false_iff_ne]; exact hm
    have z2 : (m != 2) = true := by rw [bne_iff_ne]; exact hm
    clear hm
    go_wp2_with fail
    refine (awake_any w1).mono ?_
    rintro e w2 ⟨rfl, hb2⟩
    go_wp2_with fail
    go_ret
    exact ⟨rfl, bnext HBel.out (bnext hb1 hb2)⟩
end Go.Proofs.YtmieheeibakdhaaGreatDoor
