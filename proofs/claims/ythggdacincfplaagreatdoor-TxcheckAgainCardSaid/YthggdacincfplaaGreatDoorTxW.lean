/- Transactions: outputs, what is well-formed. -/
import Derived.Test.YthggdacincfplaaGreatDoorTxV
namespace Go.Proofs.YthggdacincfplaaGreatDoor
open Go.ChangeShapes Go.WideShapes Go.ChangeAt Go.RowKit

def outB (o : OutM) : Bool := elemB o.commit && (groupB o.p0 o.p1 && (decide (o.cipher.length = 3) && elemsB o.cipher))
def outsB (l : List OutM) : Bool := decide (l.length ≤ 4) && l.all outB
set_option maxRecDepth 100000 in
set_option maxHeartbeats 4000000 in
theorem validOuts_any (S : Nat → Prop) (w : World) (a : Option Addr) (cap : Nat) (l : List OutM) (h : outsR.rel S w [.slice a l.length cap] l) :
    Calls Tryz.prog 18 #[.slice a l.length cap] w fun e w' => e = .returned (.bool (outsB l)) ∧ Below w.heap.size w w' := by
  have g1 := (sliceR.lens h).2
  unfold maxLen at g1
  have H := Lib.hid h
  clear h
  by_cases h4 : 4 < l.length
  · have HF : Hid (outsB l = false) := by show _ = _; unfold outsB; rw [decide_eq_false (by omega)]; rfl
    go_enter Tryz.func18, Tryz.ntmps18
    go_wp2_with fail
    go_ret
    exact ⟨ret_bool HF.out.symm, Below.refl _ _⟩
  · have HM : Hid (outsB l = l.all outB) := by show _ = _; unfold outsB; rw [decide_eq_true (by omega)]; rfl
    go_enter Tryz.func18, Tryz.ntmps18
    go_wp2_with fail
    go_loopw [12] (fun vi wr => ∃ k : Nat, k ≤ l.length ∧ vi = .int .i64 k ∧ Hid ((l.take k).all outB = true) ∧ Below w.heap.size w wr) (fun vi _ => l.length - (intOf vi).toNat)
    case atStart => exact ⟨0, Nat.zero_le _, rfl, rfl, Below.refl _ _⟩
    case round =>
      obtain ⟨k, hk, rfl, hall, hbr⟩ := hrel
      by_cases hlt : k < l.length
      · obtain ⟨b, off, ca, cc, rfl, -, hbl, k1, k2, k3, hci, c0, c1, c2, c3⟩ := outs_at (outsR.keepB H.out hbr) k hlt
        have hno := Lib.hid (all_false outB l k hlt)
        have hyes := Lib.hid (all_take_succ outB l k hlt)
        generalize l[k] = o at *
        have hvl := (sliceR.lens hci).2
        unfold maxLen at hvl
        have hbn := bnew (Below.refl wr.heap.size wr) (.cells #[.int .u64 o.commit, .int .u64 o.p0, .int .u64 o.p1, .slice ca o.cipher.length cc] 48)
        have hin := box_new wr (.cells #[.int .u64 o.commit, .int .u64 o.p0, .int .u64 o.p1, .slice ca o.cipher.length cc] 48)
        have HCI := Lib.hid (numsR.keepB hci hbn)
        have hbrn := bnext hbr hbn
        have HIN := Lib.hid hin
        have HBN := Lib.hid hbn
        have HU : Hid (outB o = (elemB o.commit && (groupB o.p0 o.p1 && (decide (o.cipher.length = 3) && elemsB o.cipher)))) := rfl
        clear hci hin hbn
        by_cases hp : o.commit < 18446744069414584321
        · have HE : Hid (elemB o.commit = true) := decide_eq_true hp
          go_wp2_with fail
          refine (groupValid_any _ o.p0 o.p1).mono ?_
          rintro e w1 ⟨rfl, hb1⟩
          have hbw := bnext hbrn hb1
          obtain ⟨x0, x1⟩ := box_cells (box_after hb1 HIN.out)
          cases hg : groupB o.p0 o.p1 with
          | false =>
            have HF : Hid (outsB l = false) := by show _ = _; rw [HM.out]; exact hno.out (by rw [HU.out, hg]; simp)
            go_wp2_with fail
            go_ret
            exact ⟨ret_bool HF.out.symm, hbw⟩
          | true =>
            by_cases hl3 : o.cipher.length = 3
            · have b3 : ((o.cipher.length : Int) == 3) = true := by rw [beq_iff_eq]; omega
              have b3' : ((o.cipher.length : Int) != 3) = false := by rw [bne_eq_false_iff_eq]; omega
              go_wp2_with fail
              go_loop [34] (fun vi => ∃ j : Nat, j ≤ o.cipher.length ∧ vi = .int .i64 j ∧ Hid (allUp (fun k => elemB (o.cipher.getD k 0)) j = true)) (fun vi => o.cipher.length - (intOf vi).toNat)
              case atStart => exact ⟨0, Nat.zero_le _, rfl, rfl⟩
              case round =>
                obtain ⟨j, hj, rfl, hal2⟩ := hrel
                by_cases hjl : j < o.cipher.length
                · obtain ⟨b', off', rfl, hbl', n0, n1, hc'⟩ := nums_at (numsR.keepB HCI.out hb1) j hjl
                  have hgd := Lib.hid (getD_at o.cipher 0 j hjl)
                  generalize o.cipher[j] = n at *
                  by_cases hpn : n < 18446744069414584321
                  · have HY : Hid (allUp (fun k => elemB (o.cipher.getD k 0)) (j + 1) = true) := allUp_step hal2.out (by rw [hgd.out]; exact decide_eq_true hpn)
                    go_wp2_with fail
                    go_round
                    case rel => exact ⟨j + 1, by omega, by go_num, HY⟩
                    case measure => simp [intOf]; omega
                  · have HF : Hid (outsB l = false) := by
                      show _ = _
                      have : elemsB o.cipher = false := allUp_false (k := j) (by rw [hgd.out]; exact decide_eq_false hpn) hjl
                      rw [HM.out]; exact hno.out (by rw [HU.out, this]; simp)
                    go_wp2_with fail
                    go_ret
                    exact ⟨ret_bool HF.out.symm, hbw⟩
                · obtain rfl : j = o.cipher.length := by omega
                  have HY : Hid ((l.take (k + 1)).all outB = true) := by
                    show _ = _
                    have : elemsB o.cipher = true := hal2.out
                    rw [hyes.out, hall.out, HU.out, HE.out, hg, this, decide_eq_true hl3]; rfl
                  go_wp2_with fail
                  go_roundw
                  case rel => exact ⟨k + 1, by omega, by go_num, HY, hbw⟩
                  case measure => simp [intOf]; omega
            · have b3 : ((o.cipher.length : Int) == 3) = false := by rw [beq_eq_false_iff_ne]; omega
              have b3' : ((o.cipher.length : Int) != 3) = true := by rw [bne_iff_ne]; omega
              have HF : Hid (outsB l = false) := by show _ = _; rw [HM.out]; exact hno.out (by rw [HU.out, decide_eq_false hl3]; simp)
              go_wp2_with fail
              go_ret
              exact ⟨ret_bool HF.out.symm, hbw⟩
        · have HF : Hid (outsB l = false) := by
            show _ = _
            have : elemB o.commit = false := decide_eq_false hp
            rw [HM.out]; exact hno.out (by rw [HU.out, this]; rfl)
          go_wp2_with fail
          go_ret
          exact ⟨ret_bool HF.out.symm, hbrn⟩
      · obtain rfl : k = l.length := by omega
        have HF : Hid (outsB l = true) := by show _ = _; rw [HM.out]; have := hall.out; rw [List.take_length] at this; exact this
        go_wp2_with fail
        go_ret
        exact ⟨ret_bool HF.out.symm, hbr⟩

def restB (t : TxM) : Bool := decide (t.anchor < 18446744069414584321 ∧ 0 ≤ t.exp ∧ t.exp ≤ 1048576)
def validE (t : TxM) : Int := if (marksB t.marks && (outsB t.outs && (amountsB t && restB t))) = true then (if t.proof.length ≤ 1048576 then 0 else 3) else 1
set_option maxRecDepth 100000 in
set_option maxHeartbeats 4000000 in
theorem txValid_any (S : Nat → Prop) (w : World) (t : TxM) (ma oa pa : Option Addr) (mc oc pc : Nat) (h : TxIn S w t ma oa pa mc oc pc) :
    Calls Tryz.prog 13 #[.agg #[.int .u64 t.anchor, .slice ma t.marks.length mc, .slice oa t.outs.length oc, .int .u64 t.dep, .int .u64 t.wd, .int .u64 t.fee, .int .u64 t.acc, .int .u64 t.nonce, .int .i64 t.exp, .slice pa t.proof.length pc]] w fun e w' => e = .returned (.int .i64 (validE t)) ∧ Below w.heap.size w w' := by
  have hb0 := bnew (Below.refl w.heap.size w) (.cells #[.int .u64 t.anchor, .slice ma t.marks.length mc, .slice oa t.outs.length oc, .int .u64 t.dep, .int .u64 t.wd, .int .u64 t.fee, .int .u64 t.acc, .int .u64 t.nonce, .int .i64 t.exp, .slice pa t.proof.length pc] 36)
  have HX := Lib.hid (box_new w (.cells #[.int .u64 t.anchor, .slice ma t.marks.length mc, .slice oa t.outs.length oc, .int .u64 t.dep, .int .u64 t.wd, .int .u64 t.fee, .int .u64 t.acc, .int .u64 t.nonce, .int .i64 t.exp, .slice pa t.proof.length pc] 36))
  have H := Lib.hid (h.keepB hb0)
  have HB := Lib.hid hb0
  have g1 := (sliceR.lens h.proof).2
  unfold maxLen at g1
  have HU : Hid (validE t = if (marksB t.marks && (outsB t.outs && (amountsB t && restB t))) = true then (if t.proof.length ≤ 1048576 then 0 else 3) else 1) := rfl
  clear hb0 h
  go_enter Tryz.func13, Tryz.ntmps13
  go_wp2_with fail
  refine (validMarks_any S _ ma mc t.marks H.out.marks).mono ?_
  rintro e w1 ⟨rfl, hb1⟩
  obtain ⟨x0, x1⟩ := box_cells (box_after hb1 HX.out)
  have hw1 := bnext HB.out hb1
  cases hv1 : marksB t.marks with
  | false =>
    have HF : Hid (validE t = 1) := by show _ = _; rw [HU.out, hv1]; rfl
    go_wp2_with fail
    go_ret
    exact ⟨ret_int HF.out.symm, hw1⟩
  | true =>
    go_wp2_with fail
    refine (validOuts_any S w1 oa oc t.outs (outsR.keepB H.out.outs hb1)).mono ?_
    rintro e w2 ⟨rfl, hb2⟩
    clear x0 x1
    obtain ⟨x0, x1⟩ := box_cells (box_after hb2 (box_after hb1 HX.out))
    have hw2 := bnext hw1 hb2
    cases hv2 : outsB t.outs with
    | false =>
      have HF : Hid (validE t = 1) := by show _ = _; rw [HU.out, hv1, hv2]; rfl
      go_wp2_with fail
      go_ret
      exact ⟨ret_int HF.out.symm, hw2⟩
    | true =>
      go_wp2_with fail
      refine (amounts_any S w2 t ma oa pa mc oc pc ((H.out.keepB hb1).keepB hb2)).mono ?_
      rintro e w3 ⟨rfl, hb3⟩
      clear x0 x1
      obtain ⟨x0, x1⟩ := box_cells (box_after hb3 (box_after hb2 (box_after hb1 HX.out)))
      have hw3 := bnext hw2 hb3
      cases hv3 : amountsB t with
      | false =>
        have HF : Hid (validE t = 1) := by show _ = _; rw [HU.out, hv1, hv2, hv3]; rfl
        go_wp2_with fail
        go_ret
        exact ⟨ret_int HF.out.symm, hw3⟩
      | true =>
        have HU2 : Hid (validE t = if restB t = true then (if t.proof.length ≤ 1048576 then 0 else 3) else 1) := by show _ = _; rw [HU.out, hv1, hv2, hv3]; rfl
        by_cases hr : t.anchor < 18446744069414584321 ∧ 0 ≤ t.exp ∧ t.exp ≤ 1048576
        · have HR : Hid (restB t = true) := decide_eq_true hr
          obtain ⟨r1, r2, r3⟩ := hr
          by_cases hl : t.proof.length ≤ 1048576
          · have HF : Hid (validE t = 0) := by show _ = _; rw [HU2.out, HR.out, if_pos rfl, if_pos hl]
            have hl' : ¬ (1048576 : Int) < (t.proof.length : Int) := by omega
            go_wp2_with fail
            go_ret
            exact ⟨ret_int HF.out.symm, hw3⟩
          · have HF : Hid (validE t = 3) := by show _ = _; rw [HU2.out, HR.out, if_pos rfl, if_neg hl]
            have hl' : (1048576 : Int) < (t.proof.length : Int) := by omega
            go_wp2_with fail
            go_ret
            exact ⟨ret_int HF.out.symm, hw3⟩
        · have HF : Hid (validE t = 1) := by
            show _ = _
            have : restB t = false := decide_eq_false hr
            rw [HU2.out, this]; rfl
          by_cases r1 : t.anchor < 18446744069414584321
          · by_cases r2 : 0 ≤ t.exp
            · have r3 : ¬ t.exp ≤ 1048576 := fun h => hr ⟨r1, r2, h⟩
              go_wp2_with fail
              go_ret
              exact ⟨ret_int HF.out.symm, hw3⟩
            · go_wp2_with fail
              go_ret
              exact ⟨ret_int HF.out.symm, hw3⟩
          · go_wp2_with fail
            go_ret
            exact ⟨ret_int HF.out.symm, hw3⟩
end Go.Proofs.YthggdacincfplaaGreatDoor
