/- The reader's lists. -/
import Derived.Test.YthggdacincfplaaGreatDoorReader
namespace Go.Proofs.YthggdacincfplaaGreatDoor
open Go.ChangeShapes Go.WideShapes Go.ChangeAt Go.RowKit

def RdM.many (p : Int) : Nat → RdM → List Int → List Int × RdM
  | 0, r, acc => (acc, r)
  | k + 1, r, acc => if p ≤ (r.dig 8).1 then ([], (r.dig 8).2.2.fail) else RdM.many p k (r.dig 8).2.2 (acc ++ [(r.dig 8).1])
def RdM.list (r : RdM) (most p : Int) : List Int × RdM :=
  if (r.int most).2.failed = true ∨ (((r.int most).2.bytes.length - (r.int most).2.pos : Nat) : Int) / 8 < (r.int most).1 then ([], (r.int most).2.fail) else RdM.many p (r.int most).1.toNat (r.int most).2 []
/-- The row of a list that is being read. -/
def rowS (acc : List Int) (k : Nat) : List Value := (acc ++ List.replicate k 0).map (Value.int .u64)
theorem rowS_set (acc : List Int) (k : Nat) (x : Int) : (rowS acc (k + 1)).toArray.setIfInBounds acc.length (.int .u64 x) = (rowS (acc ++ [x]) k).toArray := by
  apply Array.ext'
  simp [rowS, List.replicate_succ]
theorem rowS_zero (acc : List Int) : rowS acc 0 = acc.map (Value.int .u64) := by simp [rowS]
theorem madeRow (n : Nat) : madeCells #[Value.int .u64 0] n = (rowS [] n).toArray := by
  apply Array.ext'
  apply List.ext_getElem?
  intro j
  rcases Nat.lt_or_ge j n with h | h
  · have hm : j % 1 = 0 := Nat.mod_one j
    simp [madeCells, rowS, h, hm]
  · simp [madeCells, rowS, h]
/-- The call returned a list in new memory; the reader was turned. -/
def GaveList (p : Nat) (w : World) (x : List Int × RdM) (e : Ending) (w' : World) : Prop :=
  ∃ a cap, e = .returned (.slice a x.1.length cap) ∧ numsR.rel (fun k => w.heap.size ≤ k) w' [.slice a x.1.length cap] x.1 ∧ RdTo p w x.2 w'
theorem RdTo.sizes {p : Nat} {w w' : World} {r : RdM} (h : RdTo p w r w') : w.heap.size ≤ w'.heap.size := h.2.size
theorem RdAt.lt {p : Nat} {w : World} {r : RdM} (h : RdAt p w r) : p < w.heap.size := by
  obtain ⟨a, cap, h1, -⟩ := h
  exact box_lt h1
theorem many_len (p : Int) : ∀ (k : Nat) (r : RdM) (acc : List Int), (RdM.many p k r acc).1.length ≤ acc.length + k
  | 0, _, _ => Nat.le_refl _
  | k + 1, r, acc => by
    unfold RdM.many
    split
    · simp
    · have := many_len p k (r.dig 8).2.2 (acc ++ [(r.dig 8).1])
      simp at this; omega

set_option maxRecDepth 100000 in
set_option maxHeartbeats 3000000 in
theorem rdList_any (w : World) (p : Nat) (r : RdM) (h : RdAt p w r) (most pr : Int) (m0 : 0 ≤ most) (m1 : most ≤ 1000) :
    Calls Tryz.prog 43 #[.pointer (some ⟨p, 0, none⟩), .int .i64 most, .int .u64 pr] w (GaveList p w (r.list most pr)) := by
  have HLT := Lib.hid h.lt
  go_enter Tryz.func43, Tryz.ntmps43
  go_wp2_with fail
  refine (rdInt_any w p r h most m0 (by omega)).mono ?_
  rintro e w1 ⟨rfl, hr, n0, n1⟩
  have HU : Hid (r.list most pr = if (r.int most).2.failed = true ∨ (((r.int most).2.bytes.length - (r.int most).2.pos : Nat) : Int) / 8 < (r.int most).1 then ([], (r.int most).2.fail) else RdM.many pr (r.int most).1.toNat (r.int most).2 []) := rfl
  generalize r.int most = t at *
  obtain ⟨n, r1⟩ := t
  simp only at hr n0 n1 HU ⊢
  have HR := Lib.hid hr
  have HF := Lib.hid (RdTo.next hr hr.1.fail)
  obtain ⟨a, cap, h1, -, h3, h4⟩ := hr.1
  obtain ⟨c0, c1⟩ := box_cells h1
  clear h1 hr h
  cases hf : r1.failed with
  | true =>
    have HV : Hid (r.list most pr = ([], r1.fail)) := by show _ = _; rw [HU.out, if_pos (.inl hf)]
    rw [hf] at c0
    clear HU
    go_wp2_with fail
    go_ret
    rw [HV.out]
    exact ⟨none, 0, rfl, sliceR.nil, HF.out⟩
  | false =>
    rw [hf] at c0
    go_wp2_with fail
    refine (left_any w1 p r1 HR.out.1).mono ?_
    rintro e w2 ⟨rfl, hb2⟩
    have HR2 := Lib.hid (⟨HR.out.1.keep hb2, kept_next HR.out.2 (Kept.of_below hb2)⟩ : RdTo p w r1 w2)
    have HF2 := Lib.hid (RdTo.next HR2.out HR2.out.1.fail)
    clear c0 c1 HF
    obtain ⟨a2, cap2, q1, -, -, -⟩ := HR2.out.1
    obtain ⟨c0, c1⟩ := box_cells q1
    clear q1
    rw [hf] at c0
    by_cases hlt : ((r1.bytes.length - r1.pos : Nat) : Int) / 8 < n
    · have HV : Hid (r.list most pr = ([], r1.fail)) := by show _ = _; rw [HU.out, if_pos (.inr hlt)]
      clear HU
      go_wp2_with fail
      go_ret
      rw [HV.out]
      exact ⟨none, 0, rfl, sliceR.nil, HF2.out⟩
    · have HV : Hid (r.list most pr = RdM.many pr n.toNat r1 []) := by show _ = _; rw [HU.out, if_neg (fun h => h.elim (fun h => by rw [hf] at h; cases h) hlt)]
      clear HU
      obtain ⟨N, rfl⟩ := Int.eq_ofNat_of_zero_le n0
      rw [Int.toNat_natCast] at HV
      have hN : N ≤ 1000 := by omega
      go_wp2_with (at_make; refine wpList_make_cells rfl _ _ rfl Tryz.etyNums (z := .int .u64 0) (by kernel_rfl) (n := N) rfl rfl rfl rfl ?_ ?_ ?_)
      · omega
      · unfold maxLen; omega
      have hg3 := box_new w2 (.cells (rowS [] N).toArray 24)
      have hb3 := bnew (Below.refl w2.heap.size w2) (.cells (rowS [] N).toArray 24)
      rw [madeRow]
      have HG3 := Lib.hid hg3
      have HB3 := Lib.hid hb3
      generalize w2.alloc (.cells (rowS [] N).toArray 24) = w3 at *
      have hgs : w.heap.size ≤ w2.heap.size := HR2.out.2.size
      clear hg3 hb3 c0 c1
      have HR3 := Lib.hid (⟨HR2.out.1.keep HB3.out, kept_next HR2.out.2 (Kept.of_below HB3.out)⟩ : RdTo p w r1 w3)
      generalize hG : w2.heap.size = G at *
      have hpG : p < G := by have := HLT.out; omega
      go_loopw [31] (fun vi wr => ∃ (k : Nat) (rd : RdM) (acc : List Int), k ≤ N ∧ vi = .int .i64 k ∧ acc.length = k ∧ (∀ x ∈ acc, okU x) ∧ RdTo p w rd wr ∧ wr.heap[G]? = some (.cells (rowS acc (N - k)).toArray 24 (0, 0)) ∧ Hid (RdM.many pr (N - k) rd acc = RdM.many pr N r1 [])) (fun vi _ => N - (intOf vi).toNat)
      case atStart => exact ⟨0, r1, [], Nat.zero_le _, rfl, rfl, fun x h => by simp at h, HR3.out, HG3.out, rfl⟩
      case round =>
        obtain ⟨k, rd, acc, hk, rfl, hacc, hok, hrd, hrow, hinv⟩ := hrel
        by_cases hks : k < N
        · obtain ⟨j, hj⟩ : ∃ j, N - k = j + 1 := ⟨N - k - 1, by omega⟩
          have hj2 : N - (k + 1) = j := by omega
          rw [hj] at hrow hinv
          have HROW := Lib.hid hrow
          have HRD := Lib.hid hrd
          have hdi := hrd.1.dig_in 8
          have HU : Hid (RdM.many pr (j + 1) rd acc = if pr ≤ (rd.dig 8).1 then ([], (rd.dig 8).2.2.fail) else RdM.many pr j (rd.dig 8).2.2 (acc ++ [(rd.dig 8).1])) := rfl
          clear hrow
          go_wp2_with fail
          refine (digits_any _ p rd hrd.1 8 (by omega)).mono ?_
          rintro e w4 ⟨rfl, hr4⟩
          generalize rd.dig 8 = t at *
          obtain ⟨x, ok, r4⟩ := t
          simp only at hr4 hdi HU ⊢
          have hx1 : x < 18446744073709551616 := by simpa using hdi.2
          have hx0 := hdi.1
          clear hdi
          have hrow4 := box_kept hr4.2 HROW.out (show G ≠ p by omega)
          obtain ⟨d0, d1⟩ := box_cells hrow4
          have hlen4 : (rowS acc (j + 1)).length = N := by unfold rowS; simp; omega
          have HSET := Lib.hid (rowS_set acc j x)
          rw [hacc] at HSET
          have hnew := box_set (i := k) (v := .int .u64 x) hrow4
          rw [HSET.out] at hnew
          have HNEW := Lib.hid hnew
          have hck : w4.cell? ⟨G, k, none⟩ = some (.int .u64 0) := by rw [d0]; simp [rowS, hacc]
          have hgk := World.cell?_setCell_same w4 ⟨G, k, none⟩ (.int .u64 x) hck
          have R5 : Hid (RdTo p w r4 (w4.setCell ⟨G, k, none⟩ (.int .u64 x))) := by
            have hk5 : Kept (fun i => i ≤ p) w4 (w4.setCell ⟨G, k, none⟩ (.int .u64 x)) := (Kept.refl _ _).setCell (fun _ h => by have h' : G ≤ p := h; omega) _
            have hk6 : Kept (fun i => i ≠ p) w (w4.setCell ⟨G, k, none⟩ (.int .u64 x)) := (kept_next HRD.out.2 hr4.2).setCell (fun h => by have h' : G < w.heap.size := h; omega) _
            exact ⟨hr4.1.kept hk5, hk6⟩
          clear hnew hrow4 d0 hrd
          by_cases hpx : pr ≤ x
          · have HE : Hid (r.list most pr = ([], r4.fail)) := by show _ = _; rw [HV.out, ← hinv.out, HU.out, if_pos hpx]
            have HF5 := Lib.hid (RdTo.next R5.out R5.out.1.fail)
            obtain ⟨a5, cap5, q5, -, -, -⟩ := R5.out.1
            obtain ⟨e0, e1⟩ := box_cells q5
            clear q5
            go_wp2_with fail
            go_ret
            rw [HE.out]
            exact ⟨none, 0, rfl, sliceR.nil, HF5.out⟩
          · have HI : Hid (RdM.many pr j r4 (acc ++ [x]) = RdM.many pr N r1 []) := by show _ = _; rw [← hinv.out, HU.out, if_neg hpx]
            go_wp2_with fail
            go_roundw
            case rel => exact ⟨k + 1, r4, acc ++ [x], by omega, by go_num, by simp [hacc], fun y hy => by rcases List.mem_append.1 hy with h | h; exact hok y h; simp at h; subst h; exact okU_of hx0 hx1, R5.out, by rw [hj2]; exact HNEW.out, by rw [hj2]; exact HI⟩
            case measure => simp [intOf]; omega
        · obtain rfl : k = N := by omega
          rw [Nat.sub_self] at hrow hinv
          rw [rowS_zero] at hrow
          have HE : Hid (r.list most pr = (acc, rd)) := by show _ = _; rw [HV.out, ← hinv.out]; rfl
          have hown : Own (intR .u64) w.heap.size 24 (fun x => False ∨ w.heap.size ≤ x) wr (.slice (some ⟨G, 0, none⟩) acc.length acc.length) acc :=
            own_ints (cur := acc.map (Value.int .u64)) hrow (by rw [List.length_map]) (List.take_of_length_le (by rw [List.length_map]; exact Nat.le_refl _)) hok (Nat.le_refl _) (by unfold maxLen; omega) (by omega)
          have HS : Hid (numsR.rel (fun k => w.heap.size ≤ k) wr [.slice (some ⟨G, 0, none⟩) acc.length acc.length] acc) := numsR.mono hown.slice (fun i _ h => h.resolve_left id)
          clear hown hrow
          subst hacc
          go_wp2_with fail
          go_ret
          rw [HE.out]
          exact ⟨some ⟨G, 0, none⟩, acc.length, rfl, HS.out, hrd⟩
end Go.Proofs.YthggdacincfplaaGreatDoor
