/- The closure of Cut; slices.IndexFunc and slices.DeleteFunc at messages and that closure. -/
import Derived.Test.YtccckjaefnojaaaF
namespace Go.Proofs.Ytccckjaefnojaaa
open Go.ChangeShapes Go.WideShapes Go.ChangeAt Go.RowKit

/-- At block q: 64 bools. -/
def BoolsAt (w : World) (q : Nat) (f : Nat → Bool) : Prop := q < w.heap.size ∧ ∀ i, i < 64 → w.cell? ⟨q, i, none⟩ = some (.bool (f i))
theorem BoolsAt.keep {w w' : World} {q : Nat} {f : Nat → Bool} {S : Nat → Prop} (h : BoolsAt w q f) (hk : Kept S w w') (hq : S q) : BoolsAt w' q f :=
  ⟨Nat.lt_of_lt_of_le h.1 hk.size, fun i hi => hk.cell hq (h.2 i hi)⟩
def delB (f : Nat → Bool) (m : Msg) : Bool := f m.frm.toNat != f m.to.toNat

set_option maxRecDepth 100000 in
set_option maxHeartbeats 1000000 in
theorem del_any (w : World) (q : Nat) (f : Nat → Bool) (m : Msg) (v : Value) (hq : BoolsAt w q f) (h1 : 0 ≤ m.frm) (h2 : m.frm < 64) (h3 : 0 ≤ m.to) (h4 : m.to < 64) :
    Calls Try.prog 33 #[.agg #[.int .i64 m.kind, .int .i64 m.frm, .int .i64 m.to, v], .pointer (some ⟨q, 0, none⟩)] w fun e w' => e = .returned (.bool (delB f m)) ∧ Below w.heap.size w w' := by
  obtain ⟨hq1, hq2⟩ := hq
  obtain ⟨a, ha⟩ := Int.eq_ofNat_of_zero_le h1
  obtain ⟨b, hb⟩ := Int.eq_ofNat_of_zero_le h3
  have c1 := hq2 a (by omega)
  have c2 := hq2 b (by omega)
  have hne : ¬ q = w.heap.size := by omega
  have hD : Hid (delB f m = (f a != f b)) := by show _ = _; unfold delB; rw [ha, hb]; simp
  rw [ha] at h2
  rw [hb] at h4
  rw [ha, hb]
  clear h1 h3 hq2
  go_enter Try.func33, Try.ntmps33
  go_wp2_with fail
  go_quiet (fail)
  go_wp2_with fail
  go_ret
  exact ⟨by rw [hD.out]; rfl, bdrewN (bnew (Below.refl _ _) _) _⟩

/-- The first message that is deleted, or -1. -/
def firstI (f : Nat → Bool) (ms : List Msg) : Int := match ms.findIdx? (delB f) with | some k => k | none => -1

theorem firstI_some (f : Nat → Bool) (ms : List Msg) (k : Nat) (hk : k < ms.length) (h : delB f ms[k] = true) (h0 : ∀ j (hj : j < k), delB f (ms[j]'(by omega)) = false) : firstI f ms = k := by
  have : ms.findIdx? (delB f) = some k := by
    rw [List.findIdx?_eq_some_iff_getElem]
    exact ⟨hk, h, fun j hj => by simp [h0 j hj]⟩
  unfold firstI
  rw [this]
theorem firstI_none (f : Nat → Bool) (ms : List Msg) (h0 : ∀ j (hj : j < ms.length), delB f ms[j] = false) : firstI f ms = -1 := by
  have : ms.findIdx? (delB f) = none := by
    rw [List.findIdx?_eq_none_iff]
    intro x hx
    obtain ⟨j, hj, rfl⟩ := List.getElem_of_mem hx
    exact h0 j hj
  unfold firstI
  rw [this]

set_option maxRecDepth 100000 in
set_option maxHeartbeats 1000000 in
theorem index_any (S : Nat → Prop) (w : World) (g cap q : Nat) (f : Nat → Bool) (ms : List Msg) (hr : Row msgR 24 S w g cap ms) (hc : cap ≤ maxLen) (hq : BoolsAt w q f) (hms : ∀ m ∈ ms, 0 ≤ m.frm ∧ m.frm < 64 ∧ 0 ≤ m.to ∧ m.to < 64) :
    Calls Try.prog 36 #[.slice (some ⟨g, 0, none⟩) ms.length cap, .func (.func 33) #[] #[.pointer (some ⟨q, 0, none⟩)]] w fun e w' => e = .returned (.int .i64 (firstI f ms)) ∧ Below w.heap.size w w' := by
  have hcap := hr.facts.2.2
  unfold maxLen at hc
  have HM := Lib.hid hms
  clear hms
  go_enter Try.func36, Try.ntmps36
  go_wp2_with fail
  go_loopw [8] (fun i wr => ∃ k : Nat, k ≤ ms.length ∧ i = .int .i64 k ∧ (∀ j (hj : j < ms.length), j < k → delB f ms[j] = false) ∧ Below w.heap.size w wr) (fun i _ => ms.length - (intOf i).toNat)
  case atStart => exact ⟨0, Nat.zero_le _, rfl, fun j hj h => by omega, Below.refl _ _⟩
  case round =>
    obtain ⟨k, hk, rfl, hno, hbr⟩ := hrel
    have HN := Lib.hid hno
    clear hno
    by_cases hlt : k < ms.length
    · obtain ⟨va, vc, hrel, c0, c1, c2, c3⟩ := msgs_row (hr.keep (Kept.of_below hbr)) k hlt
      have hm := HM.out ms[k] (by simp)
      have hqr : BoolsAt wr q f := hq.keep (Kept.of_below (S := fun _ => True) hbr) trivial
      go_wp2_with fail
      refine (del_any wr q f ms[k] _ hqr hm.1 hm.2.1 hm.2.2.1 hm.2.2.2).mono ?_
      rintro e w1 ⟨rfl, hb1⟩
      generalize hd : delB f ms[k] = d
      have HD := Lib.hid hd
      clear hd
      cases d with
      | true =>
        go_wp2_with fail
        go_ret
        exact ⟨by rw [firstI_some f ms k hlt HD.out fun j hj => HN.out j (by omega) hj]; rfl, bnext hbr hb1⟩
      | false =>
        go_wp2_with fail
        go_roundw
        case rel =>
          refine ⟨k + 1, by omega, by go_num, fun j hj h => ?_, bnext hbr hb1⟩
          rcases Nat.lt_or_ge j k with h' | h'
          · exact HN.out j hj h'
          · obtain rfl : j = k := by omega
            exact HD.out
        case measure => simp [intOf]; omega
    · go_wp2_with fail
      go_ret
      exact ⟨by rw [firstI_none f ms fun j hj => HN.out j hj (by omega)]; rfl, hbr⟩
end Go.Proofs.Ytccckjaefnojaaa
