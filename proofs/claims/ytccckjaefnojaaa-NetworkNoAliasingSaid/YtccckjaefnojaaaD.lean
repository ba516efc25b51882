/- The network's own functions, continued: Copy, Pending. -/
import Derived.Test.YtccckjaefnojaaaC
namespace Go.Proofs.Ytccckjaefnojaaa
open Go.ChangeShapes Go.WideShapes Go.ChangeAt Go.RowKit

def copyB (ms : List Msg) (i : Int) : Bool := decide (0 ≤ i ∧ i < ms.length ∧ ms.length < 4096)
def copyL (ms : List Msg) (i : Int) : List Msg := if copyB ms i = true then ms ++ (ms.drop i.toNat).take 1 else ms
theorem copy_no {O : Nat → Prop} {w : World} {p : Nat} {nodes : Int} {ms : List Msg} {i : Int} (hn : NetAt O w p nodes ms) (hf : Hid (copyB ms i = false)) :
    NetRet2 O p nodes (.bool (copyB ms i)) (copyL ms i) w (.returned (.bool false)) w := by
  unfold copyL
  rw [hf.out, if_neg (by simp)]
  exact ⟨netRet_same hn (Below.refl _ _), Kept.refl _ _⟩
theorem take_one_drop {α : Type} (l : List α) (k : Nat) (h : k < l.length) : (l.drop k).take 1 = [l[k]] := by
  rw [List.drop_eq_getElem_cons h]; rfl
theorem copy_fit {ms : List Msg} {nodes : Int} {k : Nat} (h : k < ms.length) (n5 : ∀ m ∈ ms, 0 ≤ m.frm ∧ m.frm < nodes ∧ 0 ≤ m.to ∧ m.to < nodes ∧ m.bytes.length ≤ 4194304) :
    fitsB nodes ms.length ms[k] = copyB ms k ∧ addL nodes ms ms[k] = copyL ms k := by
  have h5 := n5 ms[k] (by simp)
  have e1 : fitsB nodes ms.length ms[k] = copyB ms k := by
    unfold fitsB copyB
    exact decide_eq_decide.2 ⟨fun h => ⟨by omega, by omega, h.2.2.2.2.2⟩, fun h => ⟨h5.1, h5.2.1, h5.2.2.1, h5.2.2.2.1, h5.2.2.2.2, h.2.2⟩⟩
  refine ⟨e1, ?_⟩
  unfold addL copyL
  rw [e1, Int.toNat_natCast, take_one_drop ms k h]

set_option maxRecDepth 100000 in
set_option maxHeartbeats 1000000 in
theorem copy_any (O : Nat → Prop) (w : World) (p : Nat) (nodes : Int) (ms : List Msg) (i : Int) (hn : NetAt O w p nodes ms) :
    Calls Try.prog 14 #[.pointer (some ⟨p, 0, none⟩), .int .i64 i] w (NetRet2 O p nodes (.bool (copyB ms i)) (copyL ms i) w) := by
  obtain ⟨n1, n2, n3, n4, n5, nv, n6, n7⟩ := id hn
  obtain ⟨na, ncap, rfl, g3, g4⟩ := sliceR.form n7.slice
  obtain ⟨kc, kf⟩ := box_cells n6
  have N5 := Lib.hid n5
  clear n5
  by_cases h0 : i < 0
  · have HF : Hid (copyB ms i = false) := by show _ = _; unfold copyB; exact decide_eq_false (by omega)
    go_enter Try.func14, Try.ntmps14
    go_wp2
    go_ret
    exact copy_no hn HF
  · by_cases h1 : (ms.length : Int) ≤ i
    · have HF : Hid (copyB ms i = false) := by show _ = _; unfold copyB; exact decide_eq_false (by omega)
      go_enter Try.func14, Try.ntmps14
      go_wp2
      go_ret
      exact copy_no hn HF
    · obtain ⟨k, rfl⟩ := Int.eq_ofNat_of_zero_le (show 0 ≤ i by omega)
      have hk : k < ms.length := by omega
      obtain ⟨b, off, va, vc, rfl, hb, hbl, hrel, c0, c1, c2, c3⟩ := msgs_at n7.slice k hk
      obtain ⟨e1, e2⟩ := copy_fit hk N5.out
      have E1 := Lib.hid e1
      have E2 := Lib.hid e2
      clear e1 e2
      go_enter Try.func14, Try.ntmps14
      go_wp2_with fail
      refine (add_any O _ _ p nodes ms _ ms[k] hn hrel).mono ?_
      rintro e w1 ⟨⟨rfl, hn1, hk1⟩, hk2⟩
      rw [E1.out] at *
      go_wp2_with fail
      go_ret
      rw [← E2.out]
      exact ⟨⟨rfl, hn1, hk1⟩, hk2⟩

set_option maxRecDepth 100000 in
set_option maxHeartbeats 1000000 in
theorem pending_any (O : Nat → Prop) (w : World) (p : Nat) (nodes : Int) (ms : List Msg) (hn : NetAt O w p nodes ms) :
    Calls Try.prog 20 #[.pointer (some ⟨p, 0, none⟩)] w (GivesS msgR (fun k => w.heap.size ≤ k) ms w) := by
  obtain ⟨n1, n2, n3, n4, n5, nv, n6, n7⟩ := id hn
  obtain ⟨na, ncap, rfl, g3, g4⟩ := sliceR.form n7.slice
  obtain ⟨kc, kf⟩ := box_cells n6
  have N5 := Lib.hid n5
  have hns := n7.slice
  clear n5
  go_enter Try.func20, Try.ntmps20
  go_wp2_with (at_make; refine wpList_make_rel rfl _ _ rfl msgR w.heap.size Try.ety30 rfl rfl (n := ms.length) rfl ?_ ?_ ?_ ?_)
  · omega
  · unfold maxLen; omega
  · exact Nat.le_refl _
  intro w0 ho0 hb0
  obtain ⟨kc0, kf0⟩ := box_cells (box_after hb0 n6)
  go_wp2_with fail
  go_loopw [3, 17] (fun v i wr => ∃ k : Nat, k ≤ ms.length ∧ i = .int .i64 k ∧ Own msgR w.heap.size 24 (fun x => w.heap.size ≤ x) wr v (ms.take k) ∧ Below w.heap.size w wr) (fun _ i _ => ms.length - (intOf i).toNat)
  case atStart => exact ⟨0, Nat.zero_le _, rfl, ho0.mono fun k _ h => by omega, hb0⟩
  case round =>
    obtain ⟨k, hk, rfl, hor, hbr⟩ := hrel
    by_cases hlt : k < ms.length
    · obtain ⟨b, off, va, vc, rfl, hb, hbl, hrel, c0, c1, c2, c3⟩ := msgs_at ((sliceR msgR).keepB hns hbr) k hlt
      have hbn := bnew (Below.refl wr.heap.size wr) (.cells #[.int .i64 ms[k].kind, .int .i64 ms[k].frm, .int .i64 ms[k].to, .slice va ms[k].bytes.length vc] 24)
      go_wp2_with fail
      refine (cloneMsg _ _ _ ms[k] (msgR.keepB hrel hbn) (N5.out ms[k] (by simp)).2.2.2.2).mono ?_
      rintro e w1 ⟨cs1, rfl, hv1, hb1⟩
      obtain ⟨v1, rfl, -⟩ := msgR.inv hv1
      have hz := hbr.size
      have hoA := ((hor.keepB hbn).keepB hb1).keepB (bnew (Below.refl w1.heap.size w1) (.cells #[.int .i64 ms[k].kind, .int .i64 ms[k].frm, .int .i64 ms[k].to, v1] 24))
      have hbA := bnew (bnext (bnext hbr hbn) hb1) (.cells #[.int .i64 ms[k].kind, .int .i64 ms[k].frm, .int .i64 ms[k].to, v1] 24)
      have HLT := Lib.hid fun x (hx : Value.ownBlock u3 = some x) => hor.lt hx
      go_wp2_with (at_builtin; refine wpList_append_rel (r := msgR) (v := u3) (u := .slice (some ⟨w1.heap.size, 0, none⟩) 1 1) rfl _ _ rfl Try.ety30 rfl rfl hoA (Src.one (msgR.keepB hv1 (bnew (Below.refl _ _) _)) (CellsAt.new w1 _ 24)) ?_ ?_ ?_ ?_ ?_ ?_)
      · intro x _ h
        simp at h
        show _ ≤ _
        omega
      · intro x hx h
        simp at h
        have := (HLT.out x hx).1
        omega
      · unfold maxLen; simp; omega
      · simp; omega
      · exact hbA.size
      intro v2 w2 ho2 hk2 _
      have hb2 := Kept.behind hbA hk2 hbA.size fun x hx h => by have := (HLT.out x h).2.2; omega
      have ho3 : Own msgR w.heap.size 24 (fun x => w.heap.size ≤ x) w2 v2 (List.take (k + 1) ms) := by
        refine ho2.mono fun x _ h => ?_
        rcases h with h | h
        · exact h
        · have := hbA.size; simp at this h; omega
      go_wp2_with fail
      go_roundw
      case rel => exact ⟨k + 1, by omega, by go_num, ho3, hb2⟩
      case measure => simp [intOf]; omega
    · have he : k = ms.length := by omega
      subst he
      rw [List.take_length] at *
      go_wp2_with fail
      go_ret
      exact GivesS.mk hor.slice hbr
end Go.Proofs.Ytccckjaefnojaaa
