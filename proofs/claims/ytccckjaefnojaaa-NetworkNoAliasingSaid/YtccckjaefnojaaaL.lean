/- The reference's lists: Cut, Without, Send; the law's cp. -/
import Derived.Test.YtccckjaefnojaaaJ
import Derived.Test.YtccckjaefnojaaaKitP
namespace Go.Proofs.Ytccckjaefnojaaa
open Go.ChangeShapes Go.WideShapes Go.ChangeAt Go.RowKit

/-- A call returned a slice of messages and a second value; nothing that was there has changed. -/
def Gives2 (F : Nat → Prop) (xs : List Msg) (v : Value) (w : World) (e : Ending) (w' : World) : Prop :=
  ∃ a cap, e = .returned (.tuple #[.slice a xs.length cap, v]) ∧ (sliceR msgR).rel F w' [.slice a xs.length cap] xs ∧ Below w.heap.size w w'
theorem Gives2.mk {F : Nat → Prop} {xs : List Msg} {v u : Value} {w w' : World} (h : (sliceR msgR).rel F w' [u] xs) (hb : Below w.heap.size w w') : Gives2 F xs v w (.returned (.tuple #[u, v])) w' := by
  obtain ⟨a, cap, rfl, _⟩ := sliceR.form h
  exact ⟨a, cap, rfl, h, hb⟩
theorem cutL_snoc (g : List Int) (l : List Msg) (j : Nat) (h : j < l.length) : cutL g (l.take (j + 1)) = cutL g (l.take j) ++ (if (hasB g l[j].frm == hasB g l[j].to) = true then [l[j]] else []) := by
  unfold cutL
  rw [List.take_succ_eq_append_getElem h, List.filter_append]
  cases hd : (hasB g l[j].frm == hasB g l[j].to) <;> simp [hd]

set_option maxRecDepth 100000 in
set_option maxHeartbeats 1000000 in
theorem refCut_any (S S' : Nat → Prop) (w : World) (l : List Msg) (g : List Int) (la ga : Option Addr) (lc gc : Nat) (hl : (sliceR msgR).rel S w [.slice la l.length lc] l) (hg : intsR.rel S' w [.slice ga g.length gc] g) (hs : l.length ≤ 100000) :
    Calls Try.prog 29 #[.slice la l.length lc, .slice ga g.length gc] w (Gives2 (fun k => S k ∨ w.heap.size ≤ k) (cutL g l) (.int .i64 (l.length - (cutL g l).length : Nat)) w) := by
  have hcl : (cutL g l).length ≤ l.length := List.length_filter_le _ _
  obtain ⟨T, hT, hl⟩ : ∃ T : Nat → Prop, (∀ k, T k → S k ∧ k < w.heap.size) ∧ (sliceR msgR).rel T w [.slice la l.length lc] l := ⟨_, fun _ h => h, (sliceR msgR).bound hl⟩
  have hsn := Lib.hid (cutL_snoc g l)
  have hb0 := bnew (Below.refl w.heap.size w) (.cells #[] 24)
  have ho0 := Own.empty msgR w.heap.size 24 (box_new w (.cells #[] 24)) (Nat.le_refl _)
  go_enter Try.func29, Try.ntmps29
  go_wp2_with fail
  go_loopw [6, 7] (fun v i wr => ∃ k : Nat, k ≤ l.length ∧ i = .int .i64 k ∧ Own msgR w.heap.size 24 (fun x => S x ∨ w.heap.size ≤ x) wr v (cutL g (l.take k)) ∧ Below w.heap.size w wr) (fun _ i _ => l.length - (intOf i).toNat)
  case atStart => exact ⟨0, Nat.zero_le _, rfl, ho0.mono fun k _ h => .inr (by omega), hb0⟩
  case round =>
    obtain ⟨k, hk, rfl, hor, hbr⟩ := hrel
    by_cases hlt : k < l.length
    · have hlr := (sliceR msgR).keepB hl hbr
      obtain ⟨b, off, va, vc, rfl, -, hbl, hr1, c0, c1, c2, c3⟩ := msgs_at hlr k hlt
      have n0 : (0 : Int) ≤ (k : Int) := by omega
      have n1 : (k : Int) < (l.length : Int) := by omega
      have HH := Lib.hid fun W (hW : Below wr.heap.size wr W) x => has_any S' W ga gc g x (intsR.keepB hg (bnext hbr hW))
      have hstep := Lib.hid (hsn.out k hlt)
      have HLT := Lib.hid fun x (hx : Value.ownBlock u6 = some x) => hor.lt hx
      have hlen : Hid ((cutL g (l.take k)).length ≤ k) := by
        have h1 := List.length_filter_le (fun m : Msg => hasB g m.frm == hasB g m.to) (l.take k)
        have h2 := List.length_take_le k l
        exact Nat.le_trans h1 h2
      go_wp2_with fail
      go_region_held3 (fun w' => Below wr.heap.size wr w' ∧ w'.cell? ⟨b, off + k * 4 + 1, none⟩ = some (.int .i64 l[k].frm) ∧ w'.cell? ⟨b, off + k * 4 + 2, none⟩ = some (.int .i64 l[k].to))
        (first
          | exact ⟨(Below.refl _ _).drew, c1, c2⟩
          | (have hh := (‹Below wr.heap.size wr _ ∧ _› : Below wr.heap.size wr _ ∧ _); exact hh))
        (first
          | (go_at_call 34; refine (HH.out _ (‹Below wr.heap.size wr _ ∧ _› : Below wr.heap.size wr _ ∧ _).1 _).mono ?_; rintro e w1 ⟨rfl, rfl⟩))
      have hh := (‹Below wr.heap.size wr _ ∧ _› : Below wr.heap.size wr _ ∧ _).1
      have HT := Lib.hid hT
      generalize hd : (hasB g l[k].frm == hasB g l[k].to) = d
      have HD := Lib.hid hd
      clear hd
      cases d with
      | false =>
        have hor2 : Own msgR w.heap.size 24 (fun x => S x ∨ w.heap.size ≤ x) wr.drew u6 (cutL g (l.take (k + 1))) := by
          rw [hstep.out, HD.out, if_neg (by simp), List.append_nil]
          exact hor.keepB (Below.refl _ _).drew
        go_wp2_with fail
        go_roundw
        case rel => exact ⟨k + 1, by omega, by go_num, hor2, hbr.drew⟩
        case measure => simp [intOf]; omega
      | true =>
        have hl100 : (cutL g (l.take k)).length ≤ 100000 := Nat.le_trans hlen.out (by omega)
        go_wp2_with (at_builtin; refine wpList_push (wr := wr.drew) (es := [.int .i64 l[k].kind, .int .i64 l[k].frm, .int .i64 l[k].to, .slice va l[k].bytes.length vc]) (v := u6) (w0 := w) rfl _ _ rfl Try.ety30 rfl rfl hbr.drew hbr.size (hor.keepB (Below.refl _ _).drew) (msgR.keepB hr1 (Below.refl _ _).drew) (fun x hx => ⟨.inl (HT.out x hx).1, fun h => by have := (HLT.out x h).2.2; have := (HT.out x hx).2; omega⟩) (by unfold maxLen; omega) (by omega) ?_)
        intro v2 w2 ho2 hb2
        have ho3 : Own msgR w.heap.size 24 (fun x => S x ∨ w.heap.size ≤ x) w2 v2 (cutL g (l.take (k + 1))) := by
          rw [hstep.out, HD.out, if_pos rfl]
          exact ho2
        go_wp2_with fail
        go_roundw
        case rel => exact ⟨k + 1, by omega, by go_num, ho3, hb2⟩
        case measure => simp [intOf]; omega
    · obtain rfl : k = l.length := by omega
      rw [List.take_length] at *
      obtain ⟨a6, c6, rfl, -, -⟩ := sliceR.form hor.slice
      go_wp2_with fail
      go_ret2
      have e1 : (l.length : Int) - ((cutL g l).length : Int) = ((l.length - (cutL g l).length : Nat) : Int) := by omega
      refine ⟨a6, c6, ?_, hor.slice, hbr⟩
      rw [← e1]
      rfl
end Go.Proofs.Ytccckjaefnojaaa
