/- The network's own functions, continued. -/
import Derived.Test.YtccckjaefnojaaaA
namespace Go.Proofs.Ytccckjaefnojaaa
open Go.ChangeShapes Go.WideShapes Go.ChangeAt Go.RowKit

theorem add_yes {O : Nat → Prop} {w wA w2 : World} {p : Nat} {nodes : Int} {ms : List Msg} {m : Msg} {v v2 : Value} (hn : NetAt O w p nodes ms)
    (n6 : w.heap[p]? = some (.cells #[.int .i64 nodes, v] 58 (0, 0))) (n7 : Own msgR 0 24 (fun k => O k ∧ k ≠ p) w v ms) (hf : fitsB nodes ms.length m = true)
    (hbA : Below w.heap.size w wA) (hk2 : Kept (fun k => v.ownBlock ≠ some k) wA w2) (ho2 : Own msgR 0 24 (fun k => (O k ∧ k ≠ p ∨ w.heap.size ≤ k) ∨ wA.heap.size ≤ k) w2 v2 (ms ++ [m])) :
    NetRet2 O p nodes (.bool (fitsB nodes ms.length m)) (addL nodes ms m) w (.returned (.bool true)) (w2.setCell ⟨p, 1, none⟩ v2) := by
  obtain ⟨n1, n2, n3, n4, n5, -⟩ := hn
  obtain ⟨f1, f2, f3, f4, f5, f6⟩ : 0 ≤ m.frm ∧ m.frm < nodes ∧ 0 ≤ m.to ∧ m.to < nodes ∧ m.bytes.length ≤ 4194304 ∧ ms.length < 4096 := by
    unfold fitsB at hf; exact of_decide_eq_true hf
  have hp := box_lt n6
  have hpA := box_after hbA n6
  have hz := hbA.size
  have hp2 := box_kept hk2 hpA (fun h => (n7.lt h).2.1.2 rfl)
  unfold addL
  rw [hf, if_pos rfl]
  refine ⟨⟨rfl, ⟨.inl n1, n2, n3, by simp; omega, ?_, v2, by simpa using box_set (i := 1) (v := v2) hp2, ?_⟩, ?_⟩, ?_⟩
  · intro x hx
    rcases List.mem_append.1 hx with h | h
    · exact n5 x h
    · simp at h; subst h; exact ⟨f1, f2, f3, f4, f5⟩
  · refine (ho2.mono (F' := fun k => (O k ∨ w.heap.size ≤ k) ∧ k ≠ p) ?_).keep ((Kept.refl _ _).setCell ?_ _)
    · rintro k - ((⟨h1, h2⟩ | h) | h)
      · exact ⟨.inl h1, h2⟩
      · exact ⟨.inr h, by omega⟩
      · exact ⟨.inr (by omega), by omega⟩
    · rintro - ⟨-, h⟩; exact h rfl
  · refine ((Kept.of_below hbA).trans hk2 ?_).setCell ?_ _
    · intro k _ hk h; exact hk (n7.lt h).2.1.1
    · intro _ h; exact h n1
  · refine ((Kept.of_below hbA).trans hk2 ?_).setCell ?_ _
    · intro k _ hk h; exact hk (.inr ⟨_, _, n6, h⟩)
    · intro _ h; exact h (.inl rfl)

set_option maxRecDepth 100000 in
set_option maxHeartbeats 1000000 in
theorem add_true (O S : Nat → Prop) (w : World) (p : Nat) (nodes : Int) (ms : List Msg) (cs : List Value) (m : Msg) (hn : NetAt O w p nodes ms) (hm : msgR.rel S w cs m) (hf : fitsB nodes ms.length m = true) :
    Calls Try.prog 26 #[.pointer (some ⟨p, 0, none⟩), .agg cs.toArray] w (NetRet2 O p nodes (.bool (fitsB nodes ms.length m)) (addL nodes ms m) w) := by
  obtain ⟨v, rfl, h1, h2, h3, h4⟩ := msgR.inv hm
  obtain ⟨a, cap, rfl, g1, g2⟩ := sliceR.form h4
  obtain ⟨n1, n2, n3, n4, n5, nv, n6, n7⟩ := id hn
  obtain ⟨na, ncap, rfl, g3, g4⟩ := sliceR.form n7.slice
  have hp := box_lt n6
  obtain ⟨kc, kf⟩ := box_cells n6
  have kc0 := kc 0
  have kc1 := kc 1
  simp at kc0 kc1
  have HF := Lib.hid hf
  obtain ⟨f1, f2, f3, f4, f5, f6⟩ : 0 ≤ m.frm ∧ m.frm < nodes ∧ 0 ≤ m.to ∧ m.to < nodes ∧ m.bytes.length ≤ 4194304 ∧ ms.length < 4096 := by
    unfold fitsB at hf; exact of_decide_eq_true hf
  unfold maxLen at g2 g4
  clear kc hf n5
  have hb : Below w.heap.size w (w.alloc (.cells #[.int .i64 m.kind, .int .i64 m.frm, .int .i64 m.to, .slice a m.bytes.length cap] 24)) := bnew (Below.refl _ _) _
  have d1 : decide (m.frm < 0) = false := by simpa using f1
  have d3 : decide (m.to < 0) = false := by simpa using f3
  go_enter Try.func26, Try.ntmps26
  go_wp2_with fail
  go_quiet (fail)
  go_wp2_with fail
  go_quiet (fail)
  go_wp2_with fail
  generalize hW : (w.alloc (.cells #[.int .i64 m.kind, .int .i64 m.frm, .int .i64 m.to, .slice a m.bytes.length cap] 24)).drewN (_ + _) = W
  have HB0 : Below w.heap.size w W := by rw [← hW]; exact bdrewN hb _
  have HB : Below w.heap.size w W.drew := HB0.drew
  have HX : W.heap[w.heap.size]? = some (.cells #[.int .i64 m.kind, .int .i64 m.frm, .int .i64 m.to, .slice a m.bytes.length cap] 24) := by rw [← hW]; exact box_new w _
  have hz : w.heap.size < W.heap.size := box_lt HX
  obtain ⟨xc, xf⟩ := box_cells HX
  have HP := box_after HB0 n6
  obtain ⟨pc, pf⟩ := box_cells HP
  have n7a : Own msgR 0 24 (fun k => (O k ∧ k ≠ p) ∨ w.heap.size ≤ k) W.drew (.slice na ms.length ncap) ms := (n7.keepB HB).mono fun _ _ h => .inl h
  have hlt := fun k (hk : Value.ownBlock (.slice na ms.length ncap) = some k) => (n7.lt hk).1
  have HLT := Lib.hid hlt
  have HNE : Hid (Value.ownBlock (.slice na ms.length ncap) ≠ some p) := fun h => (n7.lt h).2.1.2 rfl
  clear hW kc0 kc1 kf hlt
  go_region_law (first
    | (refine step_append_rel (r := msgR) (v := .slice na ms.length ncap) (u := .slice (some ⟨w1.heap.size, 0, none⟩) 1 1) rfl _ _ rfl Try.ety30 rfl rfl (n7a.keepB (bnew hb1 _)) (Src.one (msgR.keepB hv1 (bnew (Below.refl _ _) _)) (CellsAt.new w1 _ 24)) (fun k _ h => .inr (Nat.le_trans HB0.size h)) (fun k hk h => absurd (HLT.out k hk) (Nat.not_lt.2 (Nat.le_trans HB0.size h))) (by unfold maxLen; simp; omega) (by simp; omega) (Nat.zero_le _) ?_; intro v2 w2 ho2 hk2 hl2; obtain ⟨a2, cap2, rfl, -, -⟩ := sliceR.form ho2.slice; obtain ⟨pc2, pf2⟩ := box_cells (box_kept hk2 (box_old (box_after (W := W.drew) hb1 HP)) HNE.out))
    | (go_simp; go_at_call 30; refine (cloneMsg S _ _ m (msgR.keepB hm HB) f5).mono ?_; rintro e w1 ⟨cs1, rfl, hv1, hb1⟩; obtain ⟨v1, rfl, -⟩ := msgR.inv hv1; obtain ⟨pc1, pf1⟩ := box_cells (box_after (W := W.drew) hb1 HP); have pa1 := fun o' => (box_cells (box_old (o' := o') (box_after (W := W.drew) hb1 HP))).1))
  all_goals go_wp2_with fail
  all_goals go_ret
  all_goals exact add_yes hn n6 n7 HF.out (bnew (bnext HB hb1) _) hk2 (by simpa using ho2)

theorem add_any (O S : Nat → Prop) (w : World) (p : Nat) (nodes : Int) (ms : List Msg) (cs : List Value) (m : Msg) (hn : NetAt O w p nodes ms) (hm : msgR.rel S w cs m) :
    Calls Try.prog 26 #[.pointer (some ⟨p, 0, none⟩), .agg cs.toArray] w (NetRet2 O p nodes (.bool (fitsB nodes ms.length m)) (addL nodes ms m) w) := by
  cases hf : fitsB nodes ms.length m with
  | true => rw [← hf]; exact add_true O S w p nodes ms cs m hn hm hf
  | false => rw [← hf]; exact add_false O S w p nodes ms cs m hn hm hf
end Go.Proofs.Ytccckjaefnojaaa
