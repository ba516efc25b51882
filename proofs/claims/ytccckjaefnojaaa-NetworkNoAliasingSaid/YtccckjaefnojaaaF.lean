/- Take, Drop. -/
import Derived.Test.YtccckjaefnojaaaE
namespace Go.Proofs.Ytccckjaefnojaaa
open Go.ChangeShapes Go.WideShapes Go.ChangeAt Go.RowKit

def msg0 : Msg := ⟨0, 0, 0, []⟩
theorem msg0_rel (S : Nat → Prop) (w : World) : msgR.rel S w [.int .i64 0, .int .i64 0, .int .i64 0, .slice none 0 0] msg0 := msgR.mk (m := msg0) rfl rfl rfl sliceR.nil
def inB (ms : List Msg) (i : Int) : Bool := decide (0 ≤ i ∧ i < ms.length)
def takeM (ms : List Msg) (i : Int) : Msg := if inB ms i = true then ms.getD i.toNat msg0 else msg0
def withoutL (ms : List Msg) (i : Int) : List Msg := if inB ms i = true then ms.eraseIdx i.toNat else ms

def TakeRet (O : Nat → Prop) (p : Nat) (nodes : Int) (ms : List Msg) (i : Int) (w : World) (e : Ending) (w' : World) : Prop :=
  ∃ cs, e = .returned (.tuple #[.agg cs.toArray, .bool (inB ms i)]) ∧ (∃ S, msgR.rel S w' cs (takeM ms i) ∧ ∀ k, S k → k < w'.heap.size ∧ (O k ∨ w.heap.size ≤ k) ∧ ¬ Touch w' p k) ∧ NetAt (fun k => O k ∨ w.heap.size ≤ k) w' p nodes (withoutL ms i) ∧ Kept (fun k => ¬ O k) w w'

theorem take_no {O : Nat → Prop} {p : Nat} {nodes : Int} {ms : List Msg} {i : Int} {w w' : World} (hn : NetAt O w p nodes ms) (hf : Hid (inB ms i = false)) (hb : Below w.heap.size w w') :
    TakeRet O p nodes ms i w (.returned (.tuple #[.agg #[.int .i64 0, .int .i64 0, .int .i64 0, .slice none 0 0], .bool false])) w' := by
  unfold TakeRet takeM withoutL
  rw [hf.out]
  exact ⟨_, rfl, ⟨fun _ => False, msg0_rel _ _, fun _ h => h.elim⟩, (hn.keep (Kept.of_below hb)).mono fun _ _ h => .inl h, Kept.of_below hb⟩
theorem take_yes {O S : Nat → Prop} {p g cap k : Nat} {nodes : Int} {ms : List Msg} {w wA w3 w4 : World} {cs : List Value} (hn : NetAt O w p nodes ms) (hk : k < ms.length) 
    (hSF : ∀ x, S x → O x ∧ x ≠ p) (hSl : ∀ x, S x → x < w.heap.size) (hg : O g ∧ g ≠ p) (hgl : g < w.heap.size) (hcap : cap ≤ maxLen) (hm : msgR.rel S w cs ms[k]) (hSg : ¬ S g) (hbA : Below w.heap.size w wA) (hr : Row msgR 24 S w3 g cap (ms.eraseIdx k)) (hk3 : Kept (fun x => x ≠ g) wA w3)
    (hk4 : Kept (fun x => x ≠ p ∧ x < w.heap.size) w3 w4) (hp4 : w4.heap[p]? = some (.cells #[.int .i64 nodes, .slice (some ⟨g, 0, none⟩) (ms.eraseIdx k).length cap] 58 (0, 0))) :
    TakeRet O p nodes ms k w (.returned (.tuple #[.agg cs.toArray, .bool true])) w4 := by
  have hi : inB ms k = true := by unfold inB; exact decide_eq_true (by omega)
  unfold TakeRet takeM withoutL
  rw [hi, if_pos rfl, if_pos rfl, Int.toNat_natCast]
  have hsz := hbA.size
  have hms : ms.getD k msg0 = ms[k] := by simp [List.getD, hk]
  rw [hms]
  have hS4 : Kept (fun x => S x ∧ x < w.heap.size) w w4 := by
    refine ((Kept.of_below (S := fun x => S x ∧ x < w.heap.size) hbA).trans hk3 ?_).trans hk4 ?_
    · rintro x - ⟨h, -⟩ rfl; exact hSg h
    · rintro x - ⟨h, hl⟩; exact ⟨(hSF x h).2, hl⟩
  obtain ⟨n1, n2, n3, n4, n5, -⟩ := hn
  refine ⟨cs, rfl, ⟨fun x => S x ∧ x < w.heap.size, msgR.keep (msgR.bound hm) hS4, ?_⟩, ⟨.inl n1, n2, n3, ?_, ?_, _, hp4, ?_⟩, ?_⟩
  · rintro x ⟨h, hx⟩
    refine ⟨Nat.lt_of_lt_of_le hx hS4.size, .inl (hSF x h).1, ?_⟩
    rintro (rfl | ⟨n', v', h1, h2⟩)
    · exact (hSF _ h).2 rfl
    · rw [hp4] at h1
      simp at h1
      obtain ⟨rfl, rfl⟩ := h1
      simp [Value.ownBlock] at h2
      subst h2
      exact hSg h
  · rw [eraseIdx_len _ _ hk]; omega
  · intro m hm'; exact n5 m (List.mem_of_mem_eraseIdx hm')
  · refine (hr.keep (hk4.mono ?_)).own (fun x h => ⟨.inl (hSF x h).1, (hSF x h).2⟩) ⟨.inl hg.1, hg.2⟩ (Nat.zero_le _) hcap
    rintro x - (h | rfl)
    · exact ⟨(hSF x h).2, hSl x h⟩
    · exact ⟨hg.2, hgl⟩
  · refine ((Kept.of_below hbA).trans hk3 ?_).trans hk4 ?_
    · intro x _ h e; exact h (e ▸ hg.1)
    · intro x hx h; exact ⟨fun e => h (e ▸ n1), hx⟩

set_option maxRecDepth 100000 in
set_option maxHeartbeats 1000000 in
theorem take_out (O : Nat → Prop) (w : World) (p : Nat) (nodes : Int) (ms : List Msg) (i : Int) (hn : NetAt O w p nodes ms) (hi : inB ms i = false) :
    Calls Try.prog 21 #[.pointer (some ⟨p, 0, none⟩), .int .i64 i] w (TakeRet O p nodes ms i w) := by
  obtain ⟨n1, n2, n3, n4, n5, nv, n6, n7⟩ := id hn
  obtain ⟨na, ncap, rfl, g3, g4⟩ := sliceR.form n7.slice
  obtain ⟨kc, kf⟩ := box_cells n6
  have HF := Lib.hid hi
  have hnot : ¬ (0 ≤ i ∧ i < ms.length) := by unfold inB at hi; exact of_decide_eq_false hi
  have hpl := box_lt n6
  have hpn : ¬ p = w.heap.size := by omega
  have hb := bnew (Below.refl w.heap.size w) (.cells #[.int .i64 0, .int .i64 0, .int .i64 0, .slice none 0 0] 24)
  clear n5 hi
  by_cases h0 : i < 0
  · clear hnot
    go_enter Try.func21, Try.ntmps21
    go_wp2
    exact bodyPost_ret (v := .tuple #[.agg #[.int .i64 0, .int .i64 0, .int .i64 0, .slice none 0 0], .bool false]) (by simp [results, Try.results21, go_sem]) rfl (take_no hn HF hb)
  · have h1 : (ms.length : Int) ≤ i := by omega
    clear hnot
    go_enter Try.func21, Try.ntmps21
    go_wp2
    exact bodyPost_ret (v := .tuple #[.agg #[.int .i64 0, .int .i64 0, .int .i64 0, .slice none 0 0], .bool false]) (by simp [results, Try.results21, go_sem]) rfl (take_no hn HF hb)

theorem delete_at (S : Nat → Prop) (w : World) (g cap : Nat) (ms : List Msg) (k : Nat) (hk : k < ms.length) (hr : Row msgR 24 S w g cap ms) (hc : cap ≤ maxLen) :
    Calls Try.prog 31 #[.slice (some ⟨g, 0, none⟩) ms.length cap, .int .i64 k, .int .i64 ((k : Int) + 1)] w (Cut1 S g cap (ms.eraseIdx k) w) := by
  have h := delete_any S w g cap ms k hk hr hc
  rw [show ((k + 1 : Nat) : Int) = (k : Int) + 1 by omega] at h
  exact h
theorem own_zero {α : Type} {r : Rep α} {base : Nat} {e : TypeId} {F : Nat → Prop} {w : World} {a : Option Addr} {n cap : Nat} {xs : List α} (h : Own r base e F w (.slice a n cap) xs) (hn : 0 < xs.length) : ∃ g, a = some ⟨g, 0, none⟩ := by
  obtain ⟨S, css, hS, hv, hl, hr, ho⟩ := h
  rcases ho.2 with ⟨h1, h0⟩ | ⟨g', cap', cur, h1, -⟩
  · omega
  · simp at h1; exact ⟨g', h1.1⟩
theorem msgs_row {S : Nat → Prop} {w : World} {g cap : Nat} {l : List Msg} (h : Row msgR 24 S w g cap l) (k : Nat) (hk : k < l.length) :
    ∃ va vc, msgR.rel S w [.int .i64 l[k].kind, .int .i64 l[k].frm, .int .i64 l[k].to, .slice va l[k].bytes.length vc] l[k] ∧
      w.cell? ⟨g, k * 4, none⟩ = some (.int .i64 l[k].kind) ∧ w.cell? ⟨g, k * 4 + 1, none⟩ = some (.int .i64 l[k].frm) ∧ w.cell? ⟨g, k * 4 + 2, none⟩ = some (.int .i64 l[k].to) ∧
      w.cell? ⟨g, k * 4 + 3, none⟩ = some (.slice va l[k].bytes.length vc) := by
  obtain ⟨es, hrel, hca⟩ := h.at k hk
  obtain ⟨v, rfl, h1, h2, h3, h4⟩ := msgR.inv hrel
  obtain ⟨va, vc, rfl, -⟩ := sliceR.form h4
  rw [msgR.n] at hca
  exact ⟨va, vc, hrel, hca 0 _ rfl, hca 1 _ rfl, hca 2 _ rfl, hca 3 _ rfl⟩

set_option maxRecDepth 100000 in
set_option maxHeartbeats 1000000 in
theorem take_in (O : Nat → Prop) (w : World) (p : Nat) (nodes : Int) (ms : List Msg) (k : Nat) (hn : NetAt O w p nodes ms) (hk : k < ms.length) :
    Calls Try.prog 21 #[.pointer (some ⟨p, 0, none⟩), .int .i64 k] w (TakeRet O p nodes ms k w) := by
  obtain ⟨n1, n2, n3, n4, n5, nv, n6, n7⟩ := id hn
  obtain ⟨na, ncap, rfl, g3, g4⟩ := sliceR.form n7.slice
  obtain ⟨g, rfl⟩ := own_zero n7 (by omega)
  obtain ⟨-, -, hcm, hFg, S, hSF, hrow⟩ := n7.row
  obtain ⟨va, vc, hrel, c0, c1, c2, c3⟩ := msgs_row hrow k hk
  obtain ⟨hSg, hSl, -⟩ := hrow.facts
  obtain ⟨kc, kf⟩ := box_cells n6
  have hgl := hrow.lt
  have hpl := box_lt n6
  have hpn : ¬ p = w.heap.size := by omega
  have hpn1 : ¬ p = w.heap.size + 1 := by omega
  have hbn : ¬ g = w.heap.size := by omega
  have HR := Lib.hid hrel
  have HE := Lib.hid (eraseIdx_len ms k hk)
  clear n5 hrel
  generalize hm : ms[k] = m at c0 c1 c2 c3
  have HM := Lib.hid hm
  clear hm
  have hbA := bnew (bnew (Below.refl w.heap.size w) (.cells #[.int .i64 0, .int .i64 0, .int .i64 0, .slice none 0 0] 24)) (.cells #[.int .i64 m.kind, .int .i64 m.frm, .int .i64 m.to, .slice va m.bytes.length vc] 24)
  go_enter Try.func21, Try.ntmps21
  go_wp2_with fail
  refine (delete_at S _ g ncap ms k hk (hrow.keep (Kept.of_below hbA)) hcm).mono ?_
  rintro e w3 ⟨rfl, hr3, hk3⟩
  have b0 := box_kept hk3 (box_old (box_new w _)) (fun h => hbn h.symm)
  have b1 := box_kept (b := w.heap.size + 1) hk3 (by rw [← World.size_alloc w (.cells #[.int .i64 0, .int .i64 0, .int .i64 0, .slice none 0 0] 24)]; exact box_new _ _) (by omega)
  have b2 := box_kept hk3 (box_after hbA n6) (Ne.symm hFg.2)
  obtain ⟨d0, e0⟩ := box_cells b0
  obtain ⟨d1, e1⟩ := box_cells b1
  obtain ⟨d2, e2⟩ := box_cells b2
  go_wp2_with fail
  have HR2 : msgR.rel S w [.int .i64 m.kind, .int .i64 m.frm, .int .i64 m.to, .slice va m.bytes.length vc] ms[k] := by
    have h := HR.out
    have h2 := HM.out
    rw [h2] at h ⊢
    exact h
  refine bodyPost_ret (v := .tuple #[.agg #[.int .i64 m.kind, .int .i64 m.frm, .int .i64 m.to, .slice va m.bytes.length vc], .bool true]) (by simp [results, Try.results21, go_sem, d0]) rfl
    (take_yes hn hk hSF hSl hFg hgl hcm HR2 hSg hbA hr3 hk3 ?_ ?_)
  · exact (((((Kept.refl _ _).setCell (fun _ h => h.1 rfl) _).setCell (fun _ h => absurd h.2 (Nat.lt_irrefl _)) _).setCell (fun _ h => absurd h.2 (Nat.lt_irrefl _)) _).setCell (fun _ h => absurd h.2 (Nat.lt_irrefl _)) _).setCell (fun _ h => absurd h.2 (Nat.lt_irrefl _)) _
  · refine box_set_far (box_set_far (box_set_far (box_set_far ?_ hpn) hpn) hpn) hpn
    simpa using box_set (i := 1) (v := .slice (some ⟨g, 0, none⟩) (ms.eraseIdx k).length ncap) b2

theorem take_any (O : Nat → Prop) (w : World) (p : Nat) (nodes : Int) (ms : List Msg) (i : Int) (hn : NetAt O w p nodes ms) :
    Calls Try.prog 21 #[.pointer (some ⟨p, 0, none⟩), .int .i64 i] w (TakeRet O p nodes ms i w) := by
  by_cases h : 0 ≤ i ∧ i < ms.length
  · obtain ⟨k, rfl⟩ := Int.eq_ofNat_of_zero_le h.1
    exact take_in O w p nodes ms k hn (by omega)
  · exact take_out O w p nodes ms i hn (decide_eq_false h)

set_option maxHeartbeats 1000000 in
theorem drop_any (O : Nat → Prop) (w : World) (p : Nat) (nodes : Int) (ms : List Msg) (i : Int) (hn : NetAt O w p nodes ms) :
    Calls Try.prog 28 #[.pointer (some ⟨p, 0, none⟩), .int .i64 i] w (NetRet O p nodes (.bool (inB ms i)) (withoutL ms i) w) := by
  go_enter Try.func28, Try.ntmps28
  go_wp2_with fail
  refine (take_any O w p nodes ms i hn).mono ?_
  rintro e w1 ⟨cs, rfl, ⟨S, hm, -⟩, hn1, hk1⟩
  obtain ⟨v, rfl, -, -, -, h4⟩ := msgR.inv hm
  obtain ⟨va, vc, rfl, -⟩ := sliceR.form h4
  generalize takeM ms i = m at *
  go_wp2_with fail
  go_ret
  have hb := bnew (Below.refl w1.heap.size w1) (.cells #[.int .i64 m.kind, .int .i64 m.frm, .int .i64 m.to, .slice va m.bytes.length vc] 24)
  exact ⟨rfl, hn1.keep (Kept.of_below hb), hk1.alloc _⟩
end Go.Proofs.Ytccckjaefnojaaa
