/- The permutation at the big prime. -/
import Derived.Test.YthggdacincfplaaGreatDoorFieldB
namespace Go.Proofs.YthggdacincfplaaGreatDoor
open Go.ChangeShapes Go.WideShapes Go.ChangeAt Go.RowKit

abbrev T3 := Int × Int × Int
def cstP (r i : Int) : Int := redP (IntKind.u64.wrap ((3 * r + i + 1) * 11400714819323198485))
def mixS (s : T3) : T3 := (addP s.1 (addP (addP s.1 s.2.1) s.2.2), addP s.2.1 (addP (addP s.1 s.2.1) s.2.2), addP s.2.2 (addP (addP s.1 s.2.1) s.2.2))
def sbox (r i x : Int) : Int := powP (addP x (cstP r i)) 7
def permTo (s : T3) : Nat → T3
  | 0 => s
  | k + 1 => mixS (sbox k 0 (permTo s k).1, sbox k 1 (permTo s k).2.1, sbox k 2 (permTo s k).2.2)
def permS (s : T3) : T3 := permTo s 8
/-- All three are words. -/
def Words3 (s : T3) : Prop := (0 ≤ s.1 ∧ s.1 < 18446744073709551616) ∧ (0 ≤ s.2.1 ∧ s.2.1 < 18446744073709551616) ∧ (0 ≤ s.2.2 ∧ s.2.2 < 18446744073709551616)
theorem addP_word (a b : Int) : 0 ≤ addP a b ∧ addP a b < 18446744073709551616 := by
  have := addP_in a b
  omega
theorem mixS_words (s : T3) : Words3 (mixS s) := by
  unfold Words3 mixS
  exact ⟨addP_word _ _, addP_word _ _, addP_word _ _⟩
theorem permTo_words {s : T3} (h : Words3 s) : ∀ k, Words3 (permTo s k)
  | 0 => h
  | _ + 1 => mixS_words _
theorem sbox_word (r i x : Int) : 0 ≤ sbox r i x ∧ sbox r i x < 18446744073709551616 := by
  have := powP_in (addP x (cstP r i)) 7
  unfold sbox; omega

theorem Reduce_big (n : Int) (h0 : 0 ≤ n) (w : World) : Calls Tryz.prog 282 #[.agg #[.int .u64 18446744069414584321], .int .u64 n] w fun e w' => e = .returned (.int .u64 (redP n)) ∧ Below w.heap.size w w' := by
  go_enter Tryz.func282, Tryz.ntmps282
  go_wp2_with fail
  refine (valid_big _).mono ?_
  rintro e w1 ⟨rfl, hb1⟩
  obtain ⟨x0, x1⟩ := box_cells (box_after hb1 (box_new w _))
  go_wp2_with fail
  refine (reduced_big n h0 _).mono ?_
  rintro e w2 ⟨rfl, hb2⟩
  go_wp2_with fail
  go_ret
  exact ⟨rfl, bnext (bnext (bnew (Below.refl _ _) _) hb1) hb2⟩

set_option maxHeartbeats 1000000 in
theorem constant_big (r i : Int) (r0 : 0 ≤ r) (r1 : r < 8) (i0 : 0 ≤ i) (i1 : i ≤ 2) (w : World) :
    Calls Tryz.prog 237 #[.int .u64 18446744069414584321, .int .i64 r, .int .i64 i] w fun e w' => e = .returned (.int .u64 (cstP r i)) ∧ Below w.heap.size w w' := by
  have hw : 0 ≤ IntKind.u64.wrap ((3 * r + i + 1) * 11400714819323198485) := by rw [IntKind.wrap_u64]; omega
  go_enter Tryz.func237, Tryz.ntmps237
  go_wp2_with fail
  refine (Reduce_big _ hw _).mono ?_
  rintro e w1 ⟨rfl, hb1⟩
  go_wp2_with fail
  go_ret
  exact ⟨rfl, hb1⟩

/-- The state at block B, the prime at block B + 2; blocks below B are as they were. -/
def MixAt (w : World) (a b c : Int) (w' : World) : Prop :=
  Below w.heap.size w w' ∧ w.heap.size + 2 < w'.heap.size ∧ (∀ o, w'.cell? ⟨w.heap.size, o, none⟩ = (#[.int .u64 a, .int .u64 b, .int .u64 c] : Array Value)[o]?) ∧ (∀ o, w'.cell? ⟨w.heap.size + 2, o, none⟩ = (#[.int .u64 18446744069414584321] : Array Value)[o]?) ∧
    (∀ o, o < 3 → (w'.cell? ⟨w.heap.size + 1, o, none⟩).isSome = true) ∧ (∀ o, w'.frozen? ⟨w.heap.size + 1, o, none⟩ = false)
theorem MixAt.drew {w w' : World} {a b c : Int} (h : MixAt w a b c w') : MixAt w a b c w'.drew := ⟨h.1.drew, h.2.1, h.2.2.1, h.2.2.2.1, h.2.2.2.2.1, h.2.2.2.2.2⟩
theorem MixAt.next {w w1 w2 : World} {a b c : Int} (h : MixAt w a b c w1) (hb : Below w1.heap.size w1 w2) : MixAt w a b c w2 := by
  obtain ⟨h1, h2, h3, h4, h5, h6⟩ := h
  have hz := hb.size
  exact ⟨bnext h1 hb, by omega, fun o => (hb.cell (p := ⟨_, o, none⟩) (show w.heap.size < w1.heap.size by omega)).trans (h3 o), fun o => (hb.cell (p := ⟨_, o, none⟩) h2).trans (h4 o),
    fun o ho => by rw [hb.cell (p := ⟨w.heap.size + 1, o, none⟩) (show w.heap.size + 1 < w1.heap.size by omega)]; exact h5 o ho, fun o => (hb.frozen (p := ⟨w.heap.size + 1, o, none⟩) (show w.heap.size + 1 < w1.heap.size by omega)).trans (h6 o)⟩
theorem read3 {w : World} {b : Nat} {u0 u1 u2 x y z : Value} (k0 : w.cell? ⟨b, 0, none⟩ = some u0) (k1 : w.cell? ⟨b, 1, none⟩ = some u1) (k2 : w.cell? ⟨b, 2, none⟩ = some u2) :
    (((w.setCell ⟨b, 0, none⟩ x).setCell ⟨b, 1, none⟩ y).setCell ⟨b, 2, none⟩ z).cell? ⟨b, 0, none⟩ = some x ∧ (((w.setCell ⟨b, 0, none⟩ x).setCell ⟨b, 1, none⟩ y).setCell ⟨b, 2, none⟩ z).cell? ⟨b, 1, none⟩ = some y ∧
    (((w.setCell ⟨b, 0, none⟩ x).setCell ⟨b, 1, none⟩ y).setCell ⟨b, 2, none⟩ z).cell? ⟨b, 2, none⟩ = some z := by
  have d01 : (⟨b, 0, none⟩ : Addr) ≠ ⟨b, 1, none⟩ := by simp
  have d02 : (⟨b, 0, none⟩ : Addr) ≠ ⟨b, 2, none⟩ := by simp
  have d12 : (⟨b, 1, none⟩ : Addr) ≠ ⟨b, 2, none⟩ := by simp
  refine ⟨?_, ?_, ?_⟩
  · rw [World.cell?_setCell_other _ _ _ _ d02.symm, World.cell?_setCell_other _ _ _ _ d01.symm]; exact World.cell?_setCell_same _ _ _ k0
  · rw [World.cell?_setCell_other _ _ _ _ d12.symm]; exact World.cell?_setCell_same _ _ _ ((World.cell?_setCell_other _ _ _ _ d01).trans k1)
  · exact World.cell?_setCell_same _ _ _ ((World.cell?_setCell_other _ _ _ _ d12).trans ((World.cell?_setCell_other _ _ _ _ d02).trans k2))
theorem MixAt.store {w w' : World} {a b c : Int} (h : MixAt w a b c w') (x y z : Value) : MixAt w a b c (((w'.setCell ⟨w.heap.size + 1, 0, none⟩ x).setCell ⟨w.heap.size + 1, 1, none⟩ y).setCell ⟨w.heap.size + 1, 2, none⟩ z) := by
  obtain ⟨h1, h2, h3, h4, h5, h6⟩ := h
  obtain ⟨u0, k0⟩ := Option.isSome_iff_exists.1 (h5 0 (by omega))
  obtain ⟨u1, k1⟩ := Option.isSome_iff_exists.1 (h5 1 (by omega))
  obtain ⟨u2, k2⟩ := Option.isSome_iff_exists.1 (h5 2 (by omega))
  obtain ⟨r0, r1, r2⟩ := read3 (x := x) (y := y) (z := z) k0 k1 k2
  have far : ∀ (q o : Nat), q ≠ w.heap.size + 1 → (((w'.setCell ⟨w.heap.size + 1, 0, none⟩ x).setCell ⟨w.heap.size + 1, 1, none⟩ y).setCell ⟨w.heap.size + 1, 2, none⟩ z).cell? ⟨q, o, none⟩ = w'.cell? ⟨q, o, none⟩ := fun q o hq => by
    rw [World.cell?_setCell_far _ _ _ _ (fun e => hq e.symm), World.cell?_setCell_far _ _ _ _ (fun e => hq e.symm), World.cell?_setCell_far _ _ _ _ (fun e => hq e.symm)]
  refine ⟨((h1.setCell (Nat.le_succ _) _).setCell (Nat.le_succ _) _).setCell (Nat.le_succ _) _, by rw [World.size_setCell, World.size_setCell, World.size_setCell]; exact h2, fun o => (far _ o (by omega)).trans (h3 o), fun o => (far _ o (by omega)).trans (h4 o), fun o ho => ?_, fun o => by rw [World.frozen?_setCell, World.frozen?_setCell, World.frozen?_setCell]; exact h6 o⟩
  match o, ho with
  | 0, _ => rw [r0]; rfl
  | 1, _ => rw [r1]; rfl
  | 2, _ => rw [r2]; rfl
theorem three_new (w : World) (a b c : Obj) : (((w.alloc a).alloc b).alloc c).heap[w.heap.size + 2]? = some c ∧ (((w.alloc a).alloc b).alloc c).heap[w.heap.size + 1]? = some b ∧ (((w.alloc a).alloc b).alloc c).heap[w.heap.size]? = some a := by
  have e1 : (w.alloc a).heap.size = w.heap.size + 1 := World.size_alloc ..
  have e2 : ((w.alloc a).alloc b).heap.size = w.heap.size + 2 := by rw [World.size_alloc, e1]
  exact ⟨e2 ▸ box_new _ c, box_old (e1 ▸ box_new _ b), box_old (box_old (box_new _ a))⟩
theorem MixAt.start (w : World) (a b c : Int) : MixAt w a b c (((w.alloc (.cells #[.int .u64 a, .int .u64 b, .int .u64 c] 216)).alloc (.cells #[.int .u64 0, .int .u64 0, .int .u64 0] 216)).alloc (.cells #[.int .u64 18446744069414584321] 169)) := by
  obtain ⟨q1, q2, q3⟩ := three_new w (.cells #[.int .u64 a, .int .u64 b, .int .u64 c] 216) (.cells #[.int .u64 0, .int .u64 0, .int .u64 0] 216) (.cells #[.int .u64 18446744069414584321] 169)
  refine ⟨bnew (bnew (bnew (Below.refl _ _) _) _) _, box_lt q1, (box_cells q3).1, (box_cells q1).1, fun o ho => ?_, (box_cells q2).2⟩
  rw [(box_cells q2).1]
  match o, ho with
  | 0, _ => rfl
  | 1, _ => rfl
  | 2, _ => rfl
set_option maxRecDepth 100000 in
set_option maxHeartbeats 1000000 in
theorem mix_big (a b c : Int) (a0 : 0 ≤ a) (b0 : 0 ≤ b) (c0 : 0 ≤ c) (w : World) :
    Calls Tryz.prog 238 #[.int .u64 18446744069414584321, .agg #[.int .u64 a, .int .u64 b, .int .u64 c]] w
      fun e w' => e = .returned (.agg #[.int .u64 (mixS (a, b, c)).1, .int .u64 (mixS (a, b, c)).2.1, .int .u64 (mixS (a, b, c)).2.2]) ∧ Below w.heap.size w w' := by
  have hab := addP_word a b
  go_enter Tryz.func238, Tryz.ntmps238
  go_wp2_with fail
  have hst : MixAt w a b c (((w.alloc (.cells #[.int .u64 a, .int .u64 b, .int .u64 c] 216)).alloc (.cells #[.int .u64 0, .int .u64 0, .int .u64 0] 216)).alloc (.cells #[.int .u64 18446744069414584321] 169)) := MixAt.start w a b c
  go_region_held3 (fun w' => Below w.heap.size w w' ∧ w.heap.size + 2 < w'.heap.size ∧ (∀ o, w'.cell? ⟨w.heap.size, o, none⟩ = (#[.int .u64 a, .int .u64 b, .int .u64 c] : Array Value)[o]?) ∧ (∀ o, w'.cell? ⟨w.heap.size + 2, o, none⟩ = (#[.int .u64 18446744069414584321] : Array Value)[o]?) ∧
    (∀ o, o < 3 → (w'.cell? ⟨w.heap.size + 1, o, none⟩).isSome = true) ∧ (∀ o, w'.frozen? ⟨w.heap.size + 1, o, none⟩ = false))
    (first
      | exact hst.drew
      | (have hh := (‹Below w.heap.size w _ ∧ _ < _ ∧ _› : MixAt w a b c _); exact MixAt.next hh hbc))
    (first
      | (go_at_call_of 153 c; refine (Add_big (addP a b) c hab.1 c0 _).mono ?_; rintro e w2 ⟨rfl, hbc⟩)
      | (go_at_call 153; refine (Add_big a b a0 b0 _).mono ?_; rintro e w2 ⟨rfl, hbc⟩))
  have hst2 := (‹Below w.heap.size w _ ∧ _ < _ ∧ _› : MixAt w a b c _)
  clear hst
  obtain ⟨m, hm⟩ : ∃ m : Int, addP (addP a b) c = m := ⟨_, rfl⟩
  have m0 : 0 ≤ m := by have := addP_word (addP a b) c; omega
  have HM := Lib.hid hm
  rw [hm]
  clear hm
  go_wp2_with fail
  go_region_held3 (fun w' => Below w.heap.size w w' ∧ w.heap.size + 2 < w'.heap.size ∧ (∀ o, w'.cell? ⟨w.heap.size, o, none⟩ = (#[.int .u64 a, .int .u64 b, .int .u64 c] : Array Value)[o]?) ∧ (∀ o, w'.cell? ⟨w.heap.size + 2, o, none⟩ = (#[.int .u64 18446744069414584321] : Array Value)[o]?) ∧
    (∀ o, o < 3 → (w'.cell? ⟨w.heap.size + 1, o, none⟩).isSome = true) ∧ (∀ o, w'.frozen? ⟨w.heap.size + 1, o, none⟩ = false))
    (first
      | exact MixAt.drew hst2
      | (have hh := (‹Below w.heap.size w _ ∧ _ < _ ∧ _› : MixAt w a b c _); exact MixAt.next hh hbc)
      | (have hh := (‹Below w.heap.size w _ ∧ _ < _ ∧ _› : MixAt w a b c _); exact MixAt.store hh _ _ _))
    (first
      | (go_at_call_of 153 a; refine (Add_big a m a0 m0 _).mono ?_; rintro e w3 ⟨rfl, hbc⟩)
      | (go_at_call_of 153 b; refine (Add_big b m b0 m0 _).mono ?_; rintro e w3 ⟨rfl, hbc⟩)
      | (go_at_call_of 153 c; refine (Add_big c m c0 m0 _).mono ?_; rintro e w3 ⟨rfl, hbc⟩)
      | (have hh := ‹Below w.heap.size w _ ∧ _ < _ ∧ _›; obtain ⟨u0, k0⟩ := Option.isSome_iff_exists.1 (hh.2.2.2.2.1 0 (by omega)); obtain ⟨u1, k1⟩ := Option.isSome_iff_exists.1 (hh.2.2.2.2.1 1 (by omega)); obtain ⟨u2, k2⟩ := Option.isSome_iff_exists.1 (hh.2.2.2.2.1 2 (by omega)); go_simp))
  have hfin := (‹Below w.heap.size w _ ∧ _ < _ ∧ _›).1
  obtain ⟨r0, r1, r2⟩ := read3 (x := .int .u64 (addP a m)) (y := .int .u64 (addP b m)) (z := .int .u64 (addP c m)) k0 k1 k2
  go_wp2_with fail
  refine bodyPost_ret (v := .agg #[.int .u64 (addP a m), .int .u64 (addP b m), .int .u64 (addP c m)]) (by simp [results, Tryz.results238, go_sem, r0, r1, r2]) rfl ⟨?_, hfin⟩
  unfold mixS
  rw [HM.out]
end Go.Proofs.YthggdacincfplaaGreatDoor
