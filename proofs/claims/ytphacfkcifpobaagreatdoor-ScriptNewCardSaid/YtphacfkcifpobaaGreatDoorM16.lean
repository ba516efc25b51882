/- The state of a chain of the program: what one store does to its memory. -/
import Derived.Test.YtphacfkcifpobaaGreatDoorM15
import Derived.Test.YtphacfkcifpobaaGreatDoorTxT
set_option maxRecDepth 100000
namespace Go.Proofs.YtphacfkcifpobaaGreatDoor
open Go.ChangeShapes Go.WideShapes Go.ChangeAt Go.RowKit Go.Sort
theorem Own.cut {α : Type} {r : Rep α} {base : Nat} {e : TypeId} {F : Nat → Prop} {w : World} {a : Option Addr} {l c : Nat} {xs : List α} (h : Own r base e F w (.slice a l c) xs) (k : Nat) (hk : k ≤ xs.length) : Own r base e F w (.slice a k c) (xs.take k) := by
 obtain ⟨S, css, hS, hv, hl, hr, ho⟩ := h; have hall := all_len hl hr
 refine ⟨S, css.take k, hS, fun j hj => hv j (by cases a <;> exact hj), by simp [hl], ?_, ?_⟩
 · intro i cs x hc hx
   rw [List.getElem?_take] at hc hx
   split at hc
   · rw [if_pos (by assumption)] at hx; exact hr i cs x hc hx
   · simp at hc
 · have hkl : (xs.take k).length = k := by rw [List.length_take]; omega
   rw [hkl]
   refine ⟨by rw [flatten_len (fun cs hc => hall cs (List.mem_of_mem_take hc)), List.length_take, hl, Nat.min_eq_left hk], ?_⟩
   rcases ho.2 with ⟨h1, h0⟩ | ⟨g, cap, cur, h1, hb, hg, h2, h3, h4, h5⟩
   · simp only [Value.slice.injEq] at h1
     obtain ⟨rfl, rfl, rfl⟩ := h1
     have : k = 0 := by omega
     exact .inl ⟨by rw [this], this⟩
   · simp only [Value.slice.injEq] at h1
     obtain ⟨rfl, rfl, rfl⟩ := h1
     refine .inr ⟨g, c, cur, rfl, hb, hg, by omega, h3, h4, ?_⟩
     have hle : k * r.n ≤ xs.length * r.n := Nat.mul_le_mul_right _ hk; rw [flatten_take css hall, ← h5, List.take_take, Nat.min_eq_left hle]
section
variable {p : Nat} {I : Nat → Prop} {w w' w2 : World} {r : RuM} {s : PoM} {v : PoV}
theorem PoD.mono {I' : Nat → Prop} (h : PoD I w s v) (hI : ∀ k, I k → I' k) : PoD I' w s v :=
 ⟨numsR.mono h.tree fun k _ => hI k, h.leaves, h.marks, (accsR).mono h.book fun k _ => hI k, h.hidden, h.roots, h.past.mono fun k _ hk => hk.elim (fun h => .inl (hI k h)) .inr⟩
theorem PoAt.not_p (h : PoAt p I w r s v) {k : Nat} (hk : I k) : k ≠ p := fun e => h.free p (.inl rfl) (e ▸ hk)
theorem PoAt.dataK (h : PoAt p I w r s v) (hk : Kept (fun k => k ≠ p) w w') : PoD I w' s v :=
 h.data.keep hk (fun _ hk => h.not_p hk) (Ne.symm h.ne_sb) (Ne.symm h.ne_mb) (fun _ e hk => h.ne_la (hk ▸ e)) (fun _ e hk => h.ne_ra (hk ▸ e)) (fun _ e hk => h.ne_pa (hk ▸ e))
theorem kept_one (w : World) (p i : Nat) (u : Value) : Kept (fun k => k ≠ p) w (w.setCell ⟨p, i, none⟩ u) := (Kept.refl _ _).setCell (fun _ h => h rfl) _
theorem PoAt.setHidden (h : PoAt p I w r s v) (x : Int) (hx : okU x) : PoAt p I (w.setCell ⟨p, 15, none⟩ (.int .u64 x)) r { s with hidden := x } v := by
 have hk := kept_one w p 15 (.int .u64 x); have d := h.dataK hk
 exact ⟨box_set h.cell, ⟨d.tree, d.leaves, d.marks, d.book, hx, d.roots, d.past⟩, h.apart, h.free, fun k hi => Nat.lt_of_lt_of_le (h.lt k hi) hk.size⟩
theorem PoAt.grow (h : PoAt p I w r s v) {B : Nat} (hB : ∀ k, PoMut p v k → k < B) : PoAt p (fun k => I k ∨ (B ≤ k ∧ k < w.heap.size)) w r s v :=
 ⟨h.cell, h.data.mono fun _ => .inl, h.apart, fun k hm hi => by
   rcases hi with hi | ⟨h1, h2⟩
   · exact h.free k hm hi
   · have := hB k hm; omega,
  fun k hi => hi.elim (h.lt k) (·.2)⟩
theorem PoAt.setBook (h : PoAt p I w r s v) {bk : List AcM} {ba : Option Addr} {bc : Nat} (hr : accsR.rel I w [.slice ba bk.length bc] bk) :
   PoAt p I (w.setCell ⟨p, 14, none⟩ (.slice ba bk.length bc)) r { s with book := bk } { v with ba := ba, bc := bc } := by
 have hk := kept_one w p 14 (.slice ba bk.length bc); have d := h.dataK hk
 exact ⟨box_set h.cell, ⟨d.tree, d.leaves, d.marks, (accsR).keep hr (hk.mono fun _ _ hi => h.not_p hi), d.hidden, d.roots, d.past⟩, h.apart, h.free, fun k hi => Nat.lt_of_lt_of_le (h.lt k hi) hk.size⟩
theorem cells_at {w : World} {q : Nat} {old : List Value} {e : TypeId} (h : w.heap[q]? = some (.cells old.toArray e (0, 0))) (o : Nat) (vs : List Value) (hl : o + vs.length ≤ old.length) : (w.setCells q o vs).heap[q]? = some (.cells (old.take o ++ vs ++ old.drop (o + vs.length)).toArray e (0, 0)) := by
 rw [setCells_setRow q e vs o w old.toArray h (by simpa using hl)]
 exact setRow_heap w q old.toArray _ e (0, 0) h
theorem PoAt.setTree (h : PoAt p I w r s v) {tr : FrM} {ta : Option Addr} {tc : Nat} (hr : numsR.rel I w [.slice ta tr.left.length tc] tr.left) :
   PoAt p I (w.setCells p 9 [.int .i64 tr.depth, .int .i64 tr.count, .slice ta tr.left.length tc]) r { s with tree := tr } { v with ta := ta, tc := tc } := by
 have hk := kept_cells w (q := p) (S := fun k => k ≠ p) (fun h => h rfl) [.int .i64 tr.depth, .int .i64 tr.count, .slice ta tr.left.length tc] 9
 have d := h.dataK hk
 refine ⟨?_, ⟨numsR.keep hr (hk.mono fun _ _ hi => h.not_p hi), d.leaves, d.marks, d.book, d.hidden, d.roots, d.past⟩, h.apart, h.free, fun k hi => Nat.lt_of_lt_of_le (h.lt k hi) hk.size⟩
 exact cells_at (old := (poCells r s v).toList) h.cell 9 [.int .i64 tr.depth, .int .i64 tr.count, .slice ta tr.left.length tc] (by show 9 + 3 ≤ 18; omega)
theorem PoAt.marksTo (h : PoAt p I w r s v) {l : List Int} (hm : MkAt v.sb v.mb w' l) (hk : Kept (fun k => k ≠ v.mb) w w') : PoAt p I w' r { s with marks := l } v := by
 have hI : ∀ k, I k → k ≠ v.mb := fun k hi e => h.free v.mb (.inr (.inr (.inl rfl))) (e ▸ hi)
 obtain ⟨m1, m2, m3⟩ := h.data.mb_row
 exact ⟨(hk.block p (box_lt h.cell) h.ne_mb).trans h.cell,
   ⟨numsR.keep h.data.tree (hk.mono fun k _ => hI k), h.data.leaves.keep (hk.mono fun _ _ e hk => m1 (hk ▸ e)), hm, (accsR).keep h.data.book (hk.mono fun k _ => hI k), h.data.hidden, h.data.roots.keep (hk.mono fun _ _ e hk => m2 (hk ▸ e)),
    h.data.past.keep (hk.mono fun k _ e => e.elim (hI k) fun e hk => m3 (hk ▸ e))⟩, h.apart, h.free, fun k hi => Nat.lt_of_lt_of_le (h.lt k hi) hk.size⟩
theorem PoAt.leavesTo (h : PoAt p I w r s v) {F : Nat → Prop} {u : Value} {xs : List Int} (ho : Own u64R 0 24 F w2 u xs) (hk : Kept (fun k => blkO v.la ≠ some k) w w2) (hb : u.ownBlock = blkO v.la ∨ u.ownBlock = some w.heap.size) :
   ∃ a c, u = .slice a xs.length c ∧ (∀ k, blkO a = some k → blkO v.la = some k ∨ k = w.heap.size) ∧ PoAt p I (w2.setCell ⟨p, 12, none⟩ u) r { s with leaves := xs } { v with la := a, lc := c } := by
 obtain ⟨a, c, rfl, -, -⟩ := own_form ho; rw [own_blk] at hb
 have hor : ∀ k, blkO a = some k → blkO v.la = some k ∨ k = w.heap.size := fun k e => by
   rcases hb with hb | hb
   · exact .inl (hb ▸ e)
   · rw [hb] at e; exact .inr (Option.some.inj e).symm
 have hml := h.mut_lt
 have h2 : PoD I w2 { s with leaves := xs } { v with la := a, lc := c } := by
   have ht := ho.tight; rw [own_blk] at ht; have hmb := h.data.mb_row.1; have hsb := h.data.sb_row.1
   exact ⟨numsR.keep h.data.tree (hk.mono fun k _ hi e => h.free k (.inr (.inr (.inr (.inl e)))) hi), ht, h.data.marks.keep hk hsb hmb, (accsR).keep h.data.book (hk.mono fun k _ hi e => h.free k (.inr (.inr (.inr (.inl e)))) hi), h.data.hidden,
     h.data.roots.keep (hk.mono fun k _ e e' => h.apart k e' e), h.data.past.keep (hk.mono fun k _ e e' => e.elim (fun hi => h.free k (.inr (.inr (.inr (.inl e')))) hi) fun e => (h.data.pa_row k e).1 e')⟩
 have hc2 : w2.heap[p]? = some (.cells (poCells r s v) 158 (0, 0)) := (hk.block p (box_lt h.cell) h.ne_la).trans h.cell
 have hap : ∀ k, blkO a = some k → blkO v.ra = some k → False := fun k e e' => by
   rcases hor k e with h1 | rfl
   · exact h.apart k h1 e'
   · have := hml _ (.inr (.inr (.inr (.inr (.inl e'))))); omega
 have hfr : ∀ k, PoMut p { v with la := a, lc := c } k → ¬ I k := fun k hm hi => by
   rcases hm with e | e | e | e | e | e
   · exact h.free k (.inl e) hi
   · exact h.free k (.inr (.inl e)) hi
   · exact h.free k (.inr (.inr (.inl e))) hi
   · rcases hor k e with h1 | rfl
     · exact h.free k (.inr (.inr (.inr (.inl h1)))) hi
     · have := h.lt _ hi; omega
   · exact h.free k (.inr (.inr (.inr (.inr (.inl e))))) hi
   · exact h.free k (.inr (.inr (.inr (.inr (.inr e))))) hi
 have hnp : blkO a ≠ some p := fun e => by
   rcases hor p e with h1 | h1
   · exact h.ne_la h1
   · have := box_lt h.cell; omega
 refine ⟨a, c, rfl, hor, box_set hc2, ?_, hap, hfr, fun k hi => Nat.lt_of_lt_of_le (h.lt k hi) (Nat.le_trans hk.size (kept_one w2 p 12 _).size)⟩
 exact h2.keep (kept_one w2 p 12 _) (fun _ hi => h.not_p hi) (Ne.symm h.ne_sb) (Ne.symm h.ne_mb) (fun _ e hk => hnp (hk ▸ e)) (fun _ e hk => h.ne_ra (hk ▸ e)) (fun _ e hk => h.ne_pa (hk ▸ e))
theorem PoAt.rootsTo (h : PoAt p I w r s v) {F : Nat → Prop} {u : Value} {xs : List Int} (ho : Own u64R 0 24 F w2 u xs) (hk : Kept (fun k => blkO v.ra ≠ some k) w w2) (hb : u.ownBlock = blkO v.ra ∨ u.ownBlock = some w.heap.size) :
   ∃ a c, u = .slice a xs.length c ∧ (∀ k, blkO a = some k → blkO v.ra = some k ∨ k = w.heap.size) ∧ PoAt p I (w2.setCell ⟨p, 16, none⟩ u) r { s with roots := xs } { v with ra := a, rc := c } := by
 obtain ⟨a, c, rfl, -, -⟩ := own_form ho; rw [own_blk] at hb
 have hor : ∀ k, blkO a = some k → blkO v.ra = some k ∨ k = w.heap.size := fun k e => by
   rcases hb with hb | hb
   · exact .inl (hb ▸ e)
   · rw [hb] at e; exact .inr (Option.some.inj e).symm
 have hml := h.mut_lt
 have h2 : PoD I w2 { s with roots := xs } { v with ra := a, rc := c } := by
   have ht := ho.tight; rw [own_blk] at ht; have hmb := h.data.mb_row.2.1; have hsb := h.data.sb_row.2.1
   exact ⟨numsR.keep h.data.tree (hk.mono fun k _ hi e => h.free k (.inr (.inr (.inr (.inr (.inl e))))) hi), h.data.leaves.keep (hk.mono fun k _ e e' => h.apart k e e'), h.data.marks.keep hk hsb hmb, (accsR).keep h.data.book (hk.mono fun k _ hi e => h.free k (.inr (.inr (.inr (.inr (.inl e))))) hi), h.data.hidden,
     ht, h.data.past.keep (hk.mono fun k _ e e' => e.elim (fun hi => h.free k (.inr (.inr (.inr (.inr (.inl e'))))) hi) fun e => (h.data.pa_row k e).2 e')⟩
 have hc2 : w2.heap[p]? = some (.cells (poCells r s v) 158 (0, 0)) := (hk.block p (box_lt h.cell) h.ne_ra).trans h.cell
 have hap : ∀ k, blkO v.la = some k → blkO a = some k → False := fun k e' e => by
   rcases hor k e with h1 | rfl
   · exact h.apart k e' h1
   · have := hml _ (.inr (.inr (.inr (.inl e')))); omega
 have hfr : ∀ k, PoMut p { v with ra := a, rc := c } k → ¬ I k := fun k hm hi => by
   rcases hm with e | e | e | e | e | e
   · exact h.free k (.inl e) hi
   · exact h.free k (.inr (.inl e)) hi
   · exact h.free k (.inr (.inr (.inl e))) hi
   · exact h.free k (.inr (.inr (.inr (.inl e)))) hi
   · rcases hor k e with h1 | rfl
     · exact h.free k (.inr (.inr (.inr (.inr (.inl h1))))) hi
     · have := h.lt _ hi; omega
   · exact h.free k (.inr (.inr (.inr (.inr (.inr e))))) hi
 have hnp : blkO a ≠ some p := fun e => by
   rcases hor p e with h1 | h1
   · exact h.ne_ra h1
   · have := box_lt h.cell; omega
 refine ⟨a, c, rfl, hor, box_set hc2, ?_, hap, hfr, fun k hi => Nat.lt_of_lt_of_le (h.lt k hi) (Nat.le_trans hk.size (kept_one w2 p 16 _).size)⟩
 exact h2.keep (kept_one w2 p 16 _) (fun _ hi => h.not_p hi) (Ne.symm h.ne_sb) (Ne.symm h.ne_mb) (fun _ e hk => h.ne_la (hk ▸ e)) (fun _ e hk => hnp (hk ▸ e)) (fun _ e hk => h.ne_pa (hk ▸ e))
theorem PoAt.pastTo (h : PoAt p I w r s v) {u : Value} {xs : List BefM} (ho : Own befR 0 300 (fun k => (I k ∨ blkO v.pa = some k) ∨ w.heap.size ≤ k) w2 u xs) (hk : Kept (fun k => blkO v.pa ≠ some k) w w2) (hb : u.ownBlock = blkO v.pa ∨ u.ownBlock = some w.heap.size) :
   ∃ a c I', u = .slice a xs.length c ∧ (∀ k, blkO a = some k → blkO v.pa = some k ∨ k = w.heap.size) ∧ (∀ k, I k → I' k) ∧ (∀ k, I' k → I k ∨ blkO v.pa = some k ∨ w.heap.size ≤ k) ∧ PoAt p I' (w2.setCell ⟨p, 17, none⟩ u) r { s with past := xs } { v with pa := a, pc := c } := by
 obtain ⟨a, c, rfl, -, -⟩ := own_form ho; rw [own_blk] at hb
 have hor : ∀ k, blkO a = some k → blkO v.pa = some k ∨ k = w.heap.size := fun k e => by
   rcases hb with hb | hb
   · exact .inl (hb ▸ e)
   · rw [hb] at e; exact .inr (Option.some.inj e).symm
 have hml := h.mut_lt
 have hpI : ∀ k, blkO v.pa = some k → ¬ I k := fun k e => h.free k (.inr (.inr (.inr (.inr (.inr e)))))
 have hfr : ∀ k, PoMut p { v with pa := a, pc := c } k → ¬ (I k ∨ (w.heap.size ≤ k ∧ k < w2.heap.size ∧ blkO a ≠ some k) ∨ (blkO v.pa = some k ∧ blkO a ≠ some k)) := by
   have aux : ∀ k, PoMut p v k → (blkO v.pa = some k → False) → ¬ (I k ∨ (w.heap.size ≤ k ∧ k < w2.heap.size ∧ blkO a ≠ some k) ∨ (blkO v.pa = some k ∧ blkO a ≠ some k)) := by
     rintro k hm hp (hi | ⟨h1, -⟩ | ⟨h1, -⟩)
     · exact h.free k hm hi
     · have := hml k hm; omega
     · exact hp h1
   intro k hm
   rcases hm with rfl | rfl | rfl | e | e | e
   · exact aux k (.inl rfl) h.ne_pa
   · exact aux _ (.inr (.inl rfl)) h.data.sb_row.2.2
   · exact aux _ (.inr (.inr (.inl rfl))) h.data.mb_row.2.2
   · exact aux k (.inr (.inr (.inr (.inl e)))) fun e' => (h.data.pa_row k e').1 e
   · exact aux k (.inr (.inr (.inr (.inr (.inl e))))) fun e' => (h.data.pa_row k e').2 e
   · rintro (hi | ⟨-, -, h1⟩ | ⟨-, h1⟩)
     · rcases hor k e with h1 | rfl
       · exact hpI k h1 hi
       · have := h.lt _ hi; omega
     · exact h1 e
     · exact h1 e
 have hnp : blkO a ≠ some p := fun e => by
   rcases hor p e with h1 | h1
   · exact h.ne_pa h1
   · have := box_lt h.cell; omega
 have hc2 : w2.heap[p]? = some (.cells (poCells r s v) 158 (0, 0)) := (hk.block p (box_lt h.cell) h.ne_pa).trans h.cell
 refine ⟨a, c, fun k => I k ∨ (w.heap.size ≤ k ∧ k < w2.heap.size ∧ blkO a ≠ some k) ∨ (blkO v.pa = some k ∧ blkO a ≠ some k), rfl, hor, fun k hi => .inl hi, ?_, box_set hc2, ?_, h.apart, hfr, ?_⟩
 · rintro k (hi | ⟨h1, -⟩ | ⟨h1, -⟩)
   · exact .inl hi
   · exact .inr (.inr h1)
   · exact .inr (.inl h1)
 · have hIk : ∀ k, I k → blkO v.pa ≠ some k := fun k hi e => hpI k e hi
   have h2 : PoD (fun k => I k ∨ (w.heap.size ≤ k ∧ k < w2.heap.size ∧ blkO a ≠ some k) ∨ (blkO v.pa = some k ∧ blkO a ≠ some k)) w2 { s with past := xs } { v with pa := a, pc := c } := by
     refine ⟨numsR.mono (numsR.keep h.data.tree (hk.mono fun k _ => hIk k)) fun k _ hi => .inl hi, h.data.leaves.keep (hk.mono fun k _ e e' => (h.data.pa_row k e').1 e), h.data.marks.keep hk h.data.sb_row.2.2 h.data.mb_row.2.2, (accsR).mono ((accsR).keep h.data.book (hk.mono fun k _ => hIk k)) fun k _ hi => .inl hi, h.data.hidden,
       h.data.roots.keep (hk.mono fun k _ e e' => (h.data.pa_row k e').2 e), ho.mono fun k hlt hF => ?_⟩
     by_cases e : blkO a = some k
     · exact .inr e
     · rcases hF with (hi | h1) | h1
       · exact .inl (.inl hi)
       · exact .inl (.inr (.inr ⟨h1, e⟩))
       · exact .inl (.inr (.inl ⟨h1, hlt, e⟩))
   exact h2.keep (kept_one w2 p 17 _) (fun _ hi e => hfr p (.inl rfl) (e ▸ hi)) (Ne.symm h.ne_sb) (Ne.symm h.ne_mb) (fun _ e hk => h.ne_la (hk ▸ e)) (fun _ e hk => h.ne_ra (hk ▸ e)) (fun _ e hk => hnp (hk ▸ e))
 · have hz := (kept_one w2 p 17 (.slice a xs.length c)).size
   have hz2 := hk.size; rintro k (hi | ⟨-, h1, -⟩ | ⟨h1, -⟩)
   · have := h.lt k hi; omega
   · omega
   · have := hml k (.inr (.inr (.inr (.inr (.inr h1))))); omega
theorem PoAt.cutLeaves (h : PoAt p I w r s v) (k : Nat) (hk : k ≤ s.leaves.length) : PoAt p I (w.setCell ⟨p, 12, none⟩ (.slice v.la k v.lc)) r { s with leaves := s.leaves.take k } v := by
 have hkk := kept_one w p 12 (.slice v.la k v.lc); have d := h.dataK hkk
 have e : (s.leaves.take k).length = k := by rw [List.length_take]; omega
 have ho := d.leaves.cut k hk
 refine ⟨?_, ⟨d.tree, by rw [e]; exact ho, d.marks, d.book, d.hidden, d.roots, d.past⟩, h.apart, h.free, fun k hi => Nat.lt_of_lt_of_le (h.lt k hi) hkk.size⟩
 have := box_set (i := 12) (v := .slice v.la k v.lc) h.cell; rw [this]
 show some (Obj.cells #[_, _, _, _, _, _, _, _, _, _, _, _, _, _, _, _, _, _] _ _) = some (Obj.cells #[_, _, _, _, _, _, _, _, _, _, _, _, .slice v.la (s.leaves.take k).length v.lc, _, _, _, _, _] _ _)
 rw [e]
theorem PoAt.cutRoots (h : PoAt p I w r s v) (k : Nat) (hk : k ≤ s.roots.length) : PoAt p I (w.setCell ⟨p, 16, none⟩ (.slice v.ra k v.rc)) r { s with roots := s.roots.take k } v := by
 have hkk := kept_one w p 16 (.slice v.ra k v.rc); have d := h.dataK hkk
 have e : (s.roots.take k).length = k := by rw [List.length_take]; omega
 have ho := d.roots.cut k hk
 refine ⟨?_, ⟨d.tree, d.leaves, d.marks, d.book, d.hidden, by rw [e]; exact ho, d.past⟩, h.apart, h.free, fun k hi => Nat.lt_of_lt_of_le (h.lt k hi) hkk.size⟩
 have := box_set (i := 16) (v := .slice v.ra k v.rc) h.cell; rw [this]
 show some (Obj.cells #[_, _, _, _, _, _, _, _, _, _, _, _, _, _, _, _, _, _] _ _) = some (Obj.cells #[_, _, _, _, _, _, _, _, _, _, _, _, _, _, _, _, .slice v.ra (s.roots.take k).length v.rc, _] _ _)
 rw [e]
theorem PoAt.cutPast (h : PoAt p I w r s v) (k : Nat) (hk : k ≤ s.past.length) : PoAt p I (w.setCell ⟨p, 17, none⟩ (.slice v.pa k v.pc)) r { s with past := s.past.take k } v := by
 have hkk := kept_one w p 17 (.slice v.pa k v.pc); have d := h.dataK hkk
 have e : (s.past.take k).length = k := by rw [List.length_take]; omega
 have ho := d.past.cut k hk
 refine ⟨?_, ⟨d.tree, d.leaves, d.marks, d.book, d.hidden, d.roots, by rw [e]; exact ho⟩, h.apart, h.free, fun k hi => Nat.lt_of_lt_of_le (h.lt k hi) hkk.size⟩
 have := box_set (i := 17) (v := .slice v.pa k v.pc) h.cell; rw [this]
 show some (Obj.cells #[_, _, _, _, _, _, _, _, _, _, _, _, _, _, _, _, _, _] _ _) = some (Obj.cells #[_, _, _, _, _, _, _, _, _, _, _, _, _, _, _, _, _, .slice v.pa (s.past.take k).length v.pc] _ _)
 rw [e]
def zeroBef : BefM := ⟨⟨0, 0, []⟩, 0, [], [], 0⟩
theorem zeroBef_rel (S : Nat → Prop) (w : World) : befR.rel S w [.int .i64 0, .int .i64 0, .slice none 0 0, .int .i64 0, .slice none 0 0, .slice none 0 0, .int .u64 0] zeroBef :=
 befR.mk (b := zeroBef) (ta := none) (ma := none) (ba := none) (tc := 0) (mc := 0) (bc := 0) ⟨okI_of (by show (_ : Int) ≤ 0; omega) (by show (0 : Int) < _; omega), okI_of (by show (_ : Int) ≤ 0; omega) (by show (0 : Int) < _; omega), sliceR.nil, okI_of (by show (_ : Int) ≤ 0; omega) (by show (0 : Int) < _; omega), sliceR.nil, sliceR.nil, okU_of (by show (0 : Int) ≤ 0; omega) (by show (0 : Int) < _; omega)⟩
theorem PoAt.clearPast (h : PoAt p I w r s v) (i : Nat) (hi : i < s.past.length) : ∃ g, v.pa = some ⟨g, 0, none⟩ ∧ PoAt p I (w.setCells g (i * 7) [.int .i64 0, .int .i64 0, .slice none 0 0, .int .i64 0, .slice none 0 0, .slice none 0 0, .int .u64 0]) r { s with past := s.past.set i zeroBef } v ∧ g ≠ p := by
 have hpl := sliceR.lens h.data.past.slice; obtain ⟨S0, css0, hS0, hv0, hl0, hr0, ho0⟩ := h.data.past
 rcases ho0.2 with ⟨h1, h2⟩ | ⟨g, cap', cur, h1, hb, hg, h2, h3, h4, h5⟩
 · omega
 · simp only [Value.slice.injEq] at h1
   obtain ⟨hpa, -, hpc⟩ := h1; have hpast := h.data.past; rw [hpa] at hpast; obtain ⟨-, -, hcm, hFg, S, hSF, hrow⟩ := hpast.row; obtain ⟨hr2, hk2⟩ := hrow.store i hi (zeroBef_rel S w); rw [befR.n] at hr2 hk2
   have hgp : blkO v.pa = some g := by rw [hpa]; rfl
   have hne : g ≠ p := fun e => h.ne_pa (e ▸ hgp)
   have hIk : ∀ k, I k → k ≠ g := fun k hi e => h.free k (.inr (.inr (.inr (.inr (.inr (e ▸ hgp)))))) hi
   have ho := hr2.own (F := fun k => I k ∨ blkO v.pa = some k) (base := 0) (fun k hk => by
     have hF := hSF k hk
     rw [hpa]; exact hF) (.inr hgp) (Nat.zero_le _) hcm
   refine ⟨g, hpa, ⟨?_, ?_, h.apart, h.free, fun k hi => Nat.lt_of_lt_of_le (h.lt k hi) hk2.size⟩, hne⟩
   · rw [hk2.block p (box_lt h.cell) (Ne.symm hne), h.cell]
     show some (Obj.cells #[_, _, _, _, _, _, _, _, _, _, _, _, _, _, _, _, _, .slice v.pa s.past.length v.pc] _ _) = some (Obj.cells #[_, _, _, _, _, _, _, _, _, _, _, _, _, _, _, _, _, .slice v.pa (s.past.set i zeroBef).length v.pc] _ _)
     rw [List.length_set]
   · refine ⟨numsR.keep h.data.tree (hk2.mono fun k _ => hIk k), h.data.leaves.keep (hk2.mono fun k _ e e' => (h.data.pa_row k (e' ▸ hgp)).1 e), h.data.marks.keep hk2 (fun e => h.data.sb_row.2.2 (e ▸ hgp)) (fun e => h.data.mb_row.2.2 (e ▸ hgp)), (accsR).keep h.data.book (hk2.mono fun k _ => hIk k), h.data.hidden,
       h.data.roots.keep (hk2.mono fun k _ e e' => (h.data.pa_row k (e' ▸ hgp)).2 e), ?_⟩
     rw [hpa]; have := ho; rw [hpa] at this
     exact this
end
end Go.Proofs.YtphacfkcifpobaaGreatDoor
/- The state of a chain of the program: anchors, Check. -/
namespace Go.Proofs.YtphacfkcifpobaaGreatDoor
open Go.ChangeShapes Go.WideShapes Go.ChangeAt Go.RowKit Go.Sort
theorem own_at {α : Type} {r : Rep α} {base : Nat} {e : TypeId} {F : Nat → Prop} {w : World} {a : Option Addr} {l c : Nat} {xs : List α} (h : Own r base e F w (.slice a l c) xs) (h0 : 0 < xs.length) : ∃ g, a = some ⟨g, 0, none⟩ := by
 obtain ⟨S, css, hS, hv, hl, hr, ho⟩ := h
 rcases ho.2 with ⟨h1, h2⟩ | ⟨g, cap', cur, h1, hb, hg, h2, h3, h4, h5⟩
 · omega
 · simp only [Value.slice.injEq] at h1; exact ⟨g, h1.1⟩
theorem anch_rel {w : World} {win : Int} {roots : List Int} {g rc : Nat} (h : numsR.rel (fun _ => True) w [.slice (some ⟨g, 0, none⟩) roots.length rc] roots) :
   numsR.rel (fun _ => True) w [.slice (some ⟨g, roots.length - win.toNat, none⟩) (anchM win roots).length (rc - (roots.length - win.toNat))] (anchM win roots) := by
 have h3 := sliceR.dropN h (roots.length - win.toNat) (by omega)
 have e1 : (u64R).n = 1 := rfl; rw [e1, Nat.mul_one, Nat.zero_add] at h3; unfold anchM; rw [List.length_drop]
 exact h3
set_option maxHeartbeats 400000 in
theorem anchors_any (p : Nat) (I : Nat → Prop) (w : World) (r : RuM) (s : PoM) (v : PoV) (h : PoAt p I w r s v) (hw1 : 1 ≤ r.win) (hw2 : r.win ≤ 100) (h0 : 0 < s.roots.length) (h1 : s.roots.length ≤ 1000000) (g : Nat) (hg : v.ra = some ⟨g, 0, none⟩) :
   Calls Tryz.prog 219 #[.pointer (some ⟨p, 0, none⟩)] w fun e w' => e = .returned (.slice (some ⟨g, s.roots.length - r.win.toNat, none⟩) (anchM r.win s.roots).length (v.rc - (s.roots.length - r.win.toNat))) ∧ Below w.heap.size w w' := by
 obtain ⟨W, hW⟩ := Int.eq_ofNat_of_zero_le (show 0 ≤ r.win by omega)
 have hcap := (sliceR.lens h.data.roots.slice).2.1
 have hL : (anchM r.win s.roots).length = s.roots.length - (s.roots.length - r.win.toNat) := by unfold anchM; rw [List.length_drop]
 rw [hL]; obtain ⟨n, hn⟩ : ∃ n, s.roots.length = n := ⟨_, rfl⟩; obtain ⟨x0, x1⟩ := box_cells h.cell
 simp only [poCells, hn, hg, hW] at x0
 rw [hn] at hcap h0 h1 ⊢
 have hw3 : 1 ≤ W ∧ W ≤ 100 := by omega
 rw [hW, Int.toNat_natCast]; clear h hg hn hL hw1 hw2 hW
 have m1 : max (0 : Int) (W : Int) = (W : Int) := by omega
 have m3 : wrap64 ((n : Int) - (W : Int)) = (n : Int) - (W : Int) := by unfold wrap64; omega
 by_cases hle : n ≤ W
 · have hk : n - W = 0 := by omega
   have m4 : (n : Int) ≤ (W : Int) := by omega
   rw [hk]; clear hk hle
   go_enter Tryz.func219, Tryz.ntmps219
   go_wp2_with fail
   go_region
   go_wp2_with fail; go_ret
   exact ⟨rfl, (Below.refl _ _).drew⟩
 · obtain ⟨k, hk⟩ : ∃ k, n - W = k := ⟨_, rfl⟩
   obtain ⟨K, rfl⟩ : ∃ K, n = W + K := ⟨n - W, by omega⟩
   have hkK : k = K := by omega
   subst hkK
   have m4 : ¬ (((W + k : Nat) : Int) ≤ (W : Int)) := by omega
   have m5 : (((W + k : Nat) : Int) - (W : Int)) = (k : Int) := by omega
   have m6 : ((k : Nat) : Int) ≤ ((W + k : Nat) : Int) := by omega
   have m7 : W + k - k = W := by omega
   have m8 : k < v.rc := by omega
   rw [hk]; rw [m5] at m3; clear hk
   go_enter Tryz.func219, Tryz.ntmps219
   go_wp2_with fail
   go_region
   go_wp2_with fail; go_ret
   refine ⟨?_, (Below.refl _ _).drew⟩
   show Ending.returned (Value.slice (some ⟨g, W + k - W, none⟩) (W + k - (W + k - W)) (v.rc - (W + k - W))) = _
   rw [show W + k - W = k by omega]
end Go.Proofs.YtphacfkcifpobaaGreatDoor
/- The state of a chain of the program: Check. -/
namespace Go.Proofs.YtphacfkcifpobaaGreatDoor
open Go.ChangeShapes Go.WideShapes Go.ChangeAt Go.RowKit Go.Sort
theorem below_put {B : Nat} {w w1 : World} (h : Below B w w1) {q i : Nat} (hq : B ≤ q) (u : Value) (hB : B ≤ w1.heap.size) : Below B w (w1.setCell ⟨q, i, none⟩ u) :=
 Kept.behind h (Kept.setCell (S := fun k => k < B) (Kept.refl _ w1) (fun _ hh => by have h' : q < B := hh; omega) u) hB fun _ h => h
theorem shl_fact (D : Nat) (hD : D ≤ 12) {P : Int} (hP : (2 : Int) ^ D = P) : wrap64 ((2 : Int) ^ min D 64) = P ∧ P ≤ 4096 := by
 obtain ⟨-, e2, e3⟩ := pow12 ⟨D, by omega⟩
 simp only [hP] at e2 e3
 rw [Nat.min_eq_left (by omega), hP]
 clear hP hD; unfold wrap64
 omega
theorem sum_fact (a b : Nat) (ha : (a : Int) ≤ 4096) (hb : b ≤ 4) : wrap64 ((a : Int) + b) = (a : Int) + b := by unfold wrap64; omega
set_option maxHeartbeats 4000000 in
theorem poCheck_any (p : Nat) (I : Nat → Prop) (w : World) (r : RuM) (s : PoM) (v : PoV) (h : PoAt p I w r s v) (hr : RuOK r) (N : Nat) (ok : PoOK r s N) (hN : N ≤ 100000) (hpl : s.past.length ≤ 100000) (S : Nat → Prop) (t : TxM) (ma oa pa : Option Addr) (mc oc pc : Nat) (ht : TxIn S w t ma oa pa mc oc pc) :
   Calls Tryz.prog 150 #[.pointer (some ⟨p, 0, none⟩), .agg #[.int .u64 t.anchor, .slice ma t.marks.length mc, .slice oa t.outs.length oc, .int .u64 t.dep, .int .u64 t.wd, .int .u64 t.fee, .int .u64 t.acc, .int .u64 t.nonce, .int .i64 t.exp, .slice pa t.proof.length pc]] w fun e w' => e = .returned (.int .i64 (poCheckE r s t)) ∧ Below w.heap.size w w' := by
 have hbA := bnew (Below.refl w.heap.size w) (.cells #[.int .u64 t.anchor, .slice ma t.marks.length mc, .slice oa t.outs.length oc, .int .u64 t.dep, .int .u64 t.wd, .int .u64 t.fee, .int .u64 t.acc, .int .u64 t.nonce, .int .i64 t.exp, .slice pa t.proof.length pc] 181); have HX := Lib.hid (box_new w (.cells #[.int .u64 t.anchor, .slice ma t.marks.length mc, .slice oa t.outs.length oc, .int .u64 t.dep, .int .u64 t.wd, .int .u64 t.fee, .int .u64 t.acc, .int .u64 t.nonce, .int .i64 t.exp, .slice pa t.proof.length pc] 181)); have H := Lib.hid (h.keepB hbA); have HT := Lib.hid (ht.keepB hbA); have HB := Lib.hid hbA; have HR := Lib.hid hr; have HOK := Lib.hid ok; have HEX := Lib.hid (okI_in ht.exp)
 have HU : Hid (poCheckE r s t = if validE t = 0 then
   if t.exp < s.past.length + 1 then 14
   else if hasB (anchM r.win s.roots) t.anchor = true then
     if (t.marks.any fun x => decide (x ∈ s.marks)) = true then 12
     else if 0 < t.dep ∧ debitE s.book t.acc t.dep t.nonce ≠ 0 then debitE s.book t.acc t.dep t.nonce
     else if wrapU (s.hidden + t.dep) < wrapU (t.wd + t.fee) then 13
     else if (2 : Int) ^ r.depth.toNat < s.leaves.length + t.outs.length then 16
     else 0
   else 11
 else validE t) := rfl
 have hrl : 0 < s.roots.length ∧ s.roots.length ≤ 1000000 := by have := ok.roots; omega
 obtain ⟨g, hg⟩ := own_at h.data.roots hrl.1; clear hbA h ht ok hr
 go_enter Tryz.func150, Tryz.ntmps150
 go_upto_region 1 with (fail)
 generalize w.alloc (.cells #[.int .u64 t.anchor, .slice ma t.marks.length mc, .slice oa t.outs.length oc, .int .u64 t.dep, .int .u64 t.wd, .int .u64 t.fee, .int .u64 t.acc, .int .u64 t.nonce, .int .i64 t.exp, .slice pa t.proof.length pc] 181) = W at *; obtain ⟨x0, x1⟩ := box_cells HX.out; go_wp2_with fail
 refine (txValid_any S W t ma oa pa mc oc pc HT.out).mono ?_
 rintro e w1 ⟨rfl, hb1⟩; clear x0 x1
 by_cases hv : validE t = 0
 · have HV := Lib.hid hv
   have HU1 := Lib.hid (HU.out.trans (if_pos hv)); rw [hv]; clear hv HU; have x0 := box_regrown (box_after hb1 HX.out); have H1 := Lib.hid (H.out.keepB hb1); have y0 := box_regrown H1.out.cell
   simp only [poCells] at y0
   have e1 : wrap64 ((s.past.length : Int) + 1) = (s.past.length : Int) + 1 := by unfold wrap64; omega
   go_wp2_with fail
   refine wp_region_quiet_below (by kernel_rfl) (by kernel_rfl) ?_
   repeat (first | go_big_quiet_step (fail) | quiet_step (fail))
   refine wpQuiet_nil ?_
   intro w2 hw'
   obtain ⟨⟨dq, osq⟩, hw''⟩ := hw'; have hbw2 := below_regrown w1 dq osq; rw [← hw''] at hbw2; clear hw'' x0 y0; have hb2 := bnext hb1 hbw2; clear hb1 hbw2 H1
   by_cases hc1 : t.exp < s.past.length + 1
   · have HF := Lib.hid (HU1.out.trans (if_pos hc1))
     go_wp2_with fail; go_ret
     exact ⟨ret_int HF.out.symm, bnext HB.out hb2⟩
   · have HU2 := Lib.hid (HU1.out.trans (if_neg hc1))
     clear HU1; have H2 := Lib.hid (H.out.keepB hb2)
     have hcA : ∀ (d : Nat) (os : Array Obj), Calls Tryz.prog 219 #[.pointer (some ⟨p, 0, none⟩)] (grow (redrawn w2 d) os) fun e w' => e = .returned (.slice (some ⟨g, s.roots.length - r.win.toNat, none⟩) (anchM r.win s.roots).length (v.rc - (s.roots.length - r.win.toNat))) ∧ Below (grow (redrawn w2 d) os).heap.size (grow (redrawn w2 d) os) w' := fun d os =>
       anchors_any p I _ r s v (H2.out.keepB (below_regrown w2 d os)) HR.out.w0 HR.out.w1 hrl.1 hrl.2 g hg
     have hcC : ∀ (d : Nat) (os : Array Obj), Calls Tryz.prog 214 #[.slice (some ⟨g, s.roots.length - r.win.toNat, none⟩) (anchM r.win s.roots).length (v.rc - (s.roots.length - r.win.toNat)), .int .u64 t.anchor] (grow (redrawn w2 d) os) fun e w' => e = .returned (.bool (hasB (anchM r.win s.roots) t.anchor)) ∧ Below (grow (redrawn w2 d) os).heap.size (grow (redrawn w2 d) os) w' := fun d os =>
       contains_any _ _ _ _ _ _ rfl (anch_rel (by have := (H2.out.keepB (below_regrown w2 d os)).data.roots.slice; rw [hg] at this; exact numsR.mono this fun _ _ _ => trivial)) _
     have x0 := box_regrown (box_after hb2 HX.out); obtain ⟨AV, hAV⟩ : ∃ AV, Value.slice (some ⟨g, s.roots.length - r.win.toNat, none⟩) (anchM r.win s.roots).length (v.rc - (s.roots.length - r.win.toNat)) = AV := ⟨_, rfl⟩; rw [hAV] at hcA hcC; have HU2' : Hid (_ = _) := HU2; obtain ⟨hB, hhB⟩ : ∃ hB, hasB (anchM r.win s.roots) t.anchor = hB := ⟨_, rfl⟩
     simp only [hhB] at hcC
     have HHB := Lib.hid hhB; clear hAV hhB HU2'; go_wp2_with fail
     refine wp_region_quiet_below (by kernel_rfl) (by kernel_rfl) ?_
     repeat (first | go_big_quiet_step (first | exact Calls.regrown_of (hcA _ _) | exact Calls.regrown_of (hcC _ _)) | quiet_step (first | exact Calls.regrown_of (hcA _ _) | exact Calls.regrown_of (hcC _ _)))
     refine wpQuiet_nil ?_
     intro w3 hw'
     obtain ⟨⟨dq, osq⟩, hw''⟩ := hw'; have hbw3 := below_regrown w2 dq osq; rw [← hw''] at hbw3; clear hw'' x0 hcA hcC; have hb3 := bnext hb2 hbw3; clear hb2 hbw3 H2
     cases hB with
     | false =>
       have HF : Hid (poCheckE r s t = 11) := HU2.out.trans (if_neg (by rw [HHB.out]; simp))
       go_wp2_with fail; go_ret
       exact ⟨ret_int HF.out.symm, bnext HB.out hb3⟩
     | true =>
       have HU3 := Lib.hid (HU2.out.trans (if_pos HHB.out)); clear HU2 HHB; obtain ⟨x0, x1⟩ := box_cells (box_after hb3 HX.out); have HB3 := Lib.hid hb3; clear hb3; have hml : t.marks.length ≤ 4 := (validE_facts HV.out).1; have HOM := Lib.hid (ints_wf HT.out.marks); go_wp2_with fail
       go_loopw [33] (fun vi wr => ∃ k : Nat, k ≤ t.marks.length ∧ vi = .int .i64 k ∧ Hid (Below W.heap.size W wr) ∧ Hid ((t.marks.take k).any (fun x => decide (x ∈ s.marks)) = false)) (fun vi _ => t.marks.length - (intOf vi).toNat)
       case atStart => exact ⟨0, Nat.zero_le _, rfl, HB3, by show _ = _; simp⟩
       case round =>
         obtain ⟨k, hk, rfl, hbr, hany⟩ := hrel
         by_cases hlt : k < t.marks.length
         · obtain ⟨bb, off, hma, hbl, hcc⟩ := nums_at (HT.out.keepB hbr.out).marks k hlt
           subst hma
           have HTK : Hid ((t.marks.take (k + 1)).any (fun x => decide (x ∈ s.marks)) = decide (t.marks[k] ∈ s.marks)) := by show _ = _; rw [List.take_succ_eq_append_getElem hlt, List.any_append, hany.out]; simp
           have HTA : Hid (t.marks[k] ∈ s.marks → (t.marks.any fun x => decide (x ∈ s.marks)) = true) := fun hh => List.any_eq_true.2 ⟨t.marks[k], List.getElem_mem hlt, by simpa using hh⟩
           have HOX := Lib.hid (HOM.out _ (List.getElem_mem hlt)); generalize t.marks[k] = x at *; have HR2 := Lib.hid (H.out.keepB hbr.out); obtain ⟨y0, y1⟩ := box_cells HR2.out.cell
           simp only [poCells] at y0
           go_wp2_with fail
           refine (has_any v.sb v.mb wr s.marks HR2.out.data.marks x HOX.out).mono ?_
           rintro e w4 ⟨rfl, hb4⟩; clear y0 y1 hcc; have HB4 := Lib.hid (bnext hbr.out hb4)
           by_cases hd : x ∈ s.marks
           · have HF : Hid (poCheckE r s t = 12) := HU3.out.trans (if_pos (HTA.out hd))
             have z1 : decide (x ∈ s.marks) = true := decide_eq_true hd; rw [z1]; clear z1 hd; go_wp2_with fail; go_ret
             exact ⟨ret_int HF.out.symm, bnext HB.out HB4.out⟩
           · have z1 : decide (x ∈ s.marks) = false := decide_eq_false hd
             rw [z1] at HTK ⊢; clear z1 hd; go_wp2_with fail
             go_roundw
             case rel =>
               (repeat apply Exists.intro)
               refine ⟨⟨k + 1, by omega, by go_num, HB4, HTK⟩, ?_⟩
               rfl
             case measure => simp [intOf]; omega
         · obtain rfl : k = t.marks.length := by omega
           rw [List.take_length] at hany
           have HU4 := Lib.hid (HU3.out.trans (if_neg (by rw [hany.out]; simp)))
           clear HU3 hany; obtain ⟨x0, x1⟩ := box_cells (box_after hbr.out HX.out)
           go_upto_if 53 with (fail)
           have hbl := HOK.out.book; clear hlt hk
           go_cut [8, 9] from 10 (fun v8 v9 wc => Hid (Below W.heap.size W wc) ∧ Hid (poCheckE r s t = if wrapU (s.hidden + t.dep) < wrapU (t.wd + t.fee) then 13 else if (2 : Int) ^ r.depth.toNat < s.leaves.length + t.outs.length then 16 else 0))
           case first =>
             by_cases hdp : 0 < t.dep
             · go_wp2_with fail
               have H4 := Lib.hid (H.out.keepB hbr.out); have HX4 := Lib.hid (box_after hbr.out HX.out)
               have HE : Hid (poCheckE r s t = if debitE s.book t.acc t.dep t.nonce ≠ 0 then debitE s.book t.acc t.dep t.nonce else if wrapU (s.hidden + t.dep) < wrapU (t.wd + t.fee) then 13 else if (2 : Int) ^ r.depth.toNat < s.leaves.length + t.outs.length then 16 else 0) := by
                 show _ = _
                 rw [HU4.out]
                 by_cases hz : debitE s.book t.acc t.dep t.nonce ≠ 0
                 · rw [if_pos ⟨hdp, hz⟩, if_pos hz]
                 · rw [if_neg (fun h => hz h.2), if_neg hz]
               clear HU4
               go_cut [8, 9] from 10 (fun v8 v9 wc => v9 = .int .i64 (debitE s.book t.acc t.dep t.nonce) ∧ Below wr.heap.size wr wc)
               case first =>
                 go_region_held3 (fun w' => Below wr.heap.size wr w' ∧ (∀ o, w'.cell? ⟨p, o, none⟩ = (poCells r s v)[o]?) ∧ (∀ o, w'.cell? ⟨w.heap.size, o, none⟩ = (#[.int .u64 t.anchor, .slice ma t.marks.length mc, .slice oa t.outs.length oc, .int .u64 t.dep, .int .u64 t.wd, .int .u64 t.fee, .int .u64 t.acc, .int .u64 t.nonce, .int .i64 t.exp, .slice pa t.proof.length pc] : Array Value)[o]?))
                   (first
                     | with_reducible exact BkK2.drew (BkK2.of H4.out.cell HX4.out (Below.refl _ _))
                     | with_reducible exact HK1.out
                     | with_reducible exact BkK2.of H4.out.cell HX4.out (bnew HK1.out.1 _)
                     | exact BkK2.of H4.out.cell HX4.out (below_put HK1.out.1 (Nat.le_refl _) _ HK1.out.1.size)
                     | with_reducible exact BkK2.drew (BkK2.of H4.out.cell HX4.out (bnew (Below.refl _ _) _)))
                   (first
                     | (go_at_call 221; have HBp := Lib.hid (‹Below wr.heap.size wr _ ∧ _› : BkK2 (poCells r s v) #[.int .u64 t.anchor, .slice ma t.marks.length mc, .slice oa t.outs.length oc, .int .u64 t.dep, .int .u64 t.wd, .int .u64 t.fee, .int .u64 t.acc, .int .u64 t.nonce, .int .i64 t.exp, .slice pa t.proof.length pc] p w.heap.size wr _)
                        refine (debit_any I _ v.ba v.bc s.book (H4.out.keepB HBp.out.1).data.book (by omega) HOK.out.up t.acc t.dep t.nonce HT.out.acc HT.out.dep HT.out.nonce).mono ?_
                        rintro e w5 ⟨a5, c5, rfl, -, hb5⟩; have HK1 := Lib.hid (BkK2.of H4.out.cell HX4.out (bnext HBp.out.1 hb5))
                        first
                          | (have hqA : w5.heap[wr.heap.size]? = _ := box_after hb5 (box_new wr (.cells #[.slice none 0 0] 155)); obtain ⟨k0, k1⟩ := box_cells hqA; have HQ := Lib.hid hqA; clear hqA)
                          | skip))
                 all_goals
                   go_wp2_with fail
                   go_meet
                   case rel => first | exact ⟨rfl, bnew HK1.out.1 _⟩ | exact ⟨rfl, below_put HK1.out.1 (Nat.le_refl _) _ HK1.out.1.size⟩
               case rest =>
                 obtain ⟨rfl, hbc⟩ := hcut; have HBC := Lib.hid (bnext hbr.out hbc); clear hbc
                 by_cases hz : debitE s.book t.acc t.dep t.nonce = 0
                 · have HU5 := Lib.hid (HE.out.trans (if_neg (fun h => h hz)))
                   rw [hz]; clear hz HE x0 x1 H4 HX4; go_wp2_with fail
                   go_meet
                   case rel => exact ⟨HBC, HU5⟩
                 · have HF := Lib.hid (HE.out.trans (if_pos hz))
                   have z1 : (debitE s.book t.acc t.dep t.nonce == 0) = false := by rw [beq_eq_false_iff_ne]; exact hz
                   have z2 : (debitE s.book t.acc t.dep t.nonce != 0) = true := by rw [bne_iff_ne]; exact hz
                   obtain ⟨y, hy⟩ : ∃ y, debitE s.book t.acc t.dep t.nonce = y := ⟨_, rfl⟩; have HY := Lib.hid hy; rw [hy] at z1 z2 ⊢; clear hy hz; go_wp2_with fail; go_ret
                   exact ⟨ret_int (by rw [HF.out, HY.out]), bnext HB.out HBC.out⟩
             · have HU5 : Hid (poCheckE r s t = if wrapU (s.hidden + t.dep) < wrapU (t.wd + t.fee) then 13 else if (2 : Int) ^ r.depth.toNat < s.leaves.length + t.outs.length then 16 else 0) := HU4.out.trans (if_neg (fun h => hdp h.1))
               go_wp2_with fail
               go_meet
               case rel => exact ⟨hbr, HU5⟩
           case rest =>
             obtain ⟨HBC, HU5⟩ := hcut; clear x0 x1 HU4 hbr; have x0 := box_regrown (box_after HBC.out HX.out); have H4 := Lib.hid (H.out.keepB HBC.out); have y0 := box_regrown H4.out.cell
             simp only [poCells] at y0
             obtain ⟨d0, d1⟩ := (⟨HR.out.d0, HR.out.d1⟩ : 1 ≤ r.depth ∧ r.depth ≤ 12)
             obtain ⟨D, hD⟩ : ∃ D : Nat, r.depth = D := Int.eq_ofNat_of_zero_le (by omega)
             simp only [hD, Int.toNat_natCast] at HU5 y0
             obtain ⟨P2, hP2⟩ : ∃ P2 : Int, (2 : Int) ^ D = P2 := ⟨_, rfl⟩; have h3 := HOK.out.tree.c1; rw [hD, Int.toNat_natCast, hP2, HOK.out.count] at h3; rw [hP2] at HU5
             obtain ⟨e5, e7⟩ := shl_fact D (by clear h3 hP2; omega) hP2
             have e6 := sum_fact s.leaves.length t.outs.length (Int.le_trans h3 e7) (validE_facts HV.out).2.1; clear hP2 d0 d1 h3 e7; go_wp2_with fail
             refine wp_region_quiet_below (by kernel_rfl) (by kernel_rfl) ?_
             repeat (first | go_big_quiet_step (fail) | quiet_step (fail))
             refine wpQuiet_nil ?_
             intro wa hw'
             obtain ⟨⟨dq, osq⟩, hw''⟩ := hw'; have hbwa := below_regrown wc dq osq; rw [← hw''] at hbwa; clear hw'' x0 y0; have HBD := Lib.hid (bnext HBC.out hbwa); clear hbwa
             by_cases hc5 : IntKind.u64.wrap (s.hidden + t.dep) < IntKind.u64.wrap (t.wd + t.fee)
             · have HF := Lib.hid (HU5.out.trans (if_pos hc5))
               go_wp2_with fail; go_ret
               exact ⟨ret_int HF.out.symm, bnext HB.out HBD.out⟩
             · have HU6 := Lib.hid (HU5.out.trans (if_neg hc5))
               have x0 := box_regrown (box_after HBD.out HX.out); have H5 := Lib.hid (H.out.keepB HBD.out); have y0 := box_regrown H5.out.cell
               simp only [poCells, hD] at y0
               go_wp2_with fail
               refine wp_region_quiet_below (by kernel_rfl) (by kernel_rfl) ?_
               repeat (first | go_big_quiet_step (fail) | quiet_step (fail))
               refine wpQuiet_nil ?_
               intro wb hw'
               obtain ⟨⟨dq, osq⟩, hw''⟩ := hw'; have hbwb := below_regrown wa dq osq; rw [← hw''] at hbwb; clear hw'' x0 y0; have HBE := Lib.hid (bnext HBD.out hbwb); clear hbwb
               by_cases hc6 : P2 < (s.leaves.length : Int) + t.outs.length
               · have HF := Lib.hid (HU6.out.trans (if_pos hc6))
                 go_wp2_with fail
                 all_goals first | (exfalso; omega) | (go_ret; exact ⟨ret_int HF.out.symm, bnext HB.out HBE.out⟩)
               · have HF := Lib.hid (HU6.out.trans (if_neg hc6))
                 go_wp2_with fail
                 all_goals first | (exfalso; omega) | (go_ret; exact ⟨ret_int HF.out.symm, bnext HB.out HBE.out⟩)
 · have HF := Lib.hid (HU.out.trans (if_neg hv))
   have z1 : (validE t == 0) = false := by rw [beq_eq_false_iff_ne]; exact hv
   have z2 : (validE t != 0) = true := by rw [bne_iff_ne]; exact hv
   obtain ⟨y, hy⟩ : ∃ y, validE t = y := ⟨_, rfl⟩; have HY := Lib.hid hy; rw [hy] at z1 z2 ⊢; clear hy hv; go_wp2_with fail; go_ret
   exact ⟨ret_int (by rw [HF.out, HY.out]), bnext HB.out hb1⟩
end Go.Proofs.YtphacfkcifpobaaGreatDoor
/- The state of a chain of the program, within a block: the state, and what is kept of the state before. -/
namespace Go.Proofs.YtphacfkcifpobaaGreatDoor
open Go.ChangeShapes Go.WideShapes Go.ChangeAt Go.RowKit Go.Sort
abbrev befCells (s0 : PoM) (m : List Int) (ta ma ba : Option Addr) (tc mc bc : Nat) : Array Value :=
 #[.int .i64 s0.tree.depth, .int .i64 s0.tree.count, .slice ta s0.tree.left.length tc, .int .i64 s0.leaves.length, .slice ma m.length mc, .slice ba s0.book.length bc, .int .u64 s0.hidden]
structure PoW (p q : Nat) (I : Nat → Prop) (w : World) (r : RuM) (s0 s : PoM) (m : List Int) (v : PoV) (ta ma ba : Option Addr) (tc mc bc : Nat) : Prop where
 at' : PoAt p I w r s v
 bef : w.heap[q]? = some (.cells (befCells s0 m ta ma ba tc mc bc) 300 (0, 0))
 tree : numsR.rel I w [.slice ta s0.tree.left.length tc] s0.tree.left
 book : accsR.rel I w [.slice ba s0.book.length bc] s0.book
 hidden : okU s0.hidden
 own : Own u64R 0 24 (fun k => blkO ma = some k) w (.slice ma m.length mc) m
 q1 : ¬ PoMut p v q
 q2 : ¬ I q
 m1 : ∀ k, blkO ma = some k → ¬ PoMut p v k
 m2 : ∀ k, blkO ma = some k → ¬ I k
structure PoStep (p q : Nat) (I : Nat → Prop) (v : PoV) (ma : Option Addr) (w : World) (I' : Nat → Prop) (v' : PoV) (ma' : Option Addr) (w' : World) : Prop where
 kept : Kept (fun k => ¬ PoMut p v k ∧ k ≠ q ∧ blkO ma ≠ some k) w w'
 turn : ∀ k, PoMut p v' k → PoMut p v k ∨ w.heap.size ≤ k
 im : ∀ k, I k → I' k
 im' : ∀ k, I' k → I k ∨ w.heap.size ≤ k
 mm : ∀ k, blkO ma' = some k → blkO ma = some k ∨ w.heap.size ≤ k
theorem PoStep.refl (p q : Nat) (I : Nat → Prop) (v : PoV) (ma : Option Addr) (w : World) : PoStep p q I v ma w I v ma w := ⟨Kept.refl _ _, fun _ h => .inl h, fun _ h => h, fun _ h => .inl h, fun _ h => .inl h⟩
theorem PoStep.trans {p q : Nat} {I I1 I2 : Nat → Prop} {v v1 v2 : PoV} {ma ma1 ma2 : Option Addr} {w w1 w2 : World} (h : PoStep p q I v ma w I1 v1 ma1 w1) (h' : PoStep p q I1 v1 ma1 w1 I2 v2 ma2 w2) : PoStep p q I v ma w I2 v2 ma2 w2 := by
 have hz := h.kept.size
 refine ⟨h.kept.trans h'.kept fun k hk hs => ⟨fun hm => ?_, hs.2.1, fun e => ?_⟩, fun k hm => ?_, fun k hi => h'.im k (h.im k hi), fun k hi => ?_, fun k e => ?_⟩
 · rcases h.turn k hm with h1 | h1
   · exact hs.1 h1
   · omega
 · rcases h.mm k e with h1 | h1
   · exact hs.2.2 h1
   · omega
 · rcases h'.turn k hm with h1 | h1
   · exact h.turn k h1
   · exact .inr (by omega)
 · rcases h'.im' k hi with h1 | h1
   · exact h.im' k h1
   · exact .inr (by omega)
 · rcases h'.mm k e with h1 | h1
   · exact h.mm k h1
   · exact .inr (by omega)
section
variable {p q : Nat} {I I' : Nat → Prop} {w w' w2 : World} {r : RuM} {s0 s s' : PoM} {m : List Int} {v v' : PoV} {ta ma ba : Option Addr} {tc mc bc : Nat}
theorem PoW.step (h : PoW p q I w r s0 s m v ta ma ba tc mc bc) (hat : PoAt p I' w' r s' v') (hk : Kept (fun k => ¬ PoMut p v k) w w') (hmut : ∀ k, PoMut p v' k → PoMut p v k ∨ w.heap.size ≤ k) (hI : ∀ k, I k → I' k) (hI' : ∀ k, I' k → I k ∨ w.heap.size ≤ k) :
   PoW p q I' w' r s0 s' m v' ta ma ba tc mc bc ∧ PoStep p q I v ma w I' v' ma w' := by
 have hql := box_lt h.bef
 have hml : ∀ k, blkO ma = some k → k < w.heap.size := fun k e => by obtain ⟨cur, hc⟩ := own_obj h.own e; exact box_lt hc
 have hfr : ∀ k, I k → ¬ PoMut p v k := fun k hi hm => h.at'.free k hm hi
 refine ⟨⟨hat, box_kept hk h.bef h.q1, numsR.mono (numsR.keep h.tree (hk.mono fun k _ => hfr k)) fun k _ => hI k, (accsR).mono ((accsR).keep h.book (hk.mono fun k _ => hfr k)) fun k _ => hI k, h.hidden, h.own.keep (hk.mono fun k _ e => h.m1 k e), ?_, ?_, ?_, ?_⟩, hk.mono fun _ _ hs => hs.1, hmut, hI, hI', fun k e => .inl e⟩
 · intro hm
   rcases hmut q hm with h1 | h1
   · exact h.q1 h1
   · omega
 · intro hi
   rcases hI' q hi with h1 | h1
   · exact h.q2 h1
   · omega
 · intro k e hm
   have := hml k e
   rcases hmut k hm with h1 | h1
   · exact h.m1 k e h1
   · omega
 · intro k e hi
   have := hml k e
   rcases hI' k hi with h1 | h1
   · exact h.m2 k e h1
   · omega
theorem PoW.same (h : PoW p q I w r s0 s m v ta ma ba tc mc bc) (hb : Below w.heap.size w w') : PoW p q I w' r s0 s m v ta ma ba tc mc bc ∧ PoStep p q I v ma w I v ma w' :=
 h.step (h.at'.keepB hb) (Kept.of_below hb) (fun _ h => .inl h) (fun _ h => h) fun _ h => .inl h
theorem PoW.keepB (h : PoW p q I w r s0 s m v ta ma ba tc mc bc) (hb : Below w.heap.size w w') : PoW p q I w' r s0 s m v ta ma ba tc mc bc := (h.same hb).1
theorem PoStep.below {ma : Option Addr} (hb : Below w.heap.size w w') : PoStep p q I v ma w I v ma w' := ⟨Kept.of_below hb, fun _ h => .inl h, fun _ h => h, fun _ h => .inl h, fun _ h => .inl h⟩
theorem PoW.ne (h : PoW p q I w r s0 s m v ta ma ba tc mc bc) : q ≠ p := fun e => h.q1 (.inl e)
theorem PoW.row_q (h : PoW p q I w r s0 s m v ta ma ba tc mc bc) : blkO ma ≠ some q := by
 intro e; obtain ⟨cur, hc⟩ := own_obj h.own e; rw [h.bef] at hc; simp at hc
theorem PoW.marksTo (h : PoW p q I w r s0 s m v ta ma ba tc mc bc) {F : Nat → Prop} {u : Value} {xs : List Int} (ho : Own u64R 0 24 F w2 u xs) (hk : Kept (fun k => blkO ma ≠ some k) w w2) (hb : u.ownBlock = blkO ma ∨ u.ownBlock = some w.heap.size) :
   ∃ a c, u = .slice a xs.length c ∧ PoW p q I (w2.setCell ⟨q, 4, none⟩ u) r s0 s xs v ta a ba tc c bc ∧ PoStep p q I v ma w I v a (w2.setCell ⟨q, 4, none⟩ u) := by
 obtain ⟨a, c, rfl, -, -⟩ := own_form ho; rw [own_blk] at hb
 have hor : ∀ k, blkO a = some k → blkO ma = some k ∨ k = w.heap.size := fun k e => by
   rcases hb with hb | hb
   · exact .inl (hb ▸ e)
   · rw [hb] at e; exact .inr (Option.some.inj e).symm
 have hql := box_lt h.bef; have hkq := kept_one w2 q 4 (.slice a xs.length c)
 have hnq : blkO a ≠ some q := fun e => by
   rcases hor q e with h1 | h1
   · exact h.row_q h1
   · omega
 have hkk : Kept (fun k => k ≠ q ∧ blkO ma ≠ some k) w (w2.setCell ⟨q, 4, none⟩ (.slice a xs.length c)) := (hk.mono fun k _ h => h.2).trans hkq fun k _ h => h.1
 have ht := ho.tight; rw [own_blk] at ht
 have hma : ∀ k, blkO a = some k → ¬ PoMut p v k ∧ ¬ I k := fun k e => by
   rcases hor k e with h1 | rfl
   · exact ⟨h.m1 k h1, h.m2 k h1⟩
   · refine ⟨fun hm => ?_, fun hi => ?_⟩
     · have := h.at'.mut_lt _ hm; omega
     · have := h.at'.lt _ hi; omega
 have hI : ∀ k, I k → k ≠ q ∧ blkO ma ≠ some k := fun k hi => ⟨fun e => h.q2 (e ▸ hi), fun e => h.m2 k e hi⟩
 refine ⟨a, c, rfl, ⟨h.at'.keep hkk hI fun k hm => ⟨fun e => h.q1 (e ▸ hm), fun e => h.m1 k e hm⟩, ?_, numsR.keep h.tree (hkk.mono fun k _ => hI k), (accsR).keep h.book (hkk.mono fun k _ => hI k), h.hidden, ht.keep (hkq.mono fun k _ e => fun e' => hnq (e' ▸ e)), h.q1, h.q2, fun k e => (hma k e).1, fun k e => (hma k e).2⟩,
   hkk.mono fun k _ hs => hs.2, fun _ h => .inl h, fun _ h => h, fun _ h => .inl h, fun k e => ?_⟩
 · have hc2 : w2.heap[q]? = some (.cells (befCells s0 m ta ma ba tc mc bc) 300 (0, 0)) := box_kept hk h.bef h.row_q
   exact box_set hc2
 · rcases hor k e with h1 | h1
   · exact .inl h1
   · exact .inr (by omega)
end
end Go.Proofs.YtphacfkcifpobaaGreatDoor
