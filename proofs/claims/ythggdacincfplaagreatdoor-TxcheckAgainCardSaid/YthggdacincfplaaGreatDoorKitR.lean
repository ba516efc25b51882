/- Rows in place: deleting, clearing, storing an element. Nothing of the program is named here; no conditions. -/
import Derived.Test.YthggdacincfplaaGreatDoorKit
import Derived.Laws.IdiomCopy
namespace Go.Proofs.YthggdacincfplaaGreatDoor
open Go.ChangeShapes Go.WideShapes Go.ChangeAt Go.RowKit

theorem flatten_take {β : Type} {n : Nat} : ∀ (css : List (List β)), (∀ cs ∈ css, cs.length = n) → ∀ k, (css.take k).flatten = css.flatten.take (k * n)
  | [], _, k => by simp
  | d :: css, hl, 0 => by simp
  | d :: css, hl, k + 1 => by
    have hd : d.length = n := hl d (by simp)
    rw [List.take_succ_cons, List.flatten_cons, flatten_take css (fun cs hc => hl cs (by simp [hc])) k, List.flatten_cons, Nat.succ_mul, List.take_append, hd]
    rw [List.take_of_length_le (l := d) (by omega)]
    congr 2; omega
theorem flatten_drop {β : Type} {n : Nat} : ∀ (css : List (List β)), (∀ cs ∈ css, cs.length = n) → ∀ k, (css.drop k).flatten = css.flatten.drop (k * n)
  | [], _, k => by simp
  | d :: css, hl, 0 => by simp
  | d :: css, hl, k + 1 => by
    have hd : d.length = n := hl d (by simp)
    rw [List.drop_succ_cons, flatten_drop css (fun cs hc => hl cs (by simp [hc])) k, List.flatten_cons, Nat.succ_mul, List.drop_append, hd]
    rw [List.drop_of_length_le (l := d) (by omega), List.nil_append]
    congr 1; omega

/-- At block g lies a row of cap places, the first of which hold xs; what they hold lies in S, g is not in S. -/
def Row {α : Type} (r : Rep α) (e : TypeId) (S : Nat → Prop) (w : World) (g cap : Nat) (xs : List α) : Prop :=
  ∃ (cur : Array Value) (css : List (List Value)), w.heap[g]? = some (.cells cur e (0, 0)) ∧ cur.size = cap * r.n ∧ css.length = xs.length ∧
    (∀ (i : Nat) (cs : List Value) (x : α), css[i]? = some cs → xs[i]? = some x → r.rel S w cs x) ∧ cur.toList.take (xs.length * r.n) = css.flatten ∧ xs.length ≤ cap ∧ ¬ S g ∧ ∀ k, S k → k < w.heap.size

theorem Own.row {α : Type} {r : Rep α} {base : Nat} {e : TypeId} {F : Nat → Prop} {w : World} {g n cap : Nat} {xs : List α} (h : Own r base e F w (.slice (some ⟨g, 0, none⟩) n cap) xs) :
    n = xs.length ∧ base ≤ g ∧ cap ≤ maxLen ∧ F g ∧ ∃ S, (∀ k, S k → F k) ∧ Row r e S w g cap xs := by
  obtain ⟨S, css, hS, hv, hl, hr, ho⟩ := h
  rcases ho.2 with ⟨h1, -⟩ | ⟨g', cap', cur, h1, hb, hg, h2, h3, h4, h5⟩
  · simp at h1
  · simp at h1
    obtain ⟨rfl, rfl, rfl⟩ := h1
    exact ⟨rfl, hb, h3, (hv g rfl).2, S, fun k hk => (hS k hk).1, cur, css, hg, h4, hl, hr, h5, h2, (hv g rfl).1, fun k hk => (hS k hk).2⟩
theorem Row.own {α : Type} {r : Rep α} {base : Nat} {e : TypeId} {F S : Nat → Prop} {w : World} {g cap : Nat} {xs : List α} (h : Row r e S w g cap xs) (hSF : ∀ k, S k → F k) (hF : F g) (hb : base ≤ g) (hc : cap ≤ maxLen) :
    Own r base e F w (.slice (some ⟨g, 0, none⟩) xs.length cap) xs := by
  obtain ⟨cur, css, hg, h4, hl, hr, h5, h2, hng, hS⟩ := h
  refine ⟨S, css, fun k hk => ⟨hSF k hk, hS k hk⟩, fun k hk => ?_, hl, hr, ?_, .inr ⟨g, cap, cur, rfl, hb, hg, h2, hc, h4, h5⟩⟩
  · simp [Value.ownBlock] at hk; subst hk; exact ⟨hng, hF⟩
  · rw [flatten_len (all_len hl hr), hl]
theorem Row.lt {α : Type} {r : Rep α} {e : TypeId} {S : Nat → Prop} {w : World} {g cap : Nat} {xs : List α} (h : Row r e S w g cap xs) : g < w.heap.size := by
  obtain ⟨cur, css, hg, -⟩ := h
  exact box_lt hg
theorem Row.keep {α : Type} {r : Rep α} {e : TypeId} {S : Nat → Prop} {w w' : World} {g cap : Nat} {xs : List α} (h : Row r e S w g cap xs) (hk : Kept (fun k => S k ∨ k = g) w w') : Row r e S w' g cap xs := by
  obtain ⟨cur, css, hg, h4, hl, hr, h5, h2, hng, hS⟩ := h
  exact ⟨cur, css, box_kept hk hg (.inr rfl), h4, hl, fun i cs x hc hx => r.keep (hr i cs x hc hx) (hk.mono fun k _ h => .inl h), h5, h2, hng, fun k hk' => Nat.lt_of_lt_of_le (hS k hk') hk.size⟩
theorem Row.slice {α : Type} {r : Rep α} {e : TypeId} {S : Nat → Prop} {w : World} {g cap : Nat} {xs : List α} (h : Row r e S w g cap xs) (hc : cap ≤ maxLen) : (sliceR r).rel (fun k => S k ∨ k = g) w [.slice (some ⟨g, 0, none⟩) xs.length cap] xs :=
  (h.own (F := fun k => S k ∨ k = g) (base := 0) (fun _ h => .inl h) (.inr rfl) (Nat.zero_le _) hc).slice

theorem kept_setRow (w : World) (g : Nat) (cs : Array Value) : Kept (fun k => k ≠ g) w (w.setRow g cs) :=
  ⟨rfl, rfl, rfl, by simp, fun k _ hk => setRow_other w g k cs hk⟩

/-- The row is written anew, its own elements read as before. -/
theorem Row.rewrite {α : Type} {r : Rep α} {e : TypeId} {S : Nat → Prop} {w : World} {g cap : Nat} {ys : List α} {css : List (List Value)} {cur : Array Value} (hg : w.heap[g]? = some (.cells cur e (0, 0))) (hng : ¬ S g) (hS : ∀ k, S k → k < w.heap.size)
    (hl : css.length = ys.length) (hr : ∀ (i : Nat) (cs : List Value) (x : α), css[i]? = some cs → ys[i]? = some x → r.rel S w cs x) (cur' : List Value) (h4 : cur'.length = cap * r.n) (h5 : cur'.take (ys.length * r.n) = css.flatten) (h2 : ys.length ≤ cap) :
    Row r e S (w.setRow g cur'.toArray) g cap ys :=
  ⟨cur'.toArray, css, setRow_heap w g cur _ e _ hg, by simpa using h4, hl, fun i cs x hc hx => r.keep (hr i cs x hc hx) ((kept_setRow w g _).mono fun k _ hk he => hng (he ▸ hk)), by simpa using h5, h2, hng, fun k hk => by simpa using hS k hk⟩

theorem eraseIdx_len {β : Type} (l : List β) (k : Nat) (h : k < l.length) : (l.eraseIdx k).length = l.length - 1 := by rw [List.length_eraseIdx, if_pos h]
theorem eraseIdx_get {β : Type} (l : List β) (k : Nat) : l.eraseIdx k = l.take k ++ l.drop (k + 1) := List.eraseIdx_eq_take_drop_succ l k

theorem run_delete_append {P : Program} {α : Type} {r : Rep α} {t e : TypeId} {bytes : Nat} (hT : ElemTy P t e r.n bytes) {S : Nat → Prop} {w : World} {g cap : Nat} {xs : List α} (h : Row r e S w g cap xs) (k : Nat) (hk : k < xs.length)
    (ad : Addr) (c : Nat) (had : k + 1 < xs.length → ad = ⟨g, (k + 1) * r.n, none⟩) :
    ∃ w1, (∀ ty, (Builtin.append_ #[t, t] ty #[.slice (some ⟨g, 0, none⟩) k cap, .slice (some ad) (xs.length - (k + 1)) c]).run P w = .ok (.slice (some ⟨g, 0, none⟩) (xs.length - 1) cap) w1) ∧ Row r e S w1 g cap (xs.eraseIdx k) ∧ Kept (fun x => x ≠ g) w w1 := by
  obtain ⟨ht, hn, i, z, hi, hz, hsize, hby, hzs⟩ := hT
  obtain ⟨cur, css, hg, h4, hl, hr, h5, h2, hng, hS⟩ := h
  have hall := all_len hl hr
  have hfl : css.flatten.length = xs.length * r.n := by rw [flatten_len hall, hl]
  have hnl : (css.drop (k + 1)).flatten.length = (xs.length - (k + 1)) * r.n := by
    rw [flatten_len (fun cs hc => hall cs (List.mem_of_mem_drop hc)), List.length_drop, hl]
  have hcur : ∀ j u, css.flatten[j]? = some u → w.cell? ⟨g, j, none⟩ = some u := by
    intro j u hj
    rw [(box_cells hg).1, ← Array.getElem?_toList]
    rw [← h5, List.getElem?_take] at hj
    split at hj
    · exact hj
    · simp at hj
  have hnews : ∀ j u, (css.drop (k + 1)).flatten[j]? = some u → w.cell? (ad.add j) = some u := by
    intro j u hj
    have hjl : j < (xs.length - (k + 1)) * r.n := by rw [← hnl]; exact (List.getElem?_eq_some_iff.1 hj).1
    have hpos : k + 1 < xs.length := by
      rcases Nat.lt_or_ge (k + 1) xs.length with h | h
      · exact h
      · rw [Nat.sub_eq_zero_of_le h] at hjl; omega
    rw [had hpos, Addr.add_lit]
    rw [flatten_drop css hall, List.getElem?_drop] at hj
    exact hcur _ _ hj
  have hsz : xs.length * r.n ≤ cap * r.n := Nat.mul_le_mul_right _ h2
  have hk1 : k * r.n + (xs.length - (k + 1)) * r.n + r.n = xs.length * r.n := by
    rw [← Nat.add_mul]
    have : xs.length = (k + (xs.length - (k + 1))) + 1 := by omega
    conv => rhs; rw [this, Nat.succ_mul]
  have hrun := fun ty => run_append_room (P := P) w t ty e i ht hi g k cap cur hg ad (xs.length - (k + 1)) c (css.drop (k + 1)).flatten (by rw [hsize, hnl]) hnews
    (fun u hu => all_one hl hr u (by rw [flatten_drop css hall] at hu; exact List.mem_of_mem_drop hu)) (by omega) (by rw [hsize, hnl, h4]; omega)
  rw [hsize] at hrun
  refine ⟨_, fun ty => by rw [hrun]; congr 3; omega, ?_, kept_setRow w g _⟩
  have htk : cur.toList.take (k * r.n) = (css.take k).flatten := by
    rw [flatten_take css hall, ← h5, List.take_take, Nat.min_eq_left (by omega)]
  refine Row.rewrite (css := css.eraseIdx k) hg hng hS (by rw [eraseIdx_len _ _ (by omega), eraseIdx_len _ _ hk, hl]) ?_ _ ?_ ?_ ?_
  · intro j cs x hc hx
    rw [List.getElem?_eraseIdx] at hc hx
    split at hc
    · rw [if_pos (by assumption)] at hx; exact hr _ cs x hc hx
    · rw [if_neg (by assumption)] at hx; exact hr _ cs x hc hx
  · simp only [List.length_append, List.length_take, List.length_drop, Array.length_toList, hnl, h4]
    omega
  · rw [eraseIdx_len _ _ hk, eraseIdx_get, List.flatten_append, htk]
    have hlen : ((css.take k).flatten ++ (css.drop (k + 1)).flatten).length = (xs.length - 1) * r.n := by
      rw [List.length_append, hnl, flatten_take css hall, List.length_take, hfl, Nat.min_eq_left (by omega), ← Nat.add_mul]
      congr 1; omega
    rw [List.take_left' hlen]
  · rw [eraseIdx_len _ _ hk]; omega

theorem zeroCells_len (z : Array Value) (m : Nat) : (Builtin.zeroCells z m).toList.length = m * z.size := by
  rw [Array.length_toList, size_zeroCells]
theorem run_clear_row {P : Program} {α : Type} {r : Rep α} {t e : TypeId} (ht : P.underlying t = some (.slice e)) {z : Value} (hz : ∀ w, (zeroValue e).run P w = .ok z w) (hzs : z.cells.size = r.n) (hzo : ∀ m, ∀ u ∈ (Builtin.zeroCells z.cells m).toList, u.oneCell' = true)
    {S : Nat → Prop} {w : World} {g cap : Nat} {xs : List α} (h : Row r e S w g cap xs) (o m : Nat) (hom : o + m ≤ cap) (hxo : xs.length ≤ o) (ad : Addr) (had : 0 < m → ad = ⟨g, o * r.n, none⟩) :
    ∃ w1, (∀ ty c, (Builtin.clear_ #[t] ty #[.slice (some ad) m c]).run P w = .ok (.tuple #[]) w1) ∧ Row r e S w1 g cap xs ∧ Kept (fun x => x ≠ g) w w1 := by
  cases m with
  | zero =>
    refine ⟨w, fun ty c => ?_, h, Kept.refl _ _⟩
    simp [Builtin.clear_, run_underlying ht]
  | succ m =>
    obtain rfl := had (by omega)
    obtain ⟨cur, css, hg, h4, hl, hr, h5, h2, hng, hS⟩ := h
    have hcl : cur.toList.length = cap * r.n := by simpa using h4
    have hlz : (Builtin.zeroCells z.cells (m + 1)).toList.length = (m + 1) * r.n := by rw [zeroCells_len, hzs]
    have hle : o * r.n + (m + 1) * r.n ≤ cap * r.n := by rw [← Nat.add_mul]; exact Nat.mul_le_mul_right _ hom
    have hxle : xs.length * r.n ≤ o * r.n := Nat.mul_le_mul_right _ hxo
    have hst := run_storeCells_at P g (o * r.n) e (Builtin.zeroCells z.cells (m + 1)).toList 0 cur w hg (by rw [hlz, h4]; omega) (hzo (m + 1))
    simp only [Nat.add_zero] at hst
    refine ⟨_, fun ty c => ?_, ?_, kept_setRow w g (cur.toList.take (o * r.n) ++ (Builtin.zeroCells z.cells (m + 1)).toList ++ cur.toList.drop (o * r.n + (Builtin.zeroCells z.cells (m + 1)).toList.length)).toArray⟩
    · simp [Builtin.clear_, run_underlying ht, hz, hst]
    · refine Row.rewrite (css := css) hg hng hS hl hr _ ?_ ?_ h2
      · simp only [List.length_append, List.length_take, List.length_drop, Array.length_toList, hlz, h4]
        omega
      · rw [List.append_assoc, List.take_append_of_le_length (by rw [List.length_take, hcl, Nat.min_eq_left (by omega)]; exact hxle), List.take_take, Nat.min_eq_left hxle, h5]

/-- One element is stored. -/
theorem setCells_setRow (g : Nat) (e : TypeId) : ∀ (vs : List Value) (o : Nat) (w : World) (cur : Array Value), w.heap[g]? = some (.cells cur e (0, 0)) → o + vs.length ≤ cur.size →
    w.setCells g o vs = w.setRow g (cur.toList.take o ++ vs ++ cur.toList.drop (o + vs.length)).toArray
  | [], o, w, cur, hg, _ => by simp [World.setCells, setRow_self w g cur e (0, 0) hg]
  | v :: vs, o, w, cur, hg, hlt => by
    simp only [List.length_cons] at hlt
    rw [World.setCells, setCells_setRow g e vs (o + 1) (w.setCell ⟨g, o, none⟩ v) (cur.setIfInBounds o v) (box_set hg) (by simp; omega)]
    have hw : ∀ cs : Array Value, (w.setCell ⟨g, o, none⟩ v).setRow g cs = w.setRow g cs := by
      intro cs
      simp only [World.setRow, World.setCell]
      congr 1
      apply Array.ext_getElem?
      intro j
      simp only [Array.getElem?_modify]
      split
      · rename_i hj; subst hj; rw [hg]; simp
      · rfl
    rw [hw]
    congr 2
    rw [Array.toList_setIfInBounds]
    have hcl : cur.toList.length = cur.size := by simp
    generalize cur.toList = L at *
    have e1 : (L.set o v).take (o + 1) = L.take o ++ [v] := by
      rw [List.set_eq_take_append_cons_drop, if_pos (by omega), List.take_append, List.take_of_length_le (by simp; omega), List.length_take, Nat.min_eq_left (by omega), Nat.add_sub_cancel_left]
      simp
    rw [e1, List.drop_set_of_lt (by omega), List.append_assoc (L.take o), List.singleton_append]
    congr 2
    simp only [List.length_cons]; omega
theorem Row.store {α : Type} {r : Rep α} {e : TypeId} {S : Nat → Prop} {w : World} {g cap : Nat} {xs : List α} (h : Row r e S w g cap xs) (i : Nat) (hi : i < xs.length) {es : List Value} {x : α} (hx : r.rel S w es x) :
    Row r e S (w.setCells g (i * r.n) es) g cap (xs.set i x) ∧ Kept (fun k => k ≠ g) w (w.setCells g (i * r.n) es) := by
  obtain ⟨cur, css, hg, h4, hl, hr, h5, h2, hng, hS⟩ := h
  have hel := r.len hx
  have hall := all_len hl hr
  have hile : (i + 1) * r.n ≤ xs.length * r.n := Nat.mul_le_mul_right _ hi
  have hsz : xs.length * r.n ≤ cap * r.n := Nat.mul_le_mul_right _ h2
  have hcl : cur.toList.length = cap * r.n := by simpa using h4
  rw [Nat.succ_mul] at hile
  rw [setCells_setRow g e es (i * r.n) w cur hg (by rw [h4, hel]; omega)]
  refine ⟨Row.rewrite (css := css.set i es) hg hng hS (by simp [hl]) ?_ _ ?_ ?_ (by simpa using h2), kept_setRow w g _⟩
  · intro j cs y hc hy
    rw [List.getElem?_set] at hc hy
    by_cases hij : i = j
    · subst hij
      simp [hl, hi] at hc hy
      subst hc hy
      exact hx
    · rw [if_neg hij] at hc hy
      exact hr j cs y hc hy
  · simp only [List.length_append, List.length_take, List.length_drop, Array.length_toList, h4, hel]
    omega
  · rw [List.length_set, List.set_eq_take_append_cons_drop, if_pos (by omega), List.flatten_append, List.flatten_cons, flatten_take css hall, flatten_drop css hall, ← h5, hel]
    rw [List.take_take, Nat.min_eq_left (by omega), List.append_assoc, List.take_append, List.take_take, Nat.min_eq_right (by omega)]
    congr 1
    rw [List.length_take, hcl, Nat.min_eq_left (by omega), List.take_append, List.take_of_length_le (by omega)]
    congr 1
    rw [hel, List.drop_take, Nat.succ_mul]
    congr 1
    omega

/-- An append whose run is known, at a step of a region that draws its order. -/
theorem step_append_eq {P : Program} {ops : Array Oper} {o : Oper} {a : Act} {K : Act → World → Prop} {Q : Exit → Act → World → Prop} {E : Prop} (hgd : o.guard = none) (s x : Operand) {t : TypeId}
    (ho : o.op = .call { callee := .builtin .append, args := #[s, x], argTypes := #[t, t] }) {w w' : World} {v u v' : Value} (hs : a.eval s = v) (hx : a.eval x = u)
    (hr : ∀ ty, (Builtin.append_ #[t, t] ty #[v, u]).run P w = .ok v' w') (hK : K (a.put o.dst v') w') : if Region.wanted o (yielded ops a.tmps) = true then Oper.wp P o a w K Q else E := by
  have hw : Region.wanted o (yielded ops a.tmps) = true := by simp [Region.wanted, hgd]
  rw [if_pos hw]
  unfold Oper.wp execOp
  simp only [ho, resolve, invoke, builtin, Sem.run_bind, Sem.run_pure, Result.andThen_ok, List.map_toArray, List.map_cons, List.map_nil, hs, hx, hr]
  exact hK
theorem Row.at {α : Type} {r : Rep α} {e : TypeId} {S : Nat → Prop} {w : World} {g cap : Nat} {xs : List α} (h : Row r e S w g cap xs) (i : Nat) (hi : i < xs.length) :
    ∃ es, r.rel S w es xs[i] ∧ CellsAt w g (i * r.n) es := by
  obtain ⟨cur, css, hg, h4, hl, hr, h5, h2, hng, hS⟩ := h
  have hcs : css[i]? = some (css[i]'(by omega)) := by simp [hl, hi]
  refine ⟨css[i]'(by omega), hr i _ _ hcs (by simp [hi]), fun j c hj => ?_⟩
  have := flatten_at (all_len hl hr) i _ hcs j c hj
  rw [(box_cells hg).1, ← Array.getElem?_toList]
  rw [← h5, List.getElem?_take] at this
  split at this
  · exact this
  · simp at this
theorem Row.facts {α : Type} {r : Rep α} {e : TypeId} {S : Nat → Prop} {w : World} {g cap : Nat} {xs : List α} (h : Row r e S w g cap xs) : ¬ S g ∧ (∀ k, S k → k < w.heap.size) ∧ xs.length ≤ cap := by
  obtain ⟨cur, css, hg, h4, hl, hr, h5, h2, hng, hS⟩ := h
  exact ⟨hng, hS, h2⟩
end Go.Proofs.YthggdacincfplaaGreatDoor
