/- Reading structs and arrays as representations. Nothing of the program is named here; no conditions. -/
import Derived.Test.YthggdacincfplaaGreatDoorKitT
namespace Go.Proofs.YthggdacincfplaaGreatDoor
open Go.ChangeShapes Go.WideShapes Go.ChangeAt Go.RowKit
section
variable {H : Type} {enc : TypeId × Value → H} {P : Program} {W : World}

theorem Reads.bool {t : TypeId} (ht : P.underlying t = some .bool) : Reads H enc P W boolR t := by
  intro fuel cs x h
  obtain ⟨n, rfl, -⟩ := DataW.trod_bool ht h
  exact ⟨n, rfl⟩
theorem Reads.map {α β : Type} {r : Rep α} {t : TypeId} (g : α → β) (f : β → α) (hfg : ∀ x, f (g x) = x) (h : Reads H enc P W r t) : Reads H enc P W (mapR f r) t := by
  intro fuel cs x hx
  obtain ⟨a, ha⟩ := h fuel cs x hx
  exact ⟨g a, by show r.rel _ _ _ (f (g a)); rw [hfg]; exact ha⟩

/-- The fields from this offset on are represented by r. -/
inductive FieldsBy (H : Type) (enc : TypeId × Value → H) (P : Program) (W : World) : Nat → List Field → (α : Type) → Rep α → Prop
  | last {o : Nat} {f : Field} {α : Type} {r : Rep α} (ho : f.offset = o) (hc : P.cellsOf f.type = r.n) (hr : Reads H enc P W r f.type) : FieldsBy H enc P W o [f] α r
  | more {o : Nat} {f : Field} {fs : List Field} {α β : Type} {r : Rep α} {s : Rep β} (ho : f.offset = o) (hc : P.cellsOf f.type = r.n) (hr : Reads H enc P W r f.type) (h : FieldsBy H enc P W (o + r.n) fs β s) :
      FieldsBy H enc P W o (f :: fs) (α × β) (pairR r s)
theorem FieldsBy.read {o : Nat} {fs : List Field} {α : Type} {r : Rep α} (h : FieldsBy H enc P W o fs α r) {n : Nat} {cs : List Value} (hl : cs.length = o + r.n)
    (hf : FieldsRead (fun u o => ∃ y, DataW.trod enc P W 0 (fun _ => true) true n u ((cs.drop o).take (P.cellsOf u)) = some y) fs) : ∃ a, r.rel (fun k => k < W.heap.size) W (cs.drop o) a := by
  induction h with
  | last ho hc hr =>
    obtain ⟨⟨y, hy⟩, -⟩ := hf
    rw [ho, hc, List.take_of_length_le (by rw [List.length_drop]; omega)] at hy
    exact hr n _ _ hy
  | @more o f fs α β r s ho hc hr h ih =>
    obtain ⟨⟨y, hy⟩, hf⟩ := hf
    have hl' : cs.length = o + (r.n + s.n) := hl
    rw [ho, hc] at hy
    obtain ⟨a, ha⟩ := hr n _ _ hy
    obtain ⟨b, hb⟩ := ih (by omega) hf
    refine ⟨(a, b), (cs.drop o).take r.n, cs.drop (o + r.n), ?_, ha, hb⟩
    rw [← List.drop_drop, List.take_append_drop]
theorem Reads.struct {t : TypeId} {fs : List Field} {α : Type} {r : Rep α} (ht : P.underlying t = some (.struct fs.toArray)) (hc : P.cellsOf t = r.n) (h : FieldsBy H enc P W 0 fs α r) : Reads H enc P W r t := by
  intro fuel cs x hx
  obtain ⟨hl, n, hf⟩ := trod_fields ht hx
  have := h.read (n := n) (cs := cs) (by rw [hl, hc]; omega) hf
  simpa using this
theorem Reads.array2 {t e : TypeId} {α : Type} {r : Rep α} (ht : P.underlying t = some (.array 2 e)) (hc : P.cellsOf t = r.n + r.n) (he : P.cellsOf e = r.n) (hr : Reads H enc P W r e) : Reads H enc P W (pairR r r) t := by
  intro fuel cs x hx
  obtain ⟨xs, m, -, -, hl, hxl, hat⟩ := DataW.trod_array ht hx
  match xs, hxl with
  | [x0, x1], _ =>
    have h0 := hat 0 (by omega)
    have h1 := hat 1 (by omega)
    rw [he] at h0 h1
    simp only [Nat.zero_mul, List.drop_zero, Nat.one_mul] at h0 h1
    obtain ⟨a, ha⟩ := hr m _ x0 h0
    obtain ⟨b, hb⟩ := hr m _ x1 h1
    rw [List.take_of_length_le (by rw [List.length_drop, hl, hc]; omega)] at hb
    exact ⟨(a, b), _, _, (List.take_append_drop r.n cs).symm, ha, hb⟩
/-- An argument that is a struct: its cells, and what it reads as. -/
theorem open_rel_struct {α : Type} {r : Rep α} {t : TypeId} {fs : Array Field} {rc : Reach} {b0 : Nat} {v : Value} {d : DataW H} {ps : List MemPlace} (ht : P.underlying t = some (.struct fs)) (hr : Reads H enc P W r t)
    (hv : Value.okWide P W rc b0 t v) (h : DataW.Trod enc P W 0 (fun _ => true) true t v d ps) : ∃ cs x, v = .agg cs ∧ r.rel (fun k => k < W.heap.size) W cs.toList x := by
  obtain ⟨cs, rfl, -⟩ := okWide_struct ht hv
  obtain ⟨fuel, hf⟩ := h
  obtain ⟨x, hx⟩ := hr fuel _ _ hf
  exact ⟨cs, x, rfl, hx⟩
/-- An argument that is a slice: its value, and what it reads as. -/
theorem open_rel_slice {α : Type} {r : Rep α} {t e : TypeId} {rc : Reach} {b0 : Nat} {v : Value} {d : DataW H} {ps : List MemPlace} (ht : P.underlying t = some (.slice e)) (hr : Reads H enc P W (sliceR r) t)
    (hv : Value.okWide P W rc b0 t v) (h : DataW.Trod enc P W 0 (fun _ => true) true t v d ps) : ∃ a cap xs, v = .slice a xs.length cap ∧ (sliceR r).rel (fun k => k < W.heap.size) W [.slice a xs.length cap] xs := by
  obtain ⟨a, len, cap, rfl⟩ := okWide_slice ht hv
  obtain ⟨fuel, hf⟩ := h
  obtain ⟨xs, hx⟩ := hr fuel _ _ hf
  have hx' : (sliceR r).rel (fun k => k < W.heap.size) W [.slice a len cap] xs := hx
  obtain ⟨rfl, -⟩ := sliceR.lens hx'
  exact ⟨a, cap, xs, rfl, hx'⟩
end
end Go.Proofs.YthggdacincfplaaGreatDoor
