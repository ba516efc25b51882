/- From a reading of an argument to a representation. Nothing of the program is named here; no conditions. -/
import Derived.Test.YtphacfkcifpobaaGreatDoorM01
set_option maxRecDepth 100000
namespace Go.Proofs.YtphacfkcifpobaaGreatDoor
open Go.ChangeShapes Go.WideShapes Go.ChangeAt Go.RowKit
def Reads {α : Type} (H : Type) (enc : TypeId × Value → H) (P : Program) (W : World) (r : Rep α) (t : TypeId) : Prop :=
 ∀ (fuel : Nat) (cs : List Value) (x : DataW H × List MemPlace), DataW.trod enc P W 0 (fun _ => true) true fuel t cs = some x → ∃ a, r.rel (fun k => k < W.heap.size) W cs a
section
variable {H : Type} {enc : TypeId × Value → H} {P : Program} {W : World}
theorem Reads.int {k : IntKind} {t : TypeId} (ht : P.underlying t = some (.int k)) : Reads H enc P W (intR k) t := by
 intro fuel cs x h
 obtain ⟨n, rfl, -, hw⟩ := DataW.trod_int ht h
 exact ⟨n, rfl, hw⟩
theorem Reads.slice {α : Type} {r : Rep α} {t e : TypeId} (hr : Reads H enc P W r e) (ht : P.underlying t = some (.slice e)) (hn : P.cellsOf e = r.n) (h0 : 0 < r.n) : Reads H enc P W (sliceR r) t := by
 intro fuel cs x h
 rcases DataW.trod_slice ht h with ⟨rfl, -⟩ | ⟨a, len, cap, elems, rest, n, -, rfl, -, -, hl, hm, hel, hat, -⟩
 · exact ⟨[], sliceR.nil⟩
 · rw [hn] at hat
   obtain ⟨xs, hxl, hxs⟩ := exists_list (Q := fun i (y : α) => ∃ es, W.cells? 0 (a.add (i * r.n)) r.n = some es ∧ r.rel (fun k => k < W.heap.size) W es y) len (by
     intro i hi
     have h1 := hat i hi
     have h2 : elems[i]? = some (elems[i]'(by omega)) := by simp [hel, hi]
     rw [h2, Option.bind_eq_some_iff] at h1; obtain ⟨es, h3, h4⟩ := h1; obtain ⟨y, hy⟩ := hr n es _ h4
     exact ⟨y, es, h3, hy⟩)
   refine ⟨xs, some a, len, cap, rfl, hxl.symm, hl, hm, fun h => by simp at h, fun i y hy => ?_⟩
   obtain ⟨es, h3, h4⟩ := hxs i y hy; obtain ⟨-, h5, h6⟩ := World.cells?_some h3; have hc0 := h6 0 h0; have hes : es.length = r.n := r.len h4
   have he0 : es[0]? = some (es[0]'(by omega)) := by simp [hes, h0]
   rw [he0] at hc0
   have hsp : a.spot = none := by
     have hi : i < xs.length := (List.getElem?_eq_some_iff.1 hy).1
     obtain ⟨es', h3', h4'⟩ := hxs 0 (xs[0]'(by omega)) (by simp)
     obtain ⟨-, -, h6'⟩ := World.cells?_some h3'; have hc := h6' 0 h0; have hes' : es'.length = r.n := r.len h4'
     have he' : es'[0]? = some (es'[0]'(by omega)) := by simp [hes', h0]
     rw [he', Nat.zero_mul] at hc
     exact World.cell?_spot hc
   obtain ⟨b, o, sp⟩ := a
   simp only at hsp
   subst hsp
   refine ⟨b, o, es, rfl, ?_, h4, fun j c hj => ?_, ?_⟩
   · rw [Addr.add_lit, Addr.add_lit] at hc0; exact cell_lt hc0
   · have hj' : j < r.n := by rw [← hes]; exact (List.getElem?_eq_some_iff.1 hj).1
     have := h6 j hj'; rw [Addr.add_lit, Addr.add_lit, hj] at this
     exact this
   · rw [Addr.add_lit, Addr.add_lit] at hc0; exact cell_lt hc0
def FieldsRead (Q : TypeId → Nat → Prop) : List Field → Prop
 | [] => True
 | f :: fs => Q f.type f.offset ∧ FieldsRead Q fs
theorem fieldsRead_of (Q : TypeId → Nat → Prop) : ∀ (fs : List Field), (∀ (i : Nat) (f : Field), fs[i]? = some f → Q f.type f.offset) → FieldsRead Q fs
 | [], _ => trivial
 | f :: fs, h => ⟨h 0 f rfl, fieldsRead_of Q fs fun i g hg => h (i + 1) g (by simpa using hg)⟩
theorem trod_fields {base : Nat} {sp : Nat → Bool} {held : Bool} {fuel : Nat} {t : TypeId} {cs : List Value} {x : DataW H × List MemPlace} {fs : List Field}
   (ht : P.underlying t = some (.struct fs.toArray)) (h : DataW.trod enc P W base sp held fuel t cs = some x) :
   cs.length = P.cellsOf t ∧ ∃ n, FieldsRead (fun u o => ∃ y, DataW.trod enc P W base sp held n u ((cs.drop o).take (P.cellsOf u)) = some y) fs := by
 obtain ⟨xs, n, -, -, hl, hxl, hfs⟩ := DataW.trod_struct ht h
 refine ⟨hl, n, fieldsRead_of _ fs fun i f hf => ?_⟩
 have hi : i < xs.length := by
   rw [hxl]; have := (List.getElem?_eq_some_iff.1 hf).1
   simpa using this
 exact ⟨xs[i], by rw [hfs i f (by simpa using hf)]; simp [hi]⟩
theorem Reads.four {α β γ δ : Type} {r0 : Rep α} {r1 : Rep β} {r2 : Rep γ} {r3 : Rep δ} {t t0 t1 t2 t3 : TypeId} {f0 f1 f2 f3 : Field} (ht : P.underlying t = some (.struct #[f0, f1, f2, f3])) (hc : P.cellsOf t = 4)
   (h0 : f0.type = t0 ∧ f0.offset = 0) (h1 : f1.type = t1 ∧ f1.offset = 1) (h2 : f2.type = t2 ∧ f2.offset = 2) (h3 : f3.type = t3 ∧ f3.offset = 3)
   (c0 : P.cellsOf t0 = 1) (c1 : P.cellsOf t1 = 1) (c2 : P.cellsOf t2 = 1) (c3 : P.cellsOf t3 = 1)
   (k0 : Reads H enc P W r0 t0) (k1 : Reads H enc P W r1 t1) (k2 : Reads H enc P W r2 t2) (k3 : Reads H enc P W r3 t3) : Reads H enc P W (pairR r0 (pairR r1 (pairR r2 r3))) t := by
 intro fuel cs x h
 obtain ⟨hl, n, ⟨y0, g0⟩, ⟨y1, g1⟩, ⟨y2, g2⟩, ⟨y3, g3⟩, -⟩ := trod_fields (fs := [f0, f1, f2, f3]) ht h; rw [hc] at hl
 match cs, hl with
 | [v0, v1, v2, v3], _ =>
   rw [h0.1, h0.2, c0] at g0; rw [h1.1, h1.2, c1] at g1; rw [h2.1, h2.2, c2] at g2; rw [h3.1, h3.2, c3] at g3; obtain ⟨a0, r0'⟩ := k0 n _ _ g0; obtain ⟨a1, r1'⟩ := k1 n _ _ g1; obtain ⟨a2, r2'⟩ := k2 n _ _ g2; obtain ⟨a3, r3'⟩ := k3 n _ _ g3
   exact ⟨(a0, a1, a2, a3), [v0], [v1, v2, v3], rfl, r0', [v1], [v2, v3], rfl, r1', [v2], [v3], rfl, r2', r3'⟩
end
end Go.Proofs.YtphacfkcifpobaaGreatDoor
/- Reading structs and arrays as representations. Nothing of the program is named here; no conditions. -/
namespace Go.Proofs.YtphacfkcifpobaaGreatDoor
open Go.ChangeShapes Go.WideShapes Go.ChangeAt Go.RowKit
section
variable {H : Type} {enc : TypeId × Value → H} {P : Program} {W : World}
theorem Reads.bool {t : TypeId} (ht : P.underlying t = some .bool) : Reads H enc P W boolR t := by
 intro fuel cs x h
 obtain ⟨n, rfl, -⟩ := DataW.trod_bool ht h
 exact ⟨n, rfl⟩
theorem Reads.map {α β : Type} {r : Rep α} {t : TypeId} (g : α → β) (f : β → α) (hfg : ∀ x, f (g x) = x) (h : Reads H enc P W r t) : Reads H enc P W (mapR f r) t := by
 intro fuel cs x hx
 obtain ⟨a, ha⟩ := h fuel cs x hx
 exact ⟨g a, by show r.rel _ _ _ (f (g a)); rw [hfg]; exact ha⟩
inductive FieldsBy (H : Type) (enc : TypeId × Value → H) (P : Program) (W : World) : Nat → List Field → (α : Type) → Rep α → Prop
 | last {o : Nat} {f : Field} {α : Type} {r : Rep α} (ho : f.offset = o) (hc : P.cellsOf f.type = r.n) (hr : Reads H enc P W r f.type) : FieldsBy H enc P W o [f] α r
 | more {o : Nat} {f : Field} {fs : List Field} {α β : Type} {r : Rep α} {s : Rep β} (ho : f.offset = o) (hc : P.cellsOf f.type = r.n) (hr : Reads H enc P W r f.type) (h : FieldsBy H enc P W (o + r.n) fs β s) :
     FieldsBy H enc P W o (f :: fs) (α × β) (pairR r s)
theorem FieldsBy.read {o : Nat} {fs : List Field} {α : Type} {r : Rep α} (h : FieldsBy H enc P W o fs α r) {n : Nat} {cs : List Value} (hl : cs.length = o + r.n)
   (hf : FieldsRead (fun u o => ∃ y, DataW.trod enc P W 0 (fun _ => true) true n u ((cs.drop o).take (P.cellsOf u)) = some y) fs) : ∃ a, r.rel (fun k => k < W.heap.size) W (cs.drop o) a := by
 induction h with
 | last ho hc hr =>
   obtain ⟨⟨y, hy⟩, -⟩ := hf
   rw [ho, hc, List.take_of_length_le (by rw [List.length_drop]; omega)] at hy
   exact hr n _ _ hy
 | @more o f fs α β r s ho hc hr h ih =>
   obtain ⟨⟨y, hy⟩, hf⟩ := hf; have hl' : cs.length = o + (r.n + s.n) := hl; rw [ho, hc] at hy; obtain ⟨a, ha⟩ := hr n _ _ hy
   obtain ⟨b, hb⟩ := ih (by omega) hf
   refine ⟨(a, b), (cs.drop o).take r.n, cs.drop (o + r.n), ?_, ha, hb⟩
   rw [← List.drop_drop, List.take_append_drop]
theorem Reads.struct {t : TypeId} {fs : List Field} {α : Type} {r : Rep α} (ht : P.underlying t = some (.struct fs.toArray)) (hc : P.cellsOf t = r.n) (h : FieldsBy H enc P W 0 fs α r) : Reads H enc P W r t := by
 intro fuel cs x hx
 obtain ⟨hl, n, hf⟩ := trod_fields ht hx
 have := h.read (n := n) (cs := cs) (by rw [hl, hc]; omega) hf
 simpa using this
theorem Reads.array2 {t e : TypeId} {α : Type} {r : Rep α} (ht : P.underlying t = some (.array 2 e)) (hc : P.cellsOf t = r.n + r.n) (he : P.cellsOf e = r.n) (hr : Reads H enc P W r e) : Reads H enc P W (pairR r r) t := by
 intro fuel cs x hx
 obtain ⟨xs, m, -, -, hl, hxl, hat⟩ := DataW.trod_array ht hx
 match xs, hxl with
 | [x0, x1], _ =>
   have h0 := hat 0 (by omega)
   have h1 := hat 1 (by omega)
   rw [he] at h0 h1
   simp only [Nat.zero_mul, List.drop_zero, Nat.one_mul] at h0 h1
   obtain ⟨a, ha⟩ := hr m _ x0 h0; obtain ⟨b, hb⟩ := hr m _ x1 h1
   rw [List.take_of_length_le (by rw [List.length_drop, hl, hc]; omega)] at hb
   exact ⟨(a, b), _, _, (List.take_append_drop r.n cs).symm, ha, hb⟩
theorem open_rel_struct {α : Type} {r : Rep α} {t : TypeId} {fs : Array Field} {rc : Reach} {b0 : Nat} {v : Value} {d : DataW H} {ps : List MemPlace} (ht : P.underlying t = some (.struct fs)) (hr : Reads H enc P W r t)
   (hv : Value.okWide P W rc b0 t v) (h : DataW.Trod enc P W 0 (fun _ => true) true t v d ps) : ∃ cs x, v = .agg cs ∧ r.rel (fun k => k < W.heap.size) W cs.toList x := by
 obtain ⟨cs, rfl, -⟩ := okWide_struct ht hv; obtain ⟨fuel, hf⟩ := h; obtain ⟨x, hx⟩ := hr fuel _ _ hf
 exact ⟨cs, x, rfl, hx⟩
theorem open_rel_slice {α : Type} {r : Rep α} {t e : TypeId} {rc : Reach} {b0 : Nat} {v : Value} {d : DataW H} {ps : List MemPlace} (ht : P.underlying t = some (.slice e)) (hr : Reads H enc P W (sliceR r) t)
   (hv : Value.okWide P W rc b0 t v) (h : DataW.Trod enc P W 0 (fun _ => true) true t v d ps) : ∃ a cap xs, v = .slice a xs.length cap ∧ (sliceR r).rel (fun k => k < W.heap.size) W [.slice a xs.length cap] xs := by
 obtain ⟨a, len, cap, rfl⟩ := okWide_slice ht hv; obtain ⟨fuel, hf⟩ := h; obtain ⟨xs, hx⟩ := hr fuel _ _ hf
 have hx' : (sliceR r).rel (fun k => k < W.heap.size) W [.slice a len cap] xs := hx
 obtain ⟨rfl, -⟩ := sliceR.lens hx'
 exact ⟨a, cap, xs, rfl, hx'⟩
end
end Go.Proofs.YtphacfkcifpobaaGreatDoor
