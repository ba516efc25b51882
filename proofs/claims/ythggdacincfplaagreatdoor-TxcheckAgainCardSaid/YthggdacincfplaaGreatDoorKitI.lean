/- Rows of numbers: made, copied, read. Nothing of the program is named here; no conditions. -/
import Derived.Test.YthggdacincfplaaGreatDoorKitR
import Derived.Laws.CopyOwn
namespace Go.Proofs.YthggdacincfplaaGreatDoor
open Go.ChangeShapes Go.WideShapes Go.ChangeAt Go.RowKit

theorem flatten_ones {α β : Type} (f : α → β) : ∀ xs : List α, (xs.map fun x => [f x]).flatten = xs.map f
  | [] => rfl
  | x :: xs => by simp [flatten_ones f xs]
/-- A row of numbers that is known whole is owned. -/
theorem own_ints {k : IntKind} {base : Nat} {e : TypeId} {w : World} {g cap : Nat} {xs : List Int} {cur : List Value} (hg : w.heap[g]? = some (.cells cur.toArray e (0, 0))) (hsz : cur.length = cap) (ht : cur.take xs.length = xs.map (Value.int k))
    (hwf : ∀ x ∈ xs, (Lit.int k x).wf = true) (hle : xs.length ≤ cap) (hm : cap ≤ maxLen) (hb : base ≤ g) : Own (intR k) base e (fun x => False ∨ base ≤ x) w (.slice (some ⟨g, 0, none⟩) xs.length cap) xs := by
  refine Row.own (S := fun _ => False) ⟨cur.toArray, xs.map (fun x => [.int k x]), hg, by simp [hsz, intR], by simp, fun i cs x hc hx => ?_, ?_, hle, fun h => h, fun _ h => h.elim⟩ (fun _ h => h.elim) (.inr hb) hb hm
  · rw [List.getElem?_map, hx] at hc
    simp at hc
    subst hc
    exact ⟨rfl, hwf x (List.mem_of_getElem? hx)⟩
  · rw [flatten_ones]
    simpa [intR] using ht
/-- The cells of a slice of numbers. -/
theorem ints_cells {k : IntKind} {S : Nat → Prop} {w : World} {a : Option Addr} {len cap : Nat} {xs : List Int} (h : (sliceR (intR k)).rel S w [.slice a len cap] xs) (h0 : 0 < xs.length) :
    ∃ ad, a = some ad ∧ ∀ j v, (xs.map (Value.int k))[j]? = some v → w.cell? (ad.add j) = some v := by
  obtain ⟨b, off, es, rfl, -, -, -, -⟩ := sliceR.at h 0 h0
  refine ⟨_, rfl, fun j v hj => ?_⟩
  rw [List.getElem?_map] at hj
  obtain ⟨x, hx, rfl⟩ := Option.map_eq_some_iff.1 hj
  obtain ⟨hjl, rfl⟩ := List.getElem?_eq_some_iff.1 hx
  obtain ⟨b', off', es, he, -, -, ⟨rfl, -⟩, hca⟩ := sliceR.at h j hjl
  simp at he
  obtain ⟨rfl, rfl⟩ := he
  rw [Addr.add_lit]
  have := hca 0 _ rfl
  simpa [intR] using this
theorem ints_wf {k : IntKind} {S : Nat → Prop} {w : World} {a : Option Addr} {len cap : Nat} {xs : List Int} (h : (sliceR (intR k)).rel S w [.slice a len cap] xs) : ∀ x ∈ xs, (Lit.int k x).wf = true := by
  intro x hx
  obtain ⟨j, hj, rfl⟩ := List.getElem_of_mem hx
  obtain ⟨b', off', es, he, -, -, ⟨rfl, hw⟩, hca⟩ := sliceR.at h j hj
  exact hw
/-- 'make' with a length and a capacity. -/
theorem wpList_make_lc {P : Program} {w : World} {ops : Array Oper} {rest : List Oper} {o : Oper} {a : Act} {Q : Exit → Act → World → Prop} (hg : o.guard = none) (l c : Operand) {t : TypeId} (hop : o.op = Op.makeSlice t l c)
    {e : TypeId} {bytes : Nat} (hT : ElemTy P t e 1 bytes) {kl kc : IntKind} {L C : Int} {n m : Nat} (hl : a.eval l = .int kl L) (hc : a.eval c = .int kc C) (hL : L = (n : Int)) (hC : C = (m : Int)) (hnm : n ≤ m)
    (b2 : bytes * m ≤ 281474976710656) (b3 : m ≤ maxLen)
    (hK : ∀ cur : List Value, cur.length = m → ∀ w', w'.heap[w.heap.size]? = some (.cells cur.toArray e (0, 0)) → Below w.heap.size w w' → w'.heap.size = w.heap.size + 1 → wpList P ops Q rest (a.put o.dst (.slice (some ⟨w.heap.size, 0, none⟩) n m)) w') :
    wpList P ops Q (o :: rest) a w := by
  obtain ⟨ht, hn, i, z, hi, hz, hsize, hby, hzs⟩ := hT
  refine wpList_plain hg fun K hK' => ?_
  subst hL hC
  have h63 : (m : Int) ≤ 9223372036854775807 := by unfold maxLen at b3; omega
  have hb' : (i.bytes : Int) * (m : Int) ≤ 281474976710656 := by
    have h : ((i.bytes * m : Nat) : Int) ≤ 281474976710656 := by rw [hby]; omega
    rwa [Int.natCast_mul] at h
  have hr := run_make (P := P) w t e i z ht hi hz kl kc n m (by omega) (by omega) hb' h63
  simp only [Int.toNat_natCast, hsize, Nat.mul_one] at hr
  unfold Oper.wp
  simp [execOp, hop, hl, hc, hr, Result.andThen]
  refine hK' _ _ (hK (madeCells z.cells m).toList (by simp [size_madeCells]) _ ?_ (bnew (Below.refl _ _) _) (by simp))
  have := box_new w (.cells (madeCells z.cells m) e)
  simpa using this
/-- 'make' of n zeros, the world written out. -/
theorem wpList_make_cells {P : Program} {w : World} {ops : Array Oper} {rest : List Oper} {o : Oper} {a : Act} {Q : Exit → Act → World → Prop} (hg : o.guard = none) (l c : Operand) {t : TypeId} (hop : o.op = Op.makeSlice t l c)
    {e : TypeId} {bytes : Nat} (hT : ElemTy P t e 1 bytes) {z : Value} (hzz : (P.info? e).map (·.zero) = some (some z)) {kl kc : IntKind} {L C : Int} {n : Nat} (hl : a.eval l = .int kl L) (hc : a.eval c = .int kc C) (hL : L = (n : Int)) (hC : C = (n : Int))
    (b2 : bytes * n ≤ 281474976710656) (b3 : n ≤ maxLen)
    (hK : wpList P ops Q rest (a.put o.dst (.slice (some ⟨w.heap.size, 0, none⟩) n n)) (w.alloc (.cells (madeCells z.cells n).toList.toArray e))) :
    wpList P ops Q (o :: rest) a w := by
  obtain ⟨ht, hn, i, z', hi, hz, hsize, hby, hzs⟩ := hT
  obtain rfl : z' = z := by rw [hi] at hzz; simp only [Option.map_some, Option.some.injEq] at hzz; rw [hz] at hzz; exact Option.some.inj hzz
  refine wpList_plain hg fun K hK' => ?_
  subst hL hC
  have h63 : (n : Int) ≤ 9223372036854775807 := by unfold maxLen at b3; omega
  have hb' : (i.bytes : Int) * (n : Int) ≤ 281474976710656 := by
    have h : ((i.bytes * n : Nat) : Int) ≤ 281474976710656 := by rw [hby]; omega
    rwa [Int.natCast_mul] at h
  have hr := run_make (P := P) w t e i z' ht hi hz kl kc n n (by omega) (Int.le_refl _) hb' h63
  simp only [Int.toNat_natCast, hsize, Nat.mul_one] at hr
  unfold Oper.wp
  simp [execOp, hop, hl, hc, hr, Result.andThen]
  exact hK' _ _ (by simpa using hK)
end Go.Proofs.YthggdacincfplaaGreatDoor
