/- Writing one byte of messages that own their bytes. -/
import Derived.Test.YtccckjaefnojaaaY
namespace Go.Proofs.Ytccckjaefnojaaa
open Go.ChangeShapes Go.WideShapes Go.ChangeAt Go.RowKit

theorem flatten_ones {α β : Type} (f : α → β) : ∀ xs : List α, (xs.map fun x => [f x]).flatten = xs.map f
  | [] => rfl
  | x :: xs => by simp [flatten_ones f xs]
theorem kept_poke (w : World) (b j : Nat) (u : Value) : Kept (fun k => k ≠ b) w (w.setCell ⟨b, j, none⟩ u) := (Kept.refl _ w).setCell (fun _ h => h rfl) u

theorem Own.poke {S : Nat → Prop} {w : World} {v : Value} {xs : List Int} (h : Own (intR .u8) 0 5 S w v xs) (b j : Nat) {y : Int} (hy : (Lit.int .u8 y).wf = true) :
    ∃ xs' : List Int, xs'.length = xs.length ∧ Own (intR .u8) 0 5 S (w.setCell ⟨b, j, none⟩ (.int .u8 y)) v xs' := by
  obtain ⟨S0, css, hS, hv, hl, hr, ho⟩ := h
  have hsz : w.heap.size = (w.setCell ⟨b, j, none⟩ (.int .u8 y)).heap.size := (World.size_setCell ..).symm
  have hcss : css = xs.map fun x => [.int .u8 x] := by
    apply List.ext_getElem?
    intro i
    rw [List.getElem?_map]
    rcases Nat.lt_or_ge i xs.length with hi | hi
    · have h1 : css[i]? = some (css[i]'(by omega)) := by simp [hl, hi]
      have h2 : xs[i]? = some xs[i] := by simp [hi]
      have := (hr i _ _ h1 h2).1
      rw [h1, h2, this]; rfl
    · rw [List.getElem?_eq_none (by omega), List.getElem?_eq_none hi]; rfl
  have hwf : ∀ x ∈ xs, (Lit.int .u8 x).wf = true := by
    intro x hx
    obtain ⟨i, hi, rfl⟩ := List.getElem_of_mem hx
    exact (hr i (css[i]'(by omega)) xs[i] (by simp [hl, hi]) (by simp [hi])).2
  subst hcss
  rw [flatten_ones] at ho
  have build : ∀ xs' : List Int, xs'.length = xs.length → (∀ x ∈ xs', (Lit.int .u8 x).wf = true) → (w.setCell ⟨b, j, none⟩ (.int .u8 y)).ownsRow 0 5 1 v xs'.length (xs'.map (.int .u8)) → Own (intR .u8) 0 5 S (w.setCell ⟨b, j, none⟩ (.int .u8 y)) v xs' := by
    intro xs' h1 h2 h3
    refine ⟨fun _ => False, xs'.map fun x => [.int .u8 x], fun _ h => h.elim, fun k hk => ⟨fun h => h, (hv k hk).2⟩, by simp, fun i cs x hc hx => ?_, by rw [flatten_ones]; exact h3⟩
    rw [List.getElem?_map, hx] at hc
    obtain rfl := Option.some.inj hc
    exact ⟨rfl, h2 x (List.mem_of_getElem? hx)⟩
  rcases ho.2 with ⟨rfl, h0⟩ | ⟨g, cap, cur, rfl, hb, hg, h1, h2, h3, h4⟩
  · exact ⟨xs, rfl, build xs rfl hwf ⟨by simp, .inl ⟨rfl, h0⟩⟩⟩
  · by_cases e : b = g
    · subst e
      refine ⟨xs.set j y, by simp, build _ (by simp) ?_ ?_⟩
      · intro x hx
        rcases List.mem_or_eq_of_mem_set hx with q | q
        · exact hwf x q
        · rw [q]; exact hy
      · refine ⟨by simp, .inr ⟨b, cap, _, by simp, Nat.zero_le _, box_set hg, by simpa using h1, h2, by simpa [intR] using h3, ?_⟩⟩
        have h4' : cur.toList.take xs.length = xs.map (.int .u8) := by simpa [intR] using h4
        rw [Array.toList_setIfInBounds, List.length_set, Nat.mul_one, List.take_set, h4', List.map_set]
    · refine ⟨xs, rfl, build xs rfl hwf ⟨by simp, .inr ⟨g, cap, cur, rfl, Nat.zero_le _, box_set_far hg (fun q => e q.symm), h1, h2, h3, h4⟩⟩⟩

theorem msgO.poke {S : Nat → Prop} {w : World} {cs : List Value} {m : Msg} (h : msgO.rel S w cs m) (b j : Nat) {y : Int} (hy : (Lit.int .u8 y).wf = true) :
    ∃ m', msgO.rel S (w.setCell ⟨b, j, none⟩ (.int .u8 y)) cs m' := by
  obtain ⟨v, rfl, h1, h2, h3, h4⟩ := msgO.inv h
  obtain ⟨xs', -, h5⟩ := h4.poke b j hy
  exact ⟨⟨m.kind, m.frm, m.to, xs'⟩, msgO.mk (m := ⟨m.kind, m.frm, m.to, xs'⟩) h1 h2 h3 h5⟩

/-- A row of n messages that own their bytes; what the messages hold does not matter. -/
def OwnW (S : Nat → Prop) (w : World) (v : Value) (n : Nat) : Prop :=
  ∃ css : List (List Value), css.length = n ∧ (∀ k, S k → k < w.heap.size) ∧ (∀ k, v.ownBlock = some k → ¬ S k) ∧ (∀ cs ∈ css, ∃ m, msgO.rel S w cs m) ∧ w.ownsRow 0 24 4 v n css.flatten
theorem OwnW.of {F : Nat → Prop} {w : World} {v : Value} {ms : List Msg} (h : Own msgO 0 24 F w v ms) : ∃ S, (∀ k, S k → F k) ∧ OwnW S w v ms.length := by
  obtain ⟨S, css, hS, hv, hl, hr, ho⟩ := h
  refine ⟨S, fun k hk => (hS k hk).1, css, hl, fun k hk => (hS k hk).2, fun k hk => (hv k hk).1, fun cs hc => ?_, ho⟩
  obtain ⟨i, hi, rfl⟩ := List.getElem_of_mem hc
  exact ⟨ms[i]'(by omega), hr i css[i] (ms[i]'(by omega)) (by simp [hi]) (by simp [hl ▸ hi])⟩
theorem OwnW.poke {S : Nat → Prop} {w : World} {v : Value} {n : Nat} (h : OwnW S w v n) (b j : Nat) (hb : S b) {y : Int} (hy : (Lit.int .u8 y).wf = true) : OwnW S (w.setCell ⟨b, j, none⟩ (.int .u8 y)) v n := by
  obtain ⟨css, h1, h2, h3, h4, h5⟩ := h
  refine ⟨css, h1, fun k hk => by rw [World.size_setCell]; exact h2 k hk, h3, fun cs hc => ?_, ownsRow_keep h5 (kept_poke w b j _) fun k hk e => h3 k hk (e ▸ hb)⟩
  obtain ⟨m, hm⟩ := h4 cs hc
  exact msgO.poke hm b j hy
theorem OwnW.keep {S T : Nat → Prop} {w w' : World} {v : Value} {n : Nat} (h : OwnW S w v n) (hk : Kept T w w') (hS : ∀ k, S k → T k) (hv : ∀ k, v.ownBlock = some k → T k) : OwnW S w' v n := by
  obtain ⟨css, h1, h2, h3, h4, h5⟩ := h
  refine ⟨css, h1, fun k hk' => Nat.lt_of_lt_of_le (h2 k hk') hk.size, h3, fun cs hc => ?_, ownsRow_keep h5 hk hv⟩
  obtain ⟨m, hm⟩ := h4 cs hc
  exact ⟨m, msgO.keep hm (hk.mono fun k _ h => hS k h)⟩
theorem OwnW.keepB {S : Nat → Prop} {w w' : World} {v : Value} {n : Nat} (h : OwnW S w v n) (hb : Below w.heap.size w w') : OwnW S w' v n :=
  h.keep (T := fun _ => True) (Kept.of_below hb) (fun _ _ => trivial) (fun _ _ => trivial)
theorem OwnW.lt {S : Nat → Prop} {w : World} {v : Value} {n : Nat} (h : OwnW S w v n) : ∀ k, S k → k < w.heap.size := by
  obtain ⟨css, h1, h2, -⟩ := h
  exact h2
theorem OwnW.form {S : Nat → Prop} {w : World} {v : Value} {n : Nat} (h : OwnW S w v n) : ∃ a cap, v = .slice a n cap ∧ n ≤ cap ∧ cap ≤ maxLen := by
  obtain ⟨css, h1, h2, h3, h4, h5⟩ := h
  rcases h5.2 with ⟨rfl, rfl⟩ | ⟨g, cap, cur, rfl, -, hg, q1, q2, q3, q4⟩
  · exact ⟨none, 0, rfl, Nat.le_refl _, by unfold maxLen; omega⟩
  · exact ⟨_, _, rfl, q1, q2⟩
/-- Message number k of such a row: its cells, and its bytes. -/
theorem OwnW.at {S : Nat → Prop} {w : World} {a : Option Addr} {n cap : Nat} (h : OwnW S w (.slice a n cap) n) (k : Nat) (hk : k < n) :
    ∃ (g : Nat) (m : Msg) (va : Option Addr) (vc : Nat), a = some ⟨g, 0, none⟩ ∧ g < w.heap.size ∧ w.cell? ⟨g, k * 4, none⟩ = some (.int .i64 m.kind) ∧ w.cell? ⟨g, k * 4 + 1, none⟩ = some (.int .i64 m.frm) ∧
      w.cell? ⟨g, k * 4 + 2, none⟩ = some (.int .i64 m.to) ∧ w.cell? ⟨g, k * 4 + 3, none⟩ = some (.slice va m.bytes.length vc) ∧ Own (intR .u8) 0 5 S w (.slice va m.bytes.length vc) m.bytes := by
  obtain ⟨css, h1, h2, h3, h4, h5⟩ := h
  rcases id h5.2 with ⟨q0, q1⟩ | ⟨g, cap', cur, hv, -, hg, q1, q2, q3, q4⟩
  · omega
  · simp only [Value.slice.injEq] at hv
    obtain ⟨rfl, -, rfl⟩ := hv
    have hcs : css[k]? = some (css[k]'(by omega)) := by simp [h1, hk]
    obtain ⟨m, hm⟩ := h4 _ (List.mem_of_getElem? hcs)
    obtain ⟨v, hcv, -, -, -, hby⟩ := msgO.inv hm
    obtain ⟨va, vc, rfl, -, -⟩ := sliceR.form hby.slice
    have hall : ∀ cs ∈ css, cs.length = 4 := fun cs hc => by obtain ⟨m, hm⟩ := h4 cs hc; exact msgO.len hm
    have hcell : ∀ j c, (css[k]'(by omega))[j]? = some c → w.cell? ⟨g, k * 4 + j, none⟩ = some c := fun j c hj => by
      have := flatten_at hall k _ hcs j c hj
      have hc := h5.cells (g := g) rfl (k * 4 + j) c this
      rw [Addr.add_lit] at hc
      simpa using hc
    rw [hcv] at hcell
    exact ⟨g, m, va, vc, rfl, box_lt hg, hcell 0 _ rfl, hcell 1 _ rfl, hcell 2 _ rfl, hcell 3 _ rfl, hby⟩
/-- Byte number j of bytes that own their row. -/
theorem Own.byte {S : Nat → Prop} {w : World} {a : Option Addr} {n cap : Nat} {xs : List Int} (h : Own (intR .u8) 0 5 S w (.slice a n cap) xs) (j : Nat) (hj : j < xs.length) :
    ∃ b x, a = some ⟨b, 0, none⟩ ∧ S b ∧ b < w.heap.size ∧ w.cell? ⟨b, j, none⟩ = some (.int .u8 x) ∧ (∀ o, w.frozen? ⟨b, o, none⟩ = false) ∧ 0 ≤ x ∧ x ≤ 255 := by
  obtain ⟨b, off, es, ha, hb, hbl, hr, hc⟩ := sliceR.at h.slice j hj
  have hzero : off = 0 ∧ ∀ o, w.frozen? ⟨b, o, none⟩ = false := by
    obtain ⟨S0, css, hS, hv, hl, hr', ho⟩ := h
    rcases ho.2 with ⟨q0, -⟩ | ⟨g, cap', cur, hv', -, hg, q1, q2, q3, q4⟩
    · subst ha; simp at q0
    · subst ha
      simp only [Value.slice.injEq, Option.some.injEq, Addr.mk.injEq] at hv'
      obtain ⟨⟨rfl, rfl, -⟩, -, -⟩ := hv'
      exact ⟨rfl, (box_cells hg).2⟩
  obtain ⟨rfl, hf⟩ := hzero
  obtain ⟨rfl, hw⟩ := hr
  have h0 := hc 0 _ rfl
  have hx : 0 ≤ xs[j] ∧ xs[j] ≤ 255 := by simpa [Lit.wf, IntKind.min, IntKind.max, IntKind.signed, IntKind.bits] using hw
  refine ⟨b, xs[j], ha, hb, hbl, ?_, hf, hx.1, hx.2⟩
  simpa [intR] using h0
end Go.Proofs.Ytccckjaefnojaaa
