/- A small library over the kit: worlds that keep some blocks, representations of data in memory, rows that a call owns. Nothing of the program is named here; no conditions. -/
import Derived.WalkKit
import Derived.ProofKit
import Derived.OpenShut
import Derived.ChangeOld
import Derived.Below
import Derived.Lib.Hide
import Derived.OwnWalk
import Derived.Deep.AppendLies
import Derived.Maps.AppendAt
import Derived.Deep.Draws
namespace Go.Proofs.YthggdacincfplaaGreatDoor
open Go.ChangeShapes Go.WideShapes Go.ChangeAt Go.RowKit

theorem ret_bool {a b : Bool} (h : a = b) : Ending.returned (.bool a) = .returned (.bool b) := by rw [h]
theorem ret_int {k : IntKind} {a b : Int} (h : a = b) : Ending.returned (.int k a) = .returned (.int k b) := by rw [h]

/-! ### Worlds -/
theorem bnext {a b c : World} (h1 : Below a.heap.size a b) (h2 : Below b.heap.size b c) : Below a.heap.size a c := h1.trans (h2.mono h1.size)
theorem bnew {a b : World} (h : Below a.heap.size a b) (o : Obj) : Below a.heap.size a (b.alloc o) := h.alloc h.size o

/-- Blocks at which S holds are as they were. -/
structure Kept (S : Nat → Prop) (w w' : World) : Prop where
  os : w'.os = w.os
  tape : w'.tape = w.tape
  output : w'.output = w.output
  size : w.heap.size ≤ w'.heap.size
  block : ∀ k, k < w.heap.size → S k → w'.heap[k]? = w.heap[k]?

theorem Kept.refl (S : Nat → Prop) (w : World) : Kept S w w := ⟨rfl, rfl, rfl, Nat.le_refl _, fun _ _ _ => rfl⟩
theorem Kept.trans {S S' : Nat → Prop} {a b c : World} (h : Kept S a b) (k : Kept S' b c) (hS : ∀ i, i < a.heap.size → S i → S' i) : Kept S a c :=
  ⟨k.os.trans h.os, k.tape.trans h.tape, k.output.trans h.output, Nat.le_trans h.size k.size,
   fun i hi hs => (k.block i (Nat.lt_of_lt_of_le hi h.size) (hS i hi hs)).trans (h.block i hi hs)⟩
theorem Kept.mono {S S' : Nat → Prop} {a b : World} (h : Kept S a b) (hS : ∀ i, i < a.heap.size → S' i → S i) : Kept S' a b :=
  ⟨h.os, h.tape, h.output, h.size, fun i hi hs => h.block i hi (hS i hi hs)⟩
theorem Kept.of_below {S : Nat → Prop} {a b : World} (h : Below a.heap.size a b) : Kept S a b := ⟨h.os, h.tape, h.output, h.size, fun i hi _ => h.block i hi⟩
theorem Kept.below {B : Nat} {a b : World} (h : Kept (fun k => k < B) a b) (hB : B ≤ a.heap.size) : Below B a b := ⟨h.os, h.tape, h.output, h.size, fun i hi => h.block i (by omega) hi⟩
theorem Kept.alloc {S : Nat → Prop} {a b : World} (h : Kept S a b) (o : Obj) : Kept S a (b.alloc o) :=
  h.trans (Kept.of_below (bnew (Below.refl _ _) o)) (fun _ _ h => h)
theorem Kept.drew {S : Nat → Prop} {a b : World} (h : Kept S a b) : Kept S a b.drew := ⟨h.os, h.tape, h.output, h.size, h.block⟩
theorem Kept.setCell {S : Nat → Prop} {a b : World} (h : Kept S a b) {p : Addr} (hp : p.block < a.heap.size → ¬ S p.block) (u : Value) : Kept S a (b.setCell p u) :=
  ⟨h.os, h.tape, h.output, by simpa [World.setCell] using h.size, fun i hi hs => (Below.heap_setCell b p u i (fun e => hp (e ▸ hi) (e ▸ hs))).trans (h.block i hi hs)⟩
theorem Kept.grown {S : Nat → Prop} {a b c : World} {row : Option Nat} (h : Kept S a b) (hg : b.grownBy c row) (hr : ∀ k, row = some k → k < a.heap.size → ¬ S k) : Kept S a c :=
  ⟨hg.os.trans h.os, hg.tape.trans h.tape, hg.output.trans h.output, Nat.le_trans h.size hg.size,
   fun i hi hs => (hg.block i (Nat.lt_of_lt_of_le hi h.size) (fun e => hr i e.symm hi hs)).trans (h.block i hi hs)⟩
theorem Kept.of_grown {S : Nat → Prop} {b c : World} {row : Option Nat} (hg : b.grownBy c row) (hr : ∀ k, row = some k → ¬ S k) : Kept S b c :=
  (Kept.refl S b).grown hg (fun k hk _ => hr k hk)
theorem cell_lt {w : World} {a : Addr} {v : Value} (h : w.cell? a = some v) : a.block < w.heap.size := World.block_lt_of_cell? w a h
theorem Kept.cell {S : Nat → Prop} {a b : World} (h : Kept S a b) {p : Addr} {v : Value} (hp : S p.block) (hc : a.cell? p = some v) : b.cell? p = some v :=
  (World.cell?_of_block (w := a) (h.block p.block (cell_lt hc) hp)).trans hc

/-! ### Representations -/
structure Rep (α : Type) where
  n : Nat
  rel : (Nat → Prop) → World → List Value → α → Prop
  len : ∀ {S w cs x}, rel S w cs x → cs.length = n
  one : ∀ {S w cs x}, rel S w cs x → ∀ c ∈ cs, c.oneCell' = true
  keep : ∀ {S w w' cs x}, rel S w cs x → Kept S w w' → rel S w' cs x
  mono : ∀ {S S' w cs x}, rel S w cs x → (∀ k, k < w.heap.size → S k → S' k) → rel S' w cs x

def intR (k : IntKind) : Rep Int where
  n := 1
  rel _ _ cs x := cs = [.int k x] ∧ (Lit.int k x).wf = true
  len h := by rw [h.1]; rfl
  one h := by rw [h.1]; simp [Value.oneCell']
  keep h _ := h
  mono h _ := h

def boolR : Rep Bool where
  n := 1
  rel _ _ cs x := cs = [.bool x]
  len h := by rw [h]; rfl
  one h := by rw [h]; simp [Value.oneCell']
  keep h _ := h
  mono h _ := h

def pairR {α β : Type} (r : Rep α) (s : Rep β) : Rep (α × β) where
  n := r.n + s.n
  rel S w cs x := ∃ c1 c2, cs = c1 ++ c2 ∧ r.rel S w c1 x.1 ∧ s.rel S w c2 x.2
  len := by rintro S w cs x ⟨c1, c2, rfl, h1, h2⟩; rw [List.length_append, r.len h1, s.len h2]
  one := by
    rintro S w cs x ⟨c1, c2, rfl, h1, h2⟩ c hc
    rcases List.mem_append.1 hc with h | h
    · exact r.one h1 c h
    · exact s.one h2 c h
  keep := by rintro S w w' cs x ⟨c1, c2, rfl, h1, h2⟩ hk; exact ⟨c1, c2, rfl, r.keep h1 hk, s.keep h2 hk⟩
  mono := by rintro S S' w cs x ⟨c1, c2, rfl, h1, h2⟩ hk; exact ⟨c1, c2, rfl, r.mono h1 hk, s.mono h2 hk⟩

def mapR {α β : Type} (f : β → α) (r : Rep α) : Rep β where
  n := r.n
  rel S w cs x := r.rel S w cs (f x)
  len h := r.len h
  one h := r.one h
  keep h hk := r.keep h hk
  mono h hk := r.mono h hk

/-- The cells es lie at ⟨b, o⟩, ⟨b, o + 1⟩, .. -/
def CellsAt (w : World) (b o : Nat) (es : List Value) : Prop := ∀ j c, es[j]? = some c → w.cell? ⟨b, o + j, none⟩ = some c
theorem CellsAt.keep {S : Nat → Prop} {w w' : World} {b o : Nat} {es : List Value} (h : CellsAt w b o es) (hk : Kept S w w') (hb : S b) : CellsAt w' b o es :=
  fun j c hj => hk.cell hb (h j c hj)

def sliceR {α : Type} (r : Rep α) : Rep (List α) where
  n := 1
  rel S w cs xs := ∃ a len cap, cs = [.slice a len cap] ∧ len = xs.length ∧ len ≤ cap ∧ cap ≤ maxLen ∧ (a = none → cap = 0) ∧
    ∀ i x, xs[i]? = some x → ∃ b off es, a = some ⟨b, off, none⟩ ∧ S b ∧ r.rel S w es x ∧ CellsAt w b (off + i * r.n) es ∧ b < w.heap.size
  len := by rintro S w cs xs ⟨a, len, cap, rfl, _⟩; rfl
  one := by rintro S w cs xs ⟨a, len, cap, rfl, _⟩ c hc; simp at hc; subst hc; rfl
  keep := by
    rintro S w w' cs xs ⟨a, len, cap, rfl, h1, h2, h3, h4, h5⟩ hk
    refine ⟨a, len, cap, rfl, h1, h2, h3, h4, fun i x hx => ?_⟩
    obtain ⟨b, off, es, ha, hb, hr, hc, hlt⟩ := h5 i x hx
    exact ⟨b, off, es, ha, hb, r.keep hr hk, hc.keep hk hb, Nat.lt_of_lt_of_le hlt hk.size⟩
  mono := by
    rintro S S' w cs xs ⟨a, len, cap, rfl, h1, h2, h3, h4, h5⟩ hk
    refine ⟨a, len, cap, rfl, h1, h2, h3, h4, fun i x hx => ?_⟩
    obtain ⟨b, off, es, ha, hb, hr, hc, hlt⟩ := h5 i x hx
    exact ⟨b, off, es, ha, hk b hlt hb, r.mono hr hk, hc, hlt⟩

section
variable {α : Type} (r : Rep α) {S : Nat → Prop} {w w' : World}
theorem Rep.keepB {cs : List Value} {x : α} (h : r.rel S w cs x) (hb : Below w.heap.size w w') : r.rel S w' cs x := r.keep h (Kept.of_below hb)
/-- Only blocks that exist are read. -/
theorem Rep.bound {cs : List Value} {x : α} (h : r.rel S w cs x) : r.rel (fun k => S k ∧ k < w.heap.size) w cs x := r.mono h fun _ hk hs => ⟨hs, hk⟩
end

theorem sliceR.form {α : Type} {r : Rep α} {S : Nat → Prop} {w : World} {v : Value} {xs : List α} (h : (sliceR r).rel S w [v] xs) :
    ∃ a cap, v = .slice a xs.length cap ∧ xs.length ≤ cap ∧ cap ≤ maxLen := by
  obtain ⟨a, len, cap, hv, rfl, h2, h3, h4, h5⟩ := h
  exact ⟨a, cap, by simpa using hv, h2, h3⟩
theorem sliceR.at {α : Type} {r : Rep α} {S : Nat → Prop} {w : World} {a : Option Addr} {len cap : Nat} {xs : List α} (h : (sliceR r).rel S w [.slice a len cap] xs) (i : Nat) (hi : i < xs.length) :
    ∃ b off es, a = some ⟨b, off, none⟩ ∧ S b ∧ b < w.heap.size ∧ r.rel S w es xs[i] ∧ CellsAt w b (off + i * r.n) es := by
  obtain ⟨a', len', cap', hv, h1, h2, h3, h4, h5⟩ := h
  simp at hv
  obtain ⟨rfl, rfl, rfl⟩ := hv
  obtain ⟨b, off, es, ha, hb, hr, hc, hlt⟩ := h5 i xs[i] (by simp [hi])
  exact ⟨b, off, es, ha, hb, hlt, hr, hc⟩
theorem sliceR.lens {α : Type} {r : Rep α} {S : Nat → Prop} {w : World} {a : Option Addr} {len cap : Nat} {xs : List α} (h : (sliceR r).rel S w [.slice a len cap] xs) :
    len = xs.length ∧ len ≤ cap ∧ cap ≤ maxLen ∧ (a = none → cap = 0) := by
  obtain ⟨a', len', cap', hv, h1, h2, h3, h4, h5⟩ := h
  simp at hv
  obtain ⟨rfl, rfl, rfl⟩ := hv
  exact ⟨h1, h2, h3, h4⟩
theorem sliceR.nil {α : Type} {r : Rep α} {S : Nat → Prop} {w : World} : (sliceR r).rel S w [.slice none 0 0] [] :=
  ⟨none, 0, 0, rfl, rfl, Nat.le_refl _, by unfold maxLen; omega, fun _ => rfl, fun i x h => by simp at h⟩

/-! ### Rows that a call owns -/
/-- v is a slice that owns its row: the elements xs; what they hold, and the row, lies in blocks of F; the row is none of the elements' blocks. -/
def Own {α : Type} (r : Rep α) (base : Nat) (e : TypeId) (F : Nat → Prop) (w : World) (v : Value) (xs : List α) : Prop :=
  ∃ (S : Nat → Prop) (css : List (List Value)), (∀ k, S k → F k ∧ k < w.heap.size) ∧ (∀ k, v.ownBlock = some k → ¬ S k ∧ F k) ∧
    css.length = xs.length ∧ (∀ (i : Nat) (cs : List Value) (x : α), css[i]? = some cs → xs[i]? = some x → r.rel S w cs x) ∧ w.ownsRow base e r.n v xs.length css.flatten

theorem Own.nil {α : Type} (r : Rep α) (base : Nat) (e : TypeId) (F : Nat → Prop) (w : World) : Own r base e F w (.slice none 0 0) [] :=
  ⟨fun _ => False, [], fun _ h => h.elim, fun k h => by simp [Value.ownBlock] at h, rfl, fun i cs x h => by simp at h, World.ownsRow_nil w base e r.n⟩

theorem flatten_at {α : Type} {n : Nat} : ∀ {css : List (List α)}, (∀ cs ∈ css, cs.length = n) → ∀ (i : Nat) (cs : List α), css[i]? = some cs → ∀ j c, cs[j]? = some c → css.flatten[i * n + j]? = some c
  | [], _, i, cs, h, _, _, _ => by simp at h
  | d :: css, hl, 0, cs, h, j, c, hj => by
    simp at h; subst h
    have hjl : j < d.length := (List.getElem?_eq_some_iff.1 hj).1
    simp [List.getElem?_append_left hjl, hj]
  | d :: css, hl, i + 1, cs, h, j, c, hj => by
    have hd : d.length = n := hl d (by simp)
    have := flatten_at (css := css) (fun cs hc => hl cs (by simp [hc])) i cs (by simpa using h) j c hj
    rw [List.flatten_cons, List.getElem?_append_right (by rw [hd, Nat.succ_mul]; omega), hd, ← this]
    congr 1
    rw [Nat.succ_mul]; omega
theorem flatten_len {α : Type} {n : Nat} : ∀ {css : List (List α)}, (∀ cs ∈ css, cs.length = n) → css.flatten.length = css.length * n
  | [], _ => by simp
  | d :: css, hl => by
    rw [List.flatten_cons, List.length_append, flatten_len (css := css) (fun cs hc => hl cs (by simp [hc])), hl d (by simp), List.length_cons, Nat.succ_mul]; omega

section
variable {α : Type} {r : Rep α} {base : Nat} {e : TypeId} {F : Nat → Prop} {w w' : World} {v : Value} {xs : List α}

theorem Own.mono {F' : Nat → Prop} (h : Own r base e F w v xs) (hF : ∀ k, k < w.heap.size → F k → F' k) : Own r base e F' w v xs := by
  obtain ⟨S, css, hS, hv, hl, hr, ho⟩ := h
  exact ⟨S, css, fun k hk => ⟨hF k (hS k hk).2 (hS k hk).1, (hS k hk).2⟩, fun k hk => ⟨(hv k hk).1, hF k (ho.lt k hk).2 (hv k hk).2⟩, hl, hr, ho⟩
theorem ownsRow_keep {base : Nat} {e : TypeId} {size n : Nat} {v : Value} {ys : List Value} {S : Nat → Prop} (h : w.ownsRow base e size v n ys) (hk : Kept S w w') (hv : ∀ k, v.ownBlock = some k → S k) : w'.ownsRow base e size v n ys := by
  refine ⟨h.1, ?_⟩
  rcases h.2 with h0 | ⟨g, cap, cur, rfl, hb, hg, h1, h2, h3, h4⟩
  · exact .inl h0
  · have hlt : g < w.heap.size := (h.lt g rfl).2
    exact .inr ⟨g, cap, cur, rfl, hb, by rw [hk.block g hlt (hv g rfl), hg], h1, h2, h3, h4⟩
theorem Own.keep (h : Own r base e F w v xs) (hk : Kept F w w') : Own r base e F w' v xs := by
  obtain ⟨S, css, hS, hv, hl, hr, ho⟩ := h
  exact ⟨S, css, fun k hk' => ⟨(hS k hk').1, Nat.lt_of_lt_of_le (hS k hk').2 hk.size⟩, hv, hl,
    fun i cs x hc hx => r.keep (hr i cs x hc hx) (hk.mono fun k _ h => (hS k h).1), ownsRow_keep ho hk fun k hk' => (hv k hk').2⟩
theorem Own.keepB (h : Own r base e F w v xs) (hb : Below w.heap.size w w') : Own r base e F w' v xs := h.keep (Kept.of_below hb)
theorem Own.bound (h : Own r base e F w v xs) : Own r base e (fun k => F k ∧ k < w.heap.size) w v xs := h.mono fun _ hk hF => ⟨hF, hk⟩

/-- An owned row reads as a slice. -/
theorem Own.slice (h : Own r base e F w v xs) : (sliceR r).rel F w [v] xs := by
  obtain ⟨S, css, hS, hv, hl, hr, ho⟩ := h
  rcases ho.2 with ⟨rfl, h0⟩ | ⟨g, cap, cur, rfl, hb, hg, h1, h2, h3, h4⟩
  · obtain rfl := List.eq_nil_of_length_eq_zero h0
    exact sliceR.nil
  · refine ⟨_, _, _, rfl, rfl, h1, h2, fun h => by simp at h, fun i x hx => ?_⟩
    have hi : i < xs.length := (List.getElem?_eq_some_iff.1 hx).1
    have hcs : css[i]? = some css[i] := by simp [hl, hi]
    have hrel := hr i _ x hcs hx
    have hall : ∀ cs ∈ css, cs.length = r.n := by
      intro cs hc
      obtain ⟨m, hm, rfl⟩ := List.getElem_of_mem hc
      exact r.len (hr m _ (xs[m]'(by omega)) (by simp [hm]) (by simp [hl ▸ hm]))
    refine ⟨g, 0, css[i], rfl, (hv g rfl).2, r.mono hrel fun k _ hk => (hS k hk).1, fun j c hj => ?_, (ho.lt g rfl).2⟩
    have := flatten_at hall i _ hcs j c hj
    have hc := ho.cells (g := g) rfl (i * r.n + j) c this
    rw [Addr.add_lit] at hc
    simpa using hc
end

/-! ### Appending -/
theorem exists_list {β : Type} {Q : Nat → β → Prop} : ∀ (n : Nat), (∀ i, i < n → ∃ x, Q i x) → ∃ l : List β, l.length = n ∧ ∀ (i : Nat) (x : β), l[i]? = some x → Q i x
  | 0, _ => ⟨[], rfl, fun i x h => by simp at h⟩
  | n + 1, h => by
    obtain ⟨l, hl, hq⟩ := exists_list n (fun i hi => h i (by omega))
    obtain ⟨x, hx⟩ := h n (by omega)
    refine ⟨l ++ [x], by simp [hl], fun i y hy => ?_⟩
    rcases Nat.lt_or_ge i l.length with hlt | hge
    · rw [List.getElem?_append_left hlt] at hy; exact hq i y hy
    · rw [List.getElem?_append_right hge] at hy
      obtain ⟨h1, h2⟩ := List.getElem?_eq_some_iff.1 hy
      simp at h1
      have : i = n := by omega
      subst this
      simp at h2; subst h2; exact hx
theorem flatten_inv {β : Type} {n : Nat} : ∀ {css : List (List β)}, (∀ cs ∈ css, cs.length = n) → ∀ (j : Nat) (c : β), css.flatten[j]? = some c → ∃ i k cs, j = i * n + k ∧ css[i]? = some cs ∧ cs[k]? = some c
  | [], _, j, c, h => by simp at h
  | d :: css, hl, j, c, h => by
    have hd : d.length = n := hl d (by simp)
    rw [List.flatten_cons] at h
    rcases Nat.lt_or_ge j d.length with hlt | hge
    · rw [List.getElem?_append_left hlt] at h
      exact ⟨0, j, d, by simp, rfl, h⟩
    · rw [List.getElem?_append_right hge] at h
      obtain ⟨i, k, cs, h1, h2, h3⟩ := flatten_inv (css := css) (fun cs hc => hl cs (by simp [hc])) _ c h
      exact ⟨i + 1, k, cs, by rw [Nat.succ_mul]; omega, by simpa using h2, h3⟩

/-- A slice from which elements are copied: its row may lie anywhere, what the elements hold lies in S. -/
def Src {α : Type} (r : Rep α) (S : Nat → Prop) (w : World) (u : Value) (ys : List α) : Prop :=
  ∃ (css : List (List Value)) (a : Option Addr) (cap : Nat), u = .slice a ys.length cap ∧ (a = none → cap = 0) ∧ css.length = ys.length ∧
    (∀ (i : Nat) (cs : List Value) (y : α), css[i]? = some cs → ys[i]? = some y → r.rel S w cs y) ∧
    ∀ (j : Nat) (c : Value), css.flatten[j]? = some c → ∃ b off, a = some ⟨b, off, none⟩ ∧ w.cell? ⟨b, off + j, none⟩ = some c

theorem all_len {α : Type} {r : Rep α} {S : Nat → Prop} {w : World} {css : List (List Value)} {ys : List α} (hl : css.length = ys.length)
    (hr : ∀ (i : Nat) (cs : List Value) (y : α), css[i]? = some cs → ys[i]? = some y → r.rel S w cs y) : ∀ cs ∈ css, cs.length = r.n := by
  intro cs hc
  obtain ⟨m, hm, rfl⟩ := List.getElem_of_mem hc
  exact r.len (hr m _ (ys[m]'(by omega)) (by simp [hm]) (by simp [hl ▸ hm]))
theorem all_one {α : Type} {r : Rep α} {S : Nat → Prop} {w : World} {css : List (List Value)} {ys : List α} (hl : css.length = ys.length)
    (hr : ∀ (i : Nat) (cs : List Value) (y : α), css[i]? = some cs → ys[i]? = some y → r.rel S w cs y) : ∀ u ∈ css.flatten, u.oneCell' = true := by
  intro u hu
  obtain ⟨cs, hc, hu⟩ := List.mem_flatten.1 hu
  obtain ⟨m, hm, rfl⟩ := List.getElem_of_mem hc
  exact r.one (hr m _ (ys[m]'(by omega)) (by simp [hm]) (by simp [hl ▸ hm])) u hu

theorem Src.of_slice {α : Type} {r : Rep α} {S : Nat → Prop} {w : World} {u : Value} {ys : List α} (h : (sliceR r).rel S w [u] ys) : Src r S w u ys := by
  obtain ⟨a, len, cap, hu, rfl, h2, h3, h4, h5⟩ := h
  simp at hu
  obtain ⟨css, hl, hq⟩ := exists_list (Q := fun i es => ∀ y, ys[i]? = some y → ∃ b off, a = some ⟨b, off, none⟩ ∧ r.rel S w es y ∧ CellsAt w b (off + i * r.n) es) ys.length (by
    intro i hi
    obtain ⟨b, off, es, ha, hb, hr, hc, hlt⟩ := h5 i ys[i] (by simp [hi])
    refine ⟨es, fun y hy => ?_⟩
    have : ys[i] = y := by simpa [hi] using hy
    subst this
    exact ⟨b, off, ha, hr, hc⟩)
  have hr : ∀ (i : Nat) (cs : List Value) (y : α), css[i]? = some cs → ys[i]? = some y → r.rel S w cs y := fun i cs y hc hy => by
    obtain ⟨b, off, _, h, _⟩ := hq i cs hc y hy
    exact h
  refine ⟨css, a, cap, hu, h4, hl, hr, fun j c hj => ?_⟩
  obtain ⟨i, k, cs, rfl, hc, hk⟩ := flatten_inv (all_len hl hr) j c hj
  have hi : i < ys.length := by rw [← hl]; exact (List.getElem?_eq_some_iff.1 hc).1
  obtain ⟨b, off, ha, _, hca⟩ := hq i cs hc ys[i] (by simp [hi])
  exact ⟨b, off, ha, by rw [← Nat.add_assoc]; exact hca k c hk⟩
/-- One element, laid in a block of its own. -/
theorem Src.one {α : Type} {r : Rep α} {S : Nat → Prop} {w : World} {b off cap : Nat} {es : List Value} {y : α} (h : r.rel S w es y) (hc : CellsAt w b off es) : Src r S w (.slice (some ⟨b, off, none⟩) 1 cap) [y] := by
  refine ⟨[es], some ⟨b, off, none⟩, cap, rfl, fun h => by simp at h, rfl, fun i cs z hcs hz => ?_, fun j c hj => ⟨b, off, rfl, hc j c (by simpa using hj)⟩⟩
  match i with
  | 0 => simp at hcs hz; subst hcs hz; exact h
  | i + 1 => simp at hcs

/-- What the program's tables say of a slice type and its element. -/
def ElemTy (P : Program) (t e : TypeId) (n bytes : Nat) : Prop :=
  P.underlying t = some (.slice e) ∧ 0 < n ∧ ∃ i z, P.info? e = some i ∧ i.zero = some z ∧ i.size = n ∧ i.bytes = bytes ∧ z.cells.size = n
theorem ElemTy.of {P : Program} {t e : TypeId} {n bytes : Nat} {z : Value} (ht : P.underlying t = some (.slice e)) (h : (P.info? e).map (fun i => (i.zero, i.size, i.bytes)) = some (some z, n, bytes)) (hz : z.cells.size = n) (hn : 0 < n) : ElemTy P t e n bytes := by
  obtain ⟨i0, hi, hz0, hz1, hz2⟩ := info_parts h
  exact ⟨ht, hn, i0, z, hi, hz0, hz1, hz2, hz⟩

theorem run_append_rel {P : Program} {α : Type} {r : Rep α} {base : Nat} {t ty e : TypeId} {bytes : Nat} (hT : ElemTy P t e r.n bytes) {F S : Nat → Prop} {w : World} {v u : Value} {xs ys : List α}
    (h : Own r base e F w v xs) (hu : Src r S w u ys) (hSF : ∀ k, k < w.heap.size → S k → F k) (hSv : ∀ k, v.ownBlock = some k → ¬ S k)
    (h63 : xs.length + ys.length ≤ maxLen) (hbytes : (xs.length + ys.length) * bytes ≤ 140737488355328) (hbase : base ≤ w.heap.size) :
    ∃ v' w', (Builtin.append_ #[t, t] ty #[v, u]).run P w = .ok v' w' ∧ Own r base e (fun k => F k ∨ w.heap.size ≤ k) w' v' (xs ++ ys) ∧ Kept (fun k => v.ownBlock ≠ some k) w w' ∧
      (v'.ownBlock = v.ownBlock ∨ v'.ownBlock = some w.heap.size) := by
  obtain ⟨ht, hn, i, z, hi, hz, hsize, hby, hzs⟩ := hT
  obtain ⟨S0, css, hS, hv, hl, hr, ho⟩ := h
  obtain ⟨dss, a, cap, rfl, hnone, hdl, hdr, hat⟩ := hu
  cases a with
  | none =>
    have hc0 := hnone rfl
    subst hc0
    have hys : ys = [] := by
      cases ys with
      | nil => rfl
      | cons y ys =>
        exfalso
        have hd : dss[0]? = some (dss[0]'(by simp [hdl])) := by simp [hdl]
        have hlen := r.len (hdr 0 _ y hd rfl)
        have h0 := flatten_at (all_len hdl hdr) 0 _ hd 0 ((dss[0]'(by simp [hdl]))[0]'(by omega)) (by simp [hlen, hn])
        obtain ⟨b, off, h1, _⟩ := hat _ _ h0
        simp at h1
    subst hys
    refine ⟨v, w, run_append_owned_none (P := P) w base t ty e i r.n ht hi v xs.length css.flatten ho, ?_, Kept.refl _ _, .inl rfl⟩
    rw [List.append_nil]
    exact ⟨S0, css, fun k hk => ⟨.inl (hS k hk).1, (hS k hk).2⟩, fun k hk => ⟨(hv k hk).1, .inl (hv k hk).2⟩, hl, hr, ho⟩
  | some ad =>
    have hnews : ∀ j u, dss.flatten[j]? = some u → w.cell? (ad.add j) = some u := by
      intro j u hj
      obtain ⟨b, off, h1, h2⟩ := hat j u hj
      obtain rfl := Option.some.inj h1
      rw [Addr.add_lit]; exact h2
    obtain ⟨v', w', hrun, hown, hg, _, hblk⟩ := run_append_own_at (P := P) w base t ty e i z r.n bytes ht hi hz hsize hby hzs hn v xs.length css.flatten ho ad ys.length cap dss.flatten
      (by rw [flatten_len (all_len hdl hdr), hdl]) hnews (all_one hdl hdr) h63 hbytes hbase
    have hkept : Kept (fun k => v.ownBlock ≠ some k) w w' := Kept.of_grown hg fun k hk => by simp [hk]
    refine ⟨v', w', hrun, ?_, hkept, hblk⟩
    refine ⟨fun k => S0 k ∨ (S k ∧ k < w.heap.size), css ++ dss, ?_, ?_, by simp [hl, hdl], ?_, by simpa using hown⟩
    · rintro k (hk | ⟨hk, hlt⟩)
      · exact ⟨.inl (hS k hk).1, Nat.lt_of_lt_of_le (hS k hk).2 hg.size⟩
      · exact ⟨.inl (hSF k hlt hk), Nat.lt_of_lt_of_le hlt hg.size⟩
    · intro k hk
      rcases hblk with hb | hb
      · rw [hb] at hk
        refine ⟨?_, .inl (hv k hk).2⟩
        rintro (h | ⟨h, _⟩)
        · exact (hv k hk).1 h
        · exact hSv k hk h
      · rw [hb] at hk
        obtain rfl := Option.some.inj hk
        refine ⟨?_, .inr (Nat.le_refl _)⟩
        rintro (h | ⟨_, h⟩)
        · exact absurd (hS _ h).2 (Nat.lt_irrefl _)
        · exact absurd h (Nat.lt_irrefl _)
    · intro j cs x hc hx
      rcases Nat.lt_or_ge j css.length with hlt | hge
      · rw [List.getElem?_append_left hlt] at hc
        rw [List.getElem?_append_left (by omega)] at hx
        exact r.mono (r.keep (hr j cs x hc hx) (hkept.mono fun k _ hk => fun he => (hv k he).1 hk)) fun k _ hk => .inl hk
      · rw [List.getElem?_append_right hge] at hc
        rw [List.getElem?_append_right (by omega), ← hl] at hx
        have h1 := (hdr _ cs x hc hx)
        exact r.mono (r.keep (r.bound h1) (hkept.mono fun k _ hk => fun he => hSv k he hk.1)) fun k _ hk => .inr hk

theorem wp_append_rel {P : Program} {o : Oper} {a : Act} {K : Act → World → Prop} {Q : Exit → Act → World → Prop} (s x : Operand) {t : TypeId}
    (ho : o.op = .call { callee := .builtin .append, args := #[s, x], argTypes := #[t, t] }) {α : Type} {r : Rep α} {base : Nat} {e : TypeId} {bytes : Nat} (hT : ElemTy P t e r.n bytes) {F S : Nat → Prop} {w : World} {v u : Value} {xs ys : List α}
    (hs : a.eval s = v) (hx : a.eval x = u)
    (h : Own r base e F w v xs) (hu : Src r S w u ys) (hSF : ∀ k, k < w.heap.size → S k → F k) (hSv : ∀ k, v.ownBlock = some k → ¬ S k)
    (h63 : xs.length + ys.length ≤ maxLen) (hbytes : (xs.length + ys.length) * bytes ≤ 140737488355328) (hbase : base ≤ w.heap.size)
    (hK : ∀ v' w', Own r base e (fun k => F k ∨ w.heap.size ≤ k) w' v' (xs ++ ys) → Kept (fun k => v.ownBlock ≠ some k) w w' → (v'.ownBlock = v.ownBlock ∨ v'.ownBlock = some w.heap.size) → K (a.put o.dst v') w') : o.wp P a w K Q := by
  obtain ⟨v', w', hr, h2, h3, h4⟩ := run_append_rel (ty := o.type) hT h hu hSF hSv h63 hbytes hbase
  unfold Oper.wp execOp
  simp only [ho, resolve, invoke, builtin, Sem.run_bind, Sem.run_pure, Result.andThen_ok, List.map_toArray, List.map_cons, List.map_nil, hs, hx, hr]
  exact hK v' w' h2 h3 h4

theorem wpList_append_rel {P : Program} {ops : Array Oper} {rest : List Oper} {o : Oper} {a : Act} {Q : Exit → Act → World → Prop} (hgd : o.guard = none) (s x : Operand) {t : TypeId}
    (ho : o.op = .call { callee := .builtin .append, args := #[s, x], argTypes := #[t, t] }) {α : Type} {r : Rep α} {base : Nat} {e : TypeId} {bytes : Nat} (hT : ElemTy P t e r.n bytes) {F S : Nat → Prop} {w : World} {v u : Value} {xs ys : List α}
    (hs : a.eval s = v) (hx : a.eval x = u)
    (h : Own r base e F w v xs) (hu : Src r S w u ys) (hSF : ∀ k, k < w.heap.size → S k → F k) (hSv : ∀ k, v.ownBlock = some k → ¬ S k)
    (h63 : xs.length + ys.length ≤ maxLen) (hbytes : (xs.length + ys.length) * bytes ≤ 140737488355328) (hbase : base ≤ w.heap.size)
    (hK : ∀ v' w', Own r base e (fun k => F k ∨ w.heap.size ≤ k) w' v' (xs ++ ys) → Kept (fun k => v.ownBlock ≠ some k) w w' → (v'.ownBlock = v.ownBlock ∨ v'.ownBlock = some w.heap.size) → wpList P ops Q rest (a.put o.dst v') w') :
    wpList P ops Q (o :: rest) a w :=
  wpList_plain hgd fun _ hK' => wp_append_rel s x ho hT hs hx h hu hSF hSv h63 hbytes hbase fun v' w' h2 h3 h4 => hK' _ _ (hK v' w' h2 h3 h4)

theorem step_append_rel {P : Program} {ops : Array Oper} {o : Oper} {a : Act} {K : Act → World → Prop} {Q : Exit → Act → World → Prop} {E : Prop} (hgd : o.guard = none) (s x : Operand) {t : TypeId}
    (ho : o.op = .call { callee := .builtin .append, args := #[s, x], argTypes := #[t, t] }) {α : Type} {r : Rep α} {base : Nat} {e : TypeId} {bytes : Nat} (hT : ElemTy P t e r.n bytes) {F S : Nat → Prop} {w : World} {v u : Value} {xs ys : List α}
    (hs : a.eval s = v) (hx : a.eval x = u)
    (h : Own r base e F w v xs) (hu : Src r S w u ys) (hSF : ∀ k, k < w.heap.size → S k → F k) (hSv : ∀ k, v.ownBlock = some k → ¬ S k)
    (h63 : xs.length + ys.length ≤ maxLen) (hbytes : (xs.length + ys.length) * bytes ≤ 140737488355328) (hbase : base ≤ w.heap.size)
    (hK : ∀ v' w', Own r base e (fun k => F k ∨ w.heap.size ≤ k) w' v' (xs ++ ys) → Kept (fun k => v.ownBlock ≠ some k) w w' → (v'.ownBlock = v.ownBlock ∨ v'.ownBlock = some w.heap.size) → K (a.put o.dst v') w') :
    if Region.wanted o (yielded ops a.tmps) = true then Oper.wp P o a w K Q else E := by
  have hw : Region.wanted o (yielded ops a.tmps) = true := by simp [Region.wanted, hgd]
  rw [if_pos hw]
  exact wp_append_rel s x ho hT hs hx h hu hSF hSv h63 hbytes hbase hK

/-- An empty literal, '[]T{}'. -/
theorem Own.empty {α : Type} (r : Rep α) (base : Nat) (e : TypeId) {w : World} {b : Nat} (hb : w.heap[b]? = some (.cells #[] e (0, 0))) (hbase : base ≤ b) : Own r base e (fun k => k = b) w (.slice (some ⟨b, 0, none⟩) 0 0) [] :=
  ⟨fun _ => False, [], fun _ h => h.elim, fun k h => ⟨fun h => h, by simpa [Value.ownBlock, eq_comm] using h⟩, rfl, fun i cs x h => by simp at h,
   ⟨by simp, .inr ⟨b, 0, #[], rfl, hbase, hb, Nat.le_refl _, by unfold maxLen; omega, by simp, by simp⟩⟩⟩

/-- Data that names no memory. -/
def Plain {α : Type} (r : Rep α) : Prop := ∀ {S S' : Nat → Prop} {w w' : World} {cs : List Value} {x : α}, r.rel S w cs x → r.rel S' w' cs x
theorem Plain.int (k : IntKind) : Plain (intR k) := fun h => h
theorem Plain.bool : Plain boolR := fun h => h
theorem Plain.pair {α β : Type} {r : Rep α} {s : Rep β} (hr : Plain r) (hs : Plain s) : Plain (pairR r s) := by
  rintro S S' w w' cs x ⟨c1, c2, rfl, h1, h2⟩; exact ⟨c1, c2, rfl, hr h1, hs h2⟩
theorem Src.plain {α : Type} {r : Rep α} (hp : Plain r) {S S' : Nat → Prop} {w : World} {u : Value} {ys : List α} (h : Src r S w u ys) : Src r S' w u ys := by
  obtain ⟨css, a, cap, h1, h2, h3, h4, h5⟩ := h
  exact ⟨css, a, cap, h1, h2, h3, fun i cs y hc hy => hp (h4 i cs y hc hy), h5⟩
theorem Kept.behind {S : Nat → Prop} {B : Nat} {a b c : World} (h : Below B a b) (hk : Kept S b c) (hB : B ≤ b.heap.size) (hS : ∀ k, k < B → S k) : Below B a c :=
  h.trans (Kept.below (hk.mono fun k _ h => hS k h) hB)
/-- The call returned a slice that reads as xs, in blocks of F; nothing that was there has changed. -/
def GivesS {α : Type} (r : Rep α) (F : Nat → Prop) (xs : List α) (w : World) (e : Ending) (w' : World) : Prop :=
  ∃ a cap, e = .returned (.slice a xs.length cap) ∧ (sliceR r).rel F w' [.slice a xs.length cap] xs ∧ Below w.heap.size w w'
/-- The same of a struct. -/
def GivesA {α : Type} (r : Rep α) (F : Nat → Prop) (x : α) (w : World) (e : Ending) (w' : World) : Prop :=
  ∃ cs, e = .returned (.agg cs.toArray) ∧ r.rel F w' cs x ∧ Below w.heap.size w w'
theorem GivesS.mk {α : Type} {r : Rep α} {F : Nat → Prop} {xs : List α} {w w' : World} {v : Value} (h : (sliceR r).rel F w' [v] xs) (hb : Below w.heap.size w w') : GivesS r F xs w (.returned v) w' := by
  obtain ⟨a, cap, rfl, _⟩ := sliceR.form h
  exact ⟨a, cap, rfl, h, hb⟩
theorem bcell {W w1 : World} (hb : Below W.heap.size W w1) : (∀ b o, b < W.heap.size → w1.cell? ⟨b, o, none⟩ = W.cell? ⟨b, o, none⟩) ∧ (∀ b o, b < W.heap.size → w1.frozen? ⟨b, o, none⟩ = W.frozen? ⟨b, o, none⟩) :=
  ⟨fun b o h => hb.cell (p := ⟨b, o, none⟩) h, fun b o h => hb.frozen (p := ⟨b, o, none⟩) h⟩

/-! ### A block that is known whole -/
theorem box_after {W w1 : World} {b : Nat} {o : Obj} (hb : Below W.heap.size W w1) (h : W.heap[b]? = some o) : w1.heap[b]? = some o := by
  rw [hb.block b (Array.getElem?_eq_some_iff.1 h).1, h]
theorem box_kept {S : Nat → Prop} {W w1 : World} {b : Nat} {o : Obj} (hk : Kept S W w1) (h : W.heap[b]? = some o) (hS : S b) : w1.heap[b]? = some o := by
  rw [hk.block b (Array.getElem?_eq_some_iff.1 h).1 hS, h]
theorem box_new (w : World) (o : Obj) : (w.alloc o).heap[w.heap.size]? = some o := heap_alloc_new w o
theorem box_old {w : World} {b : Nat} {o o' : Obj} (h : w.heap[b]? = some o) : (w.alloc o').heap[b]? = some o := by
  have hlt := (Array.getElem?_eq_some_iff.1 h).1
  rw [Below.heap_alloc w o' b hlt, h]
theorem box_set {w : World} {b i : Nat} {cs : Array Value} {t : TypeId} {fr : Nat × Nat} {v : Value} (h : w.heap[b]? = some (.cells cs t fr)) : (w.setCell ⟨b, i, none⟩ v).heap[b]? = some (.cells (cs.setIfInBounds i v) t fr) := by
  simp [World.setCell, Array.getElem?_modify, h]
theorem box_set_far {w : World} {b : Nat} {p : Addr} {o : Obj} {v : Value} (h : w.heap[b]? = some o) (hp : b ≠ p.block) : (w.setCell p v).heap[b]? = some o := by
  rw [Below.heap_setCell w p v b hp, h]
theorem box_cells {w : World} {b : Nat} {cs : Array Value} {t : TypeId} (h : w.heap[b]? = some (.cells cs t (0, 0))) : (∀ i, w.cell? ⟨b, i, none⟩ = cs[i]?) ∧ (∀ i, w.frozen? ⟨b, i, none⟩ = false) :=
  ⟨fun i => by simp [World.cell?, h], fun i => by simp [World.frozen?, h]⟩
theorem box_lt {w : World} {b : Nat} {o : Obj} (h : w.heap[b]? = some o) : b < w.heap.size := (Array.getElem?_eq_some_iff.1 h).1
theorem bdrewN {B : Nat} {a w : World} (h : Below B a w) (n : Nat) : Below B a (w.drewN n) := ⟨h.os, h.tape, h.output, h.size, h.block⟩
theorem Kept.drewN {S : Nat → Prop} {a b : World} (h : Kept S a b) (n : Nat) : Kept S a (b.drewN n) := ⟨h.os, h.tape, h.output, h.size, h.block⟩
theorem Own.lt {α : Type} {r : Rep α} {base : Nat} {e : TypeId} {F : Nat → Prop} {w : World} {v : Value} {xs : List α} (h : Own r base e F w v xs) {k : Nat} (hk : v.ownBlock = some k) : k < w.heap.size ∧ F k ∧ base ≤ k := by
  obtain ⟨S, css, hS, hv, hl, hr, ho⟩ := h
  exact ⟨(ho.lt k hk).2, (hv k hk).2, (ho.lt k hk).1⟩
theorem CellsAt.new (w : World) (cs : List Value) (t : TypeId) : CellsAt (w.alloc (.cells cs.toArray t)) w.heap.size 0 cs := fun j c hj => by
  rw [(box_cells (box_new w (.cells cs.toArray t))).1]; simpa using hj

/-! ### make -/
theorem wpList_make_rel {P : Program} {w : World} {ops : Array Oper} {rest : List Oper} {o : Oper} {a : Act} {Q : Exit → Act → World → Prop} (hg : o.guard = none) (l c : Operand) {t : TypeId} (hop : o.op = Op.makeSlice t l c)
    {α : Type} (r : Rep α) (base : Nat) {e : TypeId} {bytes : Nat} (hT : ElemTy P t e r.n bytes) {kl kc : IntKind} {C : Int} {n : Nat} (hl : a.eval l = .int kl 0) (hc : a.eval c = .int kc C) (hC : C = (n : Int))
    (b2 : bytes * n ≤ 281474976710656) (b3 : n ≤ maxLen) (b4 : base ≤ w.heap.size)
    (hK : ∀ w', Own r base e (fun k => k = w.heap.size) w' (.slice (some ⟨w.heap.size, 0, none⟩) 0 n) [] → Below w.heap.size w w' → wpList P ops Q rest (a.put o.dst (.slice (some ⟨w.heap.size, 0, none⟩) 0 n)) w') :
    wpList P ops Q (o :: rest) a w := by
  obtain ⟨ht, hn, i, z, hi, hz, hsize, hby, hzs⟩ := hT
  refine wpList_make_own w hg l c t hop base e i z r.n ht hi hz hsize kl kc C n hl hc hC (by rw [hby]; exact b2) b3 b4 fun w' ho hgr => hK w' ?_ ?_
  · exact ⟨fun _ => False, [], fun _ h => h.elim, fun k h => ⟨fun h => h, by simpa [Value.ownBlock, eq_comm] using h⟩, rfl, fun i cs x h => by simp at h, by simpa using ho⟩
  · exact ⟨hgr.os, hgr.tape, hgr.output, hgr.size, fun k hk => hgr.block k hk (by simp)⟩
theorem madeCells_flat (z : Array Value) (m n : Nat) (hz : z.size = m) (hm : 0 < m) : (madeCells z (n * m)).toList = (List.replicate n z.toList).flatten := by
  apply List.ext_getElem?
  intro j
  rcases Nat.lt_or_ge j (n * m) with hj | hj
  · have h1 : j / m < n := Nat.div_lt_of_lt_mul (by rw [Nat.mul_comm]; exact hj)
    have h2 : j % m < m := Nat.mod_lt _ hm
    have hall : ∀ cs ∈ List.replicate n z.toList, cs.length = m := fun cs hc => by rw [(List.mem_replicate.1 hc).2]; simpa using hz
    have := flatten_at hall (j / m) z.toList (by simp [h1]) (j % m) (z[j % m]'(by omega)) (by simp [hz, h2])
    rw [show j / m * m + j % m = j by rw [Nat.mul_comm]; exact Nat.div_add_mod j m] at this
    rw [this]
    simp [madeCells, hj, hz, h2]
  · have hall : ∀ cs ∈ List.replicate n z.toList, cs.length = m := fun cs hc => by rw [(List.mem_replicate.1 hc).2]; simpa using hz
    rw [List.getElem?_eq_none (by simpa [size_madeCells] using hj), List.getElem?_eq_none (by rw [flatten_len hall]; simpa using hj)]
theorem wpList_make_n {P : Program} {w : World} {ops : Array Oper} {rest : List Oper} {o : Oper} {a : Act} {Q : Exit → Act → World → Prop} (hg : o.guard = none) (l c : Operand) {t : TypeId} (hop : o.op = Op.makeSlice t l c)
    {α : Type} (r : Rep α) (base : Nat) {e : TypeId} {bytes : Nat} (hT : ElemTy P t e r.n bytes) {z : Value} (hzz : (P.info? e).map (·.zero) = some (some z)) {x0 : α} (hx0 : ∀ S w, r.rel S w z.cells.toList x0)
    {kl kc : IntKind} {L C : Int} {n : Nat} (hl : a.eval l = .int kl L) (hc : a.eval c = .int kc C) (hL : L = (n : Int)) (hC : C = (n : Int))
    (b2 : bytes * n ≤ 281474976710656) (b3 : n ≤ maxLen) (b4 : base ≤ w.heap.size)
    (hK : ∀ w', Own r base e (fun k => k = w.heap.size) w' (.slice (some ⟨w.heap.size, 0, none⟩) n n) (List.replicate n x0) → Below w.heap.size w w' → wpList P ops Q rest (a.put o.dst (.slice (some ⟨w.heap.size, 0, none⟩) n n)) w') :
    wpList P ops Q (o :: rest) a w := by
  obtain ⟨ht, hn, i, z', hi, hz, hsize, hby, hzs⟩ := hT
  obtain rfl : z' = z := by rw [hi] at hzz; simp only [Option.map_some, Option.some.injEq] at hzz; rw [hz] at hzz; exact Option.some.inj hzz
  refine wpList_make_full w hg l c t hop base e i z' r.n ht hi hz hsize kl kc L C n hl hc hL hC (by rw [hby]; exact b2) b3 b4 fun w' ho hgr => hK w' ?_ ?_
  · rw [madeCells_flat z'.cells r.n n hzs hn] at ho
    refine ⟨fun _ => False, List.replicate n z'.cells.toList, fun _ h => h.elim, fun k h => ⟨fun h => h, by simpa [Value.ownBlock, eq_comm] using h⟩, by simp, fun i cs x h1 h2 => ?_, by simpa using ho⟩
    have e1 := (List.mem_replicate.1 (List.mem_of_getElem? h1)).2
    have e2 := (List.mem_replicate.1 (List.mem_of_getElem? h2)).2
    rw [e1, e2]; exact hx0 _ _
  · exact ⟨hgr.os, hgr.tape, hgr.output, hgr.size, fun k hk => hgr.block k hk (by simp)⟩
end Go.Proofs.YthggdacincfplaaGreatDoor
