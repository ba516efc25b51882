/- A small library over the kit: worlds that keep some blocks, representations of data in memory, rows that a call owns. Nothing of the program is named here; no conditions. -/
import Derived.WalkKit
import Derived.ProofKit
import Derived.OpenShut
import Derived.ChangeOld
import Derived.Below
import Derived.Lib.Hide
import Derived.OwnWalk
import Derived.Deep.AppendLies
import Derived.Maps.AppendAt
import Derived.Deep.Draws
import Derived.Test.YtphacfkcifpobaaGreatDoorProg
import Derived.WalkSpells
import Derived.Deep.RegionHeld3
import Derived.Deep.QuietTactic
import Derived.BigQuiet
import Derived.Deep.RegionLaw
import Derived.Laws.IdiomCopy
set_option maxRecDepth 100000
namespace Go.Proofs.YtphacfkcifpobaaGreatDoor
open Go.ChangeShapes Go.WideShapes Go.ChangeAt Go.RowKit
theorem ret_bool {a b : Bool} (h : a = b) : Ending.returned (.bool a) = .returned (.bool b) := by rw [h]
theorem ret_int {k : IntKind} {a b : Int} (h : a = b) : Ending.returned (.int k a) = .returned (.int k b) := by rw [h]
theorem bnext {a b c : World} (h1 : Below a.heap.size a b) (h2 : Below b.heap.size b c) : Below a.heap.size a c := h1.trans (h2.mono h1.size)
theorem bnew {a b : World} (h : Below a.heap.size a b) (o : Obj) : Below a.heap.size a (b.alloc o) := h.alloc h.size o
structure Kept (S : Nat → Prop) (w w' : World) : Prop where
 os : w'.os = w.os
 tape : w'.tape = w.tape
 output : w'.output = w.output
 size : w.heap.size ≤ w'.heap.size
 block : ∀ k, k < w.heap.size → S k → w'.heap[k]? = w.heap[k]?
theorem Kept.refl (S : Nat → Prop) (w : World) : Kept S w w := ⟨rfl, rfl, rfl, Nat.le_refl _, fun _ _ _ => rfl⟩
theorem Kept.trans {S S' : Nat → Prop} {a b c : World} (h : Kept S a b) (k : Kept S' b c) (hS : ∀ i, i < a.heap.size → S i → S' i) : Kept S a c :=
 ⟨k.os.trans h.os, k.tape.trans h.tape, k.output.trans h.output, Nat.le_trans h.size k.size,
  fun i hi hs => (k.block i (Nat.lt_of_lt_of_le hi h.size) (hS i hi hs)).trans (h.block i hi hs)⟩
theorem Kept.mono {S S' : Nat → Prop} {a b : World} (h : Kept S a b) (hS : ∀ i, i < a.heap.size → S' i → S i) : Kept S' a b :=
 ⟨h.os, h.tape, h.output, h.size, fun i hi hs => h.block i hi (hS i hi hs)⟩
theorem Kept.of_below {S : Nat → Prop} {a b : World} (h : Below a.heap.size a b) : Kept S a b := ⟨h.os, h.tape, h.output, h.size, fun i hi _ => h.block i hi⟩
theorem Kept.below {B : Nat} {a b : World} (h : Kept (fun k => k < B) a b) (hB : B ≤ a.heap.size) : Below B a b := ⟨h.os, h.tape, h.output, h.size, fun i hi => h.block i (by omega) hi⟩
theorem Kept.alloc {S : Nat → Prop} {a b : World} (h : Kept S a b) (o : Obj) : Kept S a (b.alloc o) :=
 h.trans (Kept.of_below (bnew (Below.refl _ _) o)) (fun _ _ h => h)
theorem Kept.drew {S : Nat → Prop} {a b : World} (h : Kept S a b) : Kept S a b.drew := ⟨h.os, h.tape, h.output, h.size, h.block⟩
theorem Kept.setCell {S : Nat → Prop} {a b : World} (h : Kept S a b) {p : Addr} (hp : p.block < a.heap.size → ¬ S p.block) (u : Value) : Kept S a (b.setCell p u) :=
 ⟨h.os, h.tape, h.output, by simpa [World.setCell] using h.size, fun i hi hs => (Below.heap_setCell b p u i (fun e => hp (e ▸ hi) (e ▸ hs))).trans (h.block i hi hs)⟩
theorem Kept.grown {S : Nat → Prop} {a b c : World} {row : Option Nat} (h : Kept S a b) (hg : b.grownBy c row) (hr : ∀ k, row = some k → k < a.heap.size → ¬ S k) : Kept S a c :=
 ⟨hg.os.trans h.os, hg.tape.trans h.tape, hg.output.trans h.output, Nat.le_trans h.size hg.size,
  fun i hi hs => (hg.block i (Nat.lt_of_lt_of_le hi h.size) (fun e => hr i e.symm hi hs)).trans (h.block i hi hs)⟩
theorem Kept.of_grown {S : Nat → Prop} {b c : World} {row : Option Nat} (hg : b.grownBy c row) (hr : ∀ k, row = some k → ¬ S k) : Kept S b c :=
 (Kept.refl S b).grown hg (fun k hk _ => hr k hk)
theorem cell_lt {w : World} {a : Addr} {v : Value} (h : w.cell? a = some v) : a.block < w.heap.size := World.block_lt_of_cell? w a h
theorem Kept.cell {S : Nat → Prop} {a b : World} (h : Kept S a b) {p : Addr} {v : Value} (hp : S p.block) (hc : a.cell? p = some v) : b.cell? p = some v :=
 (World.cell?_of_block (w := a) (h.block p.block (cell_lt hc) hp)).trans hc
structure Rep (α : Type) where
 n : Nat
 rel : (Nat → Prop) → World → List Value → α → Prop
 len : ∀ {S w cs x}, rel S w cs x → cs.length = n
 one : ∀ {S w cs x}, rel S w cs x → ∀ c ∈ cs, c.oneCell' = true
 keep : ∀ {S w w' cs x}, rel S w cs x → Kept S w w' → rel S w' cs x
 mono : ∀ {S S' w cs x}, rel S w cs x → (∀ k, k < w.heap.size → S k → S' k) → rel S' w cs x
def intR (k : IntKind) : Rep Int where
 n := 1
 rel _ _ cs x := cs = [.int k x] ∧ (Lit.int k x).wf = true
 len h := by rw [h.1]; rfl
 one h := by rw [h.1]; simp [Value.oneCell']
 keep h _ := h
 mono h _ := h
def boolR : Rep Bool where
 n := 1
 rel _ _ cs x := cs = [.bool x]
 len h := by rw [h]; rfl
 one h := by rw [h]; simp [Value.oneCell']
 keep h _ := h
 mono h _ := h
def pairR {α β : Type} (r : Rep α) (s : Rep β) : Rep (α × β) where
 n := r.n + s.n
 rel S w cs x := ∃ c1 c2, cs = c1 ++ c2 ∧ r.rel S w c1 x.1 ∧ s.rel S w c2 x.2
 len := by rintro S w cs x ⟨c1, c2, rfl, h1, h2⟩; rw [List.length_append, r.len h1, s.len h2]
 one := by
   rintro S w cs x ⟨c1, c2, rfl, h1, h2⟩ c hc
   rcases List.mem_append.1 hc with h | h
   · exact r.one h1 c h
   · exact s.one h2 c h
 keep := by rintro S w w' cs x ⟨c1, c2, rfl, h1, h2⟩ hk; exact ⟨c1, c2, rfl, r.keep h1 hk, s.keep h2 hk⟩
 mono := by rintro S S' w cs x ⟨c1, c2, rfl, h1, h2⟩ hk; exact ⟨c1, c2, rfl, r.mono h1 hk, s.mono h2 hk⟩
def mapR {α β : Type} (f : β → α) (r : Rep α) : Rep β where
 n := r.n
 rel S w cs x := r.rel S w cs (f x)
 len h := r.len h
 one h := r.one h
 keep h hk := r.keep h hk
 mono h hk := r.mono h hk
def CellsAt (w : World) (b o : Nat) (es : List Value) : Prop := ∀ j c, es[j]? = some c → w.cell? ⟨b, o + j, none⟩ = some c
theorem CellsAt.keep {S : Nat → Prop} {w w' : World} {b o : Nat} {es : List Value} (h : CellsAt w b o es) (hk : Kept S w w') (hb : S b) : CellsAt w' b o es :=
 fun j c hj => hk.cell hb (h j c hj)
def sliceR {α : Type} (r : Rep α) : Rep (List α) where
 n := 1
 rel S w cs xs := ∃ a len cap, cs = [.slice a len cap] ∧ len = xs.length ∧ len ≤ cap ∧ cap ≤ maxLen ∧ (a = none → cap = 0) ∧
   ∀ i x, xs[i]? = some x → ∃ b off es, a = some ⟨b, off, none⟩ ∧ S b ∧ r.rel S w es x ∧ CellsAt w b (off + i * r.n) es ∧ b < w.heap.size
 len := by rintro S w cs xs ⟨a, len, cap, rfl, _⟩; rfl
 one := by rintro S w cs xs ⟨a, len, cap, rfl, _⟩ c hc; simp at hc; subst hc; rfl
 keep := by
   rintro S w w' cs xs ⟨a, len, cap, rfl, h1, h2, h3, h4, h5⟩ hk
   refine ⟨a, len, cap, rfl, h1, h2, h3, h4, fun i x hx => ?_⟩
   obtain ⟨b, off, es, ha, hb, hr, hc, hlt⟩ := h5 i x hx
   exact ⟨b, off, es, ha, hb, r.keep hr hk, hc.keep hk hb, Nat.lt_of_lt_of_le hlt hk.size⟩
 mono := by
   rintro S S' w cs xs ⟨a, len, cap, rfl, h1, h2, h3, h4, h5⟩ hk
   refine ⟨a, len, cap, rfl, h1, h2, h3, h4, fun i x hx => ?_⟩
   obtain ⟨b, off, es, ha, hb, hr, hc, hlt⟩ := h5 i x hx
   exact ⟨b, off, es, ha, hk b hlt hb, r.mono hr hk, hc, hlt⟩
section
variable {α : Type} (r : Rep α) {S : Nat → Prop} {w w' : World}
theorem Rep.keepB {cs : List Value} {x : α} (h : r.rel S w cs x) (hb : Below w.heap.size w w') : r.rel S w' cs x := r.keep h (Kept.of_below hb)
theorem Rep.bound {cs : List Value} {x : α} (h : r.rel S w cs x) : r.rel (fun k => S k ∧ k < w.heap.size) w cs x := r.mono h fun _ hk hs => ⟨hs, hk⟩
end
theorem sliceR.form {α : Type} {r : Rep α} {S : Nat → Prop} {w : World} {v : Value} {xs : List α} (h : (sliceR r).rel S w [v] xs) :
   ∃ a cap, v = .slice a xs.length cap ∧ xs.length ≤ cap ∧ cap ≤ maxLen := by
 obtain ⟨a, len, cap, hv, rfl, h2, h3, h4, h5⟩ := h
 exact ⟨a, cap, by simpa using hv, h2, h3⟩
theorem sliceR.at {α : Type} {r : Rep α} {S : Nat → Prop} {w : World} {a : Option Addr} {len cap : Nat} {xs : List α} (h : (sliceR r).rel S w [.slice a len cap] xs) (i : Nat) (hi : i < xs.length) :
   ∃ b off es, a = some ⟨b, off, none⟩ ∧ S b ∧ b < w.heap.size ∧ r.rel S w es xs[i] ∧ CellsAt w b (off + i * r.n) es := by
 obtain ⟨a', len', cap', hv, h1, h2, h3, h4, h5⟩ := h
 simp at hv
 obtain ⟨rfl, rfl, rfl⟩ := hv
 obtain ⟨b, off, es, ha, hb, hr, hc, hlt⟩ := h5 i xs[i] (by simp [hi])
 exact ⟨b, off, es, ha, hb, hlt, hr, hc⟩
theorem sliceR.lens {α : Type} {r : Rep α} {S : Nat → Prop} {w : World} {a : Option Addr} {len cap : Nat} {xs : List α} (h : (sliceR r).rel S w [.slice a len cap] xs) :
   len = xs.length ∧ len ≤ cap ∧ cap ≤ maxLen ∧ (a = none → cap = 0) := by
 obtain ⟨a', len', cap', hv, h1, h2, h3, h4, h5⟩ := h
 simp at hv
 obtain ⟨rfl, rfl, rfl⟩ := hv
 exact ⟨h1, h2, h3, h4⟩
theorem sliceR.nil {α : Type} {r : Rep α} {S : Nat → Prop} {w : World} : (sliceR r).rel S w [.slice none 0 0] [] :=
 ⟨none, 0, 0, rfl, rfl, Nat.le_refl _, by unfold maxLen; omega, fun _ => rfl, fun i x h => by simp at h⟩
def Own {α : Type} (r : Rep α) (base : Nat) (e : TypeId) (F : Nat → Prop) (w : World) (v : Value) (xs : List α) : Prop :=
 ∃ (S : Nat → Prop) (css : List (List Value)), (∀ k, S k → F k ∧ k < w.heap.size) ∧ (∀ k, v.ownBlock = some k → ¬ S k ∧ F k) ∧
   css.length = xs.length ∧ (∀ (i : Nat) (cs : List Value) (x : α), css[i]? = some cs → xs[i]? = some x → r.rel S w cs x) ∧ w.ownsRow base e r.n v xs.length css.flatten
theorem Own.nil {α : Type} (r : Rep α) (base : Nat) (e : TypeId) (F : Nat → Prop) (w : World) : Own r base e F w (.slice none 0 0) [] :=
 ⟨fun _ => False, [], fun _ h => h.elim, fun k h => by simp [Value.ownBlock] at h, rfl, fun i cs x h => by simp at h, World.ownsRow_nil w base e r.n⟩
theorem flatten_at {α : Type} {n : Nat} : ∀ {css : List (List α)}, (∀ cs ∈ css, cs.length = n) → ∀ (i : Nat) (cs : List α), css[i]? = some cs → ∀ j c, cs[j]? = some c → css.flatten[i * n + j]? = some c
 | [], _, i, cs, h, _, _, _ => by simp at h
 | d :: css, hl, 0, cs, h, j, c, hj => by
   simp at h; subst h
   have hjl : j < d.length := (List.getElem?_eq_some_iff.1 hj).1
   simp [List.getElem?_append_left hjl, hj]
 | d :: css, hl, i + 1, cs, h, j, c, hj => by
   have hd : d.length = n := hl d (by simp)
   have := flatten_at (css := css) (fun cs hc => hl cs (by simp [hc])) i cs (by simpa using h) j c hj
   rw [List.flatten_cons, List.getElem?_append_right (by rw [hd, Nat.succ_mul]; omega), hd, ← this]
   congr 1
   rw [Nat.succ_mul]; omega
theorem flatten_len {α : Type} {n : Nat} : ∀ {css : List (List α)}, (∀ cs ∈ css, cs.length = n) → css.flatten.length = css.length * n
 | [], _ => by simp
 | d :: css, hl => by
   rw [List.flatten_cons, List.length_append, flatten_len (css := css) (fun cs hc => hl cs (by simp [hc])), hl d (by simp), List.length_cons, Nat.succ_mul]; omega
section
variable {α : Type} {r : Rep α} {base : Nat} {e : TypeId} {F : Nat → Prop} {w w' : World} {v : Value} {xs : List α}
theorem Own.mono {F' : Nat → Prop} (h : Own r base e F w v xs) (hF : ∀ k, k < w.heap.size → F k → F' k) : Own r base e F' w v xs := by
 obtain ⟨S, css, hS, hv, hl, hr, ho⟩ := h
 exact ⟨S, css, fun k hk => ⟨hF k (hS k hk).2 (hS k hk).1, (hS k hk).2⟩, fun k hk => ⟨(hv k hk).1, hF k (ho.lt k hk).2 (hv k hk).2⟩, hl, hr, ho⟩
theorem ownsRow_keep {base : Nat} {e : TypeId} {size n : Nat} {v : Value} {ys : List Value} {S : Nat → Prop} (h : w.ownsRow base e size v n ys) (hk : Kept S w w') (hv : ∀ k, v.ownBlock = some k → S k) : w'.ownsRow base e size v n ys := by
 refine ⟨h.1, ?_⟩
 rcases h.2 with h0 | ⟨g, cap, cur, rfl, hb, hg, h1, h2, h3, h4⟩
 · exact .inl h0
 · have hlt : g < w.heap.size := (h.lt g rfl).2
   exact .inr ⟨g, cap, cur, rfl, hb, by rw [hk.block g hlt (hv g rfl), hg], h1, h2, h3, h4⟩
theorem Own.keep (h : Own r base e F w v xs) (hk : Kept F w w') : Own r base e F w' v xs := by
 obtain ⟨S, css, hS, hv, hl, hr, ho⟩ := h
 exact ⟨S, css, fun k hk' => ⟨(hS k hk').1, Nat.lt_of_lt_of_le (hS k hk').2 hk.size⟩, hv, hl,
   fun i cs x hc hx => r.keep (hr i cs x hc hx) (hk.mono fun k _ h => (hS k h).1), ownsRow_keep ho hk fun k hk' => (hv k hk').2⟩
theorem Own.keepB (h : Own r base e F w v xs) (hb : Below w.heap.size w w') : Own r base e F w' v xs := h.keep (Kept.of_below hb)
theorem Own.bound (h : Own r base e F w v xs) : Own r base e (fun k => F k ∧ k < w.heap.size) w v xs := h.mono fun _ hk hF => ⟨hF, hk⟩
theorem Own.slice (h : Own r base e F w v xs) : (sliceR r).rel F w [v] xs := by
 obtain ⟨S, css, hS, hv, hl, hr, ho⟩ := h
 rcases ho.2 with ⟨rfl, h0⟩ | ⟨g, cap, cur, rfl, hb, hg, h1, h2, h3, h4⟩
 · obtain rfl := List.eq_nil_of_length_eq_zero h0
   exact sliceR.nil
 · refine ⟨_, _, _, rfl, rfl, h1, h2, fun h => by simp at h, fun i x hx => ?_⟩
   have hi : i < xs.length := (List.getElem?_eq_some_iff.1 hx).1
   have hcs : css[i]? = some css[i] := by simp [hl, hi]
   have hrel := hr i _ x hcs hx
   have hall : ∀ cs ∈ css, cs.length = r.n := by
     intro cs hc
     obtain ⟨m, hm, rfl⟩ := List.getElem_of_mem hc
     exact r.len (hr m _ (xs[m]'(by omega)) (by simp [hm]) (by simp [hl ▸ hm]))
   refine ⟨g, 0, css[i], rfl, (hv g rfl).2, r.mono hrel fun k _ hk => (hS k hk).1, fun j c hj => ?_, (ho.lt g rfl).2⟩
   have := flatten_at hall i _ hcs j c hj; have hc := ho.cells (g := g) rfl (i * r.n + j) c this; rw [Addr.add_lit] at hc
   simpa using hc
end
theorem exists_list {β : Type} {Q : Nat → β → Prop} : ∀ (n : Nat), (∀ i, i < n → ∃ x, Q i x) → ∃ l : List β, l.length = n ∧ ∀ (i : Nat) (x : β), l[i]? = some x → Q i x
 | 0, _ => ⟨[], rfl, fun i x h => by simp at h⟩
 | n + 1, h => by
   obtain ⟨l, hl, hq⟩ := exists_list n (fun i hi => h i (by omega))
   obtain ⟨x, hx⟩ := h n (by omega)
   refine ⟨l ++ [x], by simp [hl], fun i y hy => ?_⟩
   rcases Nat.lt_or_ge i l.length with hlt | hge
   · rw [List.getElem?_append_left hlt] at hy; exact hq i y hy
   · rw [List.getElem?_append_right hge] at hy
     obtain ⟨h1, h2⟩ := List.getElem?_eq_some_iff.1 hy
     simp at h1
     have : i = n := by omega
     subst this
     simp at h2; subst h2; exact hx
theorem flatten_inv {β : Type} {n : Nat} : ∀ {css : List (List β)}, (∀ cs ∈ css, cs.length = n) → ∀ (j : Nat) (c : β), css.flatten[j]? = some c → ∃ i k cs, j = i * n + k ∧ css[i]? = some cs ∧ cs[k]? = some c
 | [], _, j, c, h => by simp at h
 | d :: css, hl, j, c, h => by
   have hd : d.length = n := hl d (by simp)
   rw [List.flatten_cons] at h
   rcases Nat.lt_or_ge j d.length with hlt | hge
   · rw [List.getElem?_append_left hlt] at h
     exact ⟨0, j, d, by simp, rfl, h⟩
   · rw [List.getElem?_append_right hge] at h
     obtain ⟨i, k, cs, h1, h2, h3⟩ := flatten_inv (css := css) (fun cs hc => hl cs (by simp [hc])) _ c h
     exact ⟨i + 1, k, cs, by rw [Nat.succ_mul]; omega, by simpa using h2, h3⟩
def Src {α : Type} (r : Rep α) (S : Nat → Prop) (w : World) (u : Value) (ys : List α) : Prop :=
 ∃ (css : List (List Value)) (a : Option Addr) (cap : Nat), u = .slice a ys.length cap ∧ (a = none → cap = 0) ∧ css.length = ys.length ∧
   (∀ (i : Nat) (cs : List Value) (y : α), css[i]? = some cs → ys[i]? = some y → r.rel S w cs y) ∧
   ∀ (j : Nat) (c : Value), css.flatten[j]? = some c → ∃ b off, a = some ⟨b, off, none⟩ ∧ w.cell? ⟨b, off + j, none⟩ = some c
theorem all_len {α : Type} {r : Rep α} {S : Nat → Prop} {w : World} {css : List (List Value)} {ys : List α} (hl : css.length = ys.length)
   (hr : ∀ (i : Nat) (cs : List Value) (y : α), css[i]? = some cs → ys[i]? = some y → r.rel S w cs y) : ∀ cs ∈ css, cs.length = r.n := by
 intro cs hc
 obtain ⟨m, hm, rfl⟩ := List.getElem_of_mem hc
 exact r.len (hr m _ (ys[m]'(by omega)) (by simp [hm]) (by simp [hl ▸ hm]))
theorem all_one {α : Type} {r : Rep α} {S : Nat → Prop} {w : World} {css : List (List Value)} {ys : List α} (hl : css.length = ys.length)
   (hr : ∀ (i : Nat) (cs : List Value) (y : α), css[i]? = some cs → ys[i]? = some y → r.rel S w cs y) : ∀ u ∈ css.flatten, u.oneCell' = true := by
 intro u hu
 obtain ⟨cs, hc, hu⟩ := List.mem_flatten.1 hu; obtain ⟨m, hm, rfl⟩ := List.getElem_of_mem hc
 exact r.one (hr m _ (ys[m]'(by omega)) (by simp [hm]) (by simp [hl ▸ hm])) u hu
theorem Src.of_slice {α : Type} {r : Rep α} {S : Nat → Prop} {w : World} {u : Value} {ys : List α} (h : (sliceR r).rel S w [u] ys) : Src r S w u ys := by
 obtain ⟨a, len, cap, hu, rfl, h2, h3, h4, h5⟩ := h
 simp at hu
 obtain ⟨css, hl, hq⟩ := exists_list (Q := fun i es => ∀ y, ys[i]? = some y → ∃ b off, a = some ⟨b, off, none⟩ ∧ r.rel S w es y ∧ CellsAt w b (off + i * r.n) es) ys.length (by
   intro i hi
   obtain ⟨b, off, es, ha, hb, hr, hc, hlt⟩ := h5 i ys[i] (by simp [hi])
   refine ⟨es, fun y hy => ?_⟩
   have : ys[i] = y := by simpa [hi] using hy
   subst this
   exact ⟨b, off, ha, hr, hc⟩)
 have hr : ∀ (i : Nat) (cs : List Value) (y : α), css[i]? = some cs → ys[i]? = some y → r.rel S w cs y := fun i cs y hc hy => by
   obtain ⟨b, off, _, h, _⟩ := hq i cs hc y hy
   exact h
 refine ⟨css, a, cap, hu, h4, hl, hr, fun j c hj => ?_⟩
 obtain ⟨i, k, cs, rfl, hc, hk⟩ := flatten_inv (all_len hl hr) j c hj
 have hi : i < ys.length := by rw [← hl]; exact (List.getElem?_eq_some_iff.1 hc).1
 obtain ⟨b, off, ha, _, hca⟩ := hq i cs hc ys[i] (by simp [hi])
 exact ⟨b, off, ha, by rw [← Nat.add_assoc]; exact hca k c hk⟩
theorem Src.one {α : Type} {r : Rep α} {S : Nat → Prop} {w : World} {b off cap : Nat} {es : List Value} {y : α} (h : r.rel S w es y) (hc : CellsAt w b off es) : Src r S w (.slice (some ⟨b, off, none⟩) 1 cap) [y] := by
 refine ⟨[es], some ⟨b, off, none⟩, cap, rfl, fun h => by simp at h, rfl, fun i cs z hcs hz => ?_, fun j c hj => ⟨b, off, rfl, hc j c (by simpa using hj)⟩⟩
 match i with
 | 0 => simp at hcs hz; subst hcs hz; exact h
 | i + 1 => simp at hcs
def ElemTy (P : Program) (t e : TypeId) (n bytes : Nat) : Prop :=
 P.underlying t = some (.slice e) ∧ 0 < n ∧ ∃ i z, P.info? e = some i ∧ i.zero = some z ∧ i.size = n ∧ i.bytes = bytes ∧ z.cells.size = n
theorem ElemTy.of {P : Program} {t e : TypeId} {n bytes : Nat} {z : Value} (ht : P.underlying t = some (.slice e)) (h : (P.info? e).map (fun i => (i.zero, i.size, i.bytes)) = some (some z, n, bytes)) (hz : z.cells.size = n) (hn : 0 < n) : ElemTy P t e n bytes := by
 obtain ⟨i0, hi, hz0, hz1, hz2⟩ := info_parts h
 exact ⟨ht, hn, i0, z, hi, hz0, hz1, hz2, hz⟩
theorem run_append_rel {P : Program} {α : Type} {r : Rep α} {base : Nat} {t ty e : TypeId} {bytes : Nat} (hT : ElemTy P t e r.n bytes) {F S : Nat → Prop} {w : World} {v u : Value} {xs ys : List α}
   (h : Own r base e F w v xs) (hu : Src r S w u ys) (hSF : ∀ k, k < w.heap.size → S k → F k) (hSv : ∀ k, v.ownBlock = some k → ¬ S k)
   (h63 : xs.length + ys.length ≤ maxLen) (hbytes : (xs.length + ys.length) * bytes ≤ 140737488355328) (hbase : base ≤ w.heap.size) :
   ∃ v' w', (Builtin.append_ #[t, t] ty #[v, u]).run P w = .ok v' w' ∧ Own r base e (fun k => F k ∨ w.heap.size ≤ k) w' v' (xs ++ ys) ∧ Kept (fun k => v.ownBlock ≠ some k) w w' ∧
     (v'.ownBlock = v.ownBlock ∨ v'.ownBlock = some w.heap.size) := by
 obtain ⟨ht, hn, i, z, hi, hz, hsize, hby, hzs⟩ := hT; obtain ⟨S0, css, hS, hv, hl, hr, ho⟩ := h; obtain ⟨dss, a, cap, rfl, hnone, hdl, hdr, hat⟩ := hu
 cases a with
 | none =>
   have hc0 := hnone rfl; subst hc0
   have hys : ys = [] := by
     cases ys with
     | nil => rfl
     | cons y ys =>
       exfalso
       have hd : dss[0]? = some (dss[0]'(by simp [hdl])) := by simp [hdl]
       have hlen := r.len (hdr 0 _ y hd rfl)
       have h0 := flatten_at (all_len hdl hdr) 0 _ hd 0 ((dss[0]'(by simp [hdl]))[0]'(by omega)) (by simp [hlen, hn])
       obtain ⟨b, off, h1, _⟩ := hat _ _ h0
       simp at h1
   subst hys
   refine ⟨v, w, run_append_owned_none (P := P) w base t ty e i r.n ht hi v xs.length css.flatten ho, ?_, Kept.refl _ _, .inl rfl⟩
   rw [List.append_nil]
   exact ⟨S0, css, fun k hk => ⟨.inl (hS k hk).1, (hS k hk).2⟩, fun k hk => ⟨(hv k hk).1, .inl (hv k hk).2⟩, hl, hr, ho⟩
 | some ad =>
   have hnews : ∀ j u, dss.flatten[j]? = some u → w.cell? (ad.add j) = some u := by
     intro j u hj
     obtain ⟨b, off, h1, h2⟩ := hat j u hj; obtain rfl := Option.some.inj h1
     rw [Addr.add_lit]; exact h2
   obtain ⟨v', w', hrun, hown, hg, _, hblk⟩ := run_append_own_at (P := P) w base t ty e i z r.n bytes ht hi hz hsize hby hzs hn v xs.length css.flatten ho ad ys.length cap dss.flatten
     (by rw [flatten_len (all_len hdl hdr), hdl]) hnews (all_one hdl hdr) h63 hbytes hbase
   have hkept : Kept (fun k => v.ownBlock ≠ some k) w w' := Kept.of_grown hg fun k hk => by simp [hk]
   refine ⟨v', w', hrun, ?_, hkept, hblk⟩
   refine ⟨fun k => S0 k ∨ (S k ∧ k < w.heap.size), css ++ dss, ?_, ?_, by simp [hl, hdl], ?_, by simpa using hown⟩
   · rintro k (hk | ⟨hk, hlt⟩)
     · exact ⟨.inl (hS k hk).1, Nat.lt_of_lt_of_le (hS k hk).2 hg.size⟩
     · exact ⟨.inl (hSF k hlt hk), Nat.lt_of_lt_of_le hlt hg.size⟩
   · intro k hk
     rcases hblk with hb | hb
     · rw [hb] at hk
       refine ⟨?_, .inl (hv k hk).2⟩
       rintro (h | ⟨h, _⟩)
       · exact (hv k hk).1 h
       · exact hSv k hk h
     · rw [hb] at hk
       obtain rfl := Option.some.inj hk
       refine ⟨?_, .inr (Nat.le_refl _)⟩
       rintro (h | ⟨_, h⟩)
       · exact absurd (hS _ h).2 (Nat.lt_irrefl _)
       · exact absurd h (Nat.lt_irrefl _)
   · intro j cs x hc hx
     rcases Nat.lt_or_ge j css.length with hlt | hge
     · rw [List.getElem?_append_left hlt] at hc
       rw [List.getElem?_append_left (by omega)] at hx
       exact r.mono (r.keep (hr j cs x hc hx) (hkept.mono fun k _ hk => fun he => (hv k he).1 hk)) fun k _ hk => .inl hk
     · rw [List.getElem?_append_right hge] at hc
       rw [List.getElem?_append_right (by omega), ← hl] at hx
       have h1 := (hdr _ cs x hc hx)
       exact r.mono (r.keep (r.bound h1) (hkept.mono fun k _ hk => fun he => hSv k he hk.1)) fun k _ hk => .inr hk
theorem wp_append_rel {P : Program} {o : Oper} {a : Act} {K : Act → World → Prop} {Q : Exit → Act → World → Prop} (s x : Operand) {t : TypeId}
   (ho : o.op = .call { callee := .builtin .append, args := #[s, x], argTypes := #[t, t] }) {α : Type} {r : Rep α} {base : Nat} {e : TypeId} {bytes : Nat} (hT : ElemTy P t e r.n bytes) {F S : Nat → Prop} {w : World} {v u : Value} {xs ys : List α}
   (hs : a.eval s = v) (hx : a.eval x = u)
   (h : Own r base e F w v xs) (hu : Src r S w u ys) (hSF : ∀ k, k < w.heap.size → S k → F k) (hSv : ∀ k, v.ownBlock = some k → ¬ S k)
   (h63 : xs.length + ys.length ≤ maxLen) (hbytes : (xs.length + ys.length) * bytes ≤ 140737488355328) (hbase : base ≤ w.heap.size)
   (hK : ∀ v' w', Own r base e (fun k => F k ∨ w.heap.size ≤ k) w' v' (xs ++ ys) → Kept (fun k => v.ownBlock ≠ some k) w w' → (v'.ownBlock = v.ownBlock ∨ v'.ownBlock = some w.heap.size) → K (a.put o.dst v') w') : o.wp P a w K Q := by
 obtain ⟨v', w', hr, h2, h3, h4⟩ := run_append_rel (ty := o.type) hT h hu hSF hSv h63 hbytes hbase; unfold Oper.wp execOp
 simp only [ho, resolve, invoke, builtin, Sem.run_bind, Sem.run_pure, Result.andThen_ok, List.map_toArray, List.map_cons, List.map_nil, hs, hx, hr]
 exact hK v' w' h2 h3 h4
theorem wpList_append_rel {P : Program} {ops : Array Oper} {rest : List Oper} {o : Oper} {a : Act} {Q : Exit → Act → World → Prop} (hgd : o.guard = none) (s x : Operand) {t : TypeId}
   (ho : o.op = .call { callee := .builtin .append, args := #[s, x], argTypes := #[t, t] }) {α : Type} {r : Rep α} {base : Nat} {e : TypeId} {bytes : Nat} (hT : ElemTy P t e r.n bytes) {F S : Nat → Prop} {w : World} {v u : Value} {xs ys : List α}
   (hs : a.eval s = v) (hx : a.eval x = u)
   (h : Own r base e F w v xs) (hu : Src r S w u ys) (hSF : ∀ k, k < w.heap.size → S k → F k) (hSv : ∀ k, v.ownBlock = some k → ¬ S k)
   (h63 : xs.length + ys.length ≤ maxLen) (hbytes : (xs.length + ys.length) * bytes ≤ 140737488355328) (hbase : base ≤ w.heap.size)
   (hK : ∀ v' w', Own r base e (fun k => F k ∨ w.heap.size ≤ k) w' v' (xs ++ ys) → Kept (fun k => v.ownBlock ≠ some k) w w' → (v'.ownBlock = v.ownBlock ∨ v'.ownBlock = some w.heap.size) → wpList P ops Q rest (a.put o.dst v') w') :
   wpList P ops Q (o :: rest) a w :=
 wpList_plain hgd fun _ hK' => wp_append_rel s x ho hT hs hx h hu hSF hSv h63 hbytes hbase fun v' w' h2 h3 h4 => hK' _ _ (hK v' w' h2 h3 h4)
theorem step_append_rel {P : Program} {ops : Array Oper} {o : Oper} {a : Act} {K : Act → World → Prop} {Q : Exit → Act → World → Prop} {E : Prop} (hgd : o.guard = none) (s x : Operand) {t : TypeId}
   (ho : o.op = .call { callee := .builtin .append, args := #[s, x], argTypes := #[t, t] }) {α : Type} {r : Rep α} {base : Nat} {e : TypeId} {bytes : Nat} (hT : ElemTy P t e r.n bytes) {F S : Nat → Prop} {w : World} {v u : Value} {xs ys : List α}
   (hs : a.eval s = v) (hx : a.eval x = u)
   (h : Own r base e F w v xs) (hu : Src r S w u ys) (hSF : ∀ k, k < w.heap.size → S k → F k) (hSv : ∀ k, v.ownBlock = some k → ¬ S k)
   (h63 : xs.length + ys.length ≤ maxLen) (hbytes : (xs.length + ys.length) * bytes ≤ 140737488355328) (hbase : base ≤ w.heap.size)
   (hK : ∀ v' w', Own r base e (fun k => F k ∨ w.heap.size ≤ k) w' v' (xs ++ ys) → Kept (fun k => v.ownBlock ≠ some k) w w' → (v'.ownBlock = v.ownBlock ∨ v'.ownBlock = some w.heap.size) → K (a.put o.dst v') w') :
   if Region.wanted o (yielded ops a.tmps) = true then Oper.wp P o a w K Q else E := by
 have hw : Region.wanted o (yielded ops a.tmps) = true := by simp [Region.wanted, hgd]
 rw [if_pos hw]
 exact wp_append_rel s x ho hT hs hx h hu hSF hSv h63 hbytes hbase hK
theorem Own.empty {α : Type} (r : Rep α) (base : Nat) (e : TypeId) {w : World} {b : Nat} (hb : w.heap[b]? = some (.cells #[] e (0, 0))) (hbase : base ≤ b) : Own r base e (fun k => k = b) w (.slice (some ⟨b, 0, none⟩) 0 0) [] :=
 ⟨fun _ => False, [], fun _ h => h.elim, fun k h => ⟨fun h => h, by simpa [Value.ownBlock, eq_comm] using h⟩, rfl, fun i cs x h => by simp at h,
  ⟨by simp, .inr ⟨b, 0, #[], rfl, hbase, hb, Nat.le_refl _, by unfold maxLen; omega, by simp, by simp⟩⟩⟩
def Plain {α : Type} (r : Rep α) : Prop := ∀ {S S' : Nat → Prop} {w w' : World} {cs : List Value} {x : α}, r.rel S w cs x → r.rel S' w' cs x
theorem Plain.int (k : IntKind) : Plain (intR k) := fun h => h
theorem Plain.bool : Plain boolR := fun h => h
theorem Plain.pair {α β : Type} {r : Rep α} {s : Rep β} (hr : Plain r) (hs : Plain s) : Plain (pairR r s) := by
 rintro S S' w w' cs x ⟨c1, c2, rfl, h1, h2⟩; exact ⟨c1, c2, rfl, hr h1, hs h2⟩
theorem Src.plain {α : Type} {r : Rep α} (hp : Plain r) {S S' : Nat → Prop} {w : World} {u : Value} {ys : List α} (h : Src r S w u ys) : Src r S' w u ys := by
 obtain ⟨css, a, cap, h1, h2, h3, h4, h5⟩ := h
 exact ⟨css, a, cap, h1, h2, h3, fun i cs y hc hy => hp (h4 i cs y hc hy), h5⟩
theorem Kept.behind {S : Nat → Prop} {B : Nat} {a b c : World} (h : Below B a b) (hk : Kept S b c) (hB : B ≤ b.heap.size) (hS : ∀ k, k < B → S k) : Below B a c :=
 h.trans (Kept.below (hk.mono fun k _ h => hS k h) hB)
def GivesS {α : Type} (r : Rep α) (F : Nat → Prop) (xs : List α) (w : World) (e : Ending) (w' : World) : Prop :=
 ∃ a cap, e = .returned (.slice a xs.length cap) ∧ (sliceR r).rel F w' [.slice a xs.length cap] xs ∧ Below w.heap.size w w'
theorem GivesS.mk {α : Type} {r : Rep α} {F : Nat → Prop} {xs : List α} {w w' : World} {v : Value} (h : (sliceR r).rel F w' [v] xs) (hb : Below w.heap.size w w') : GivesS r F xs w (.returned v) w' := by
 obtain ⟨a, cap, rfl, _⟩ := sliceR.form h
 exact ⟨a, cap, rfl, h, hb⟩
theorem box_after {W w1 : World} {b : Nat} {o : Obj} (hb : Below W.heap.size W w1) (h : W.heap[b]? = some o) : w1.heap[b]? = some o := by
 rw [hb.block b (Array.getElem?_eq_some_iff.1 h).1, h]
theorem box_kept {S : Nat → Prop} {W w1 : World} {b : Nat} {o : Obj} (hk : Kept S W w1) (h : W.heap[b]? = some o) (hS : S b) : w1.heap[b]? = some o := by
 rw [hk.block b (Array.getElem?_eq_some_iff.1 h).1 hS, h]
theorem box_new (w : World) (o : Obj) : (w.alloc o).heap[w.heap.size]? = some o := heap_alloc_new w o
theorem box_old {w : World} {b : Nat} {o o' : Obj} (h : w.heap[b]? = some o) : (w.alloc o').heap[b]? = some o := by
 have hlt := (Array.getElem?_eq_some_iff.1 h).1; rw [Below.heap_alloc w o' b hlt, h]
theorem box_set {w : World} {b i : Nat} {cs : Array Value} {t : TypeId} {fr : Nat × Nat} {v : Value} (h : w.heap[b]? = some (.cells cs t fr)) : (w.setCell ⟨b, i, none⟩ v).heap[b]? = some (.cells (cs.setIfInBounds i v) t fr) := by
 simp [World.setCell, Array.getElem?_modify, h]
theorem box_set_far {w : World} {b : Nat} {p : Addr} {o : Obj} {v : Value} (h : w.heap[b]? = some o) (hp : b ≠ p.block) : (w.setCell p v).heap[b]? = some o := by
 rw [Below.heap_setCell w p v b hp, h]
theorem box_cells {w : World} {b : Nat} {cs : Array Value} {t : TypeId} (h : w.heap[b]? = some (.cells cs t (0, 0))) : (∀ i, w.cell? ⟨b, i, none⟩ = cs[i]?) ∧ (∀ i, w.frozen? ⟨b, i, none⟩ = false) :=
 ⟨fun i => by simp [World.cell?, h], fun i => by simp [World.frozen?, h]⟩
theorem box_lt {w : World} {b : Nat} {o : Obj} (h : w.heap[b]? = some o) : b < w.heap.size := (Array.getElem?_eq_some_iff.1 h).1
theorem bdrewN {B : Nat} {a w : World} (h : Below B a w) (n : Nat) : Below B a (w.drewN n) := ⟨h.os, h.tape, h.output, h.size, h.block⟩
theorem Kept.drewN {S : Nat → Prop} {a b : World} (h : Kept S a b) (n : Nat) : Kept S a (b.drewN n) := ⟨h.os, h.tape, h.output, h.size, h.block⟩
theorem Own.lt {α : Type} {r : Rep α} {base : Nat} {e : TypeId} {F : Nat → Prop} {w : World} {v : Value} {xs : List α} (h : Own r base e F w v xs) {k : Nat} (hk : v.ownBlock = some k) : k < w.heap.size ∧ F k ∧ base ≤ k := by
 obtain ⟨S, css, hS, hv, hl, hr, ho⟩ := h
 exact ⟨(ho.lt k hk).2, (hv k hk).2, (ho.lt k hk).1⟩
theorem CellsAt.new (w : World) (cs : List Value) (t : TypeId) : CellsAt (w.alloc (.cells cs.toArray t)) w.heap.size 0 cs := fun j c hj => by
 rw [(box_cells (box_new w (.cells cs.toArray t))).1]; simpa using hj
theorem wpList_make_rel {P : Program} {w : World} {ops : Array Oper} {rest : List Oper} {o : Oper} {a : Act} {Q : Exit → Act → World → Prop} (hg : o.guard = none) (l c : Operand) {t : TypeId} (hop : o.op = Op.makeSlice t l c)
   {α : Type} (r : Rep α) (base : Nat) {e : TypeId} {bytes : Nat} (hT : ElemTy P t e r.n bytes) {kl kc : IntKind} {C : Int} {n : Nat} (hl : a.eval l = .int kl 0) (hc : a.eval c = .int kc C) (hC : C = (n : Int))
   (b2 : bytes * n ≤ 281474976710656) (b3 : n ≤ maxLen) (b4 : base ≤ w.heap.size)
   (hK : ∀ w', Own r base e (fun k => k = w.heap.size) w' (.slice (some ⟨w.heap.size, 0, none⟩) 0 n) [] → Below w.heap.size w w' → wpList P ops Q rest (a.put o.dst (.slice (some ⟨w.heap.size, 0, none⟩) 0 n)) w') :
   wpList P ops Q (o :: rest) a w := by
 obtain ⟨ht, hn, i, z, hi, hz, hsize, hby, hzs⟩ := hT
 refine wpList_make_own w hg l c t hop base e i z r.n ht hi hz hsize kl kc C n hl hc hC (by rw [hby]; exact b2) b3 b4 fun w' ho hgr => hK w' ?_ ?_
 · exact ⟨fun _ => False, [], fun _ h => h.elim, fun k h => ⟨fun h => h, by simpa [Value.ownBlock, eq_comm] using h⟩, rfl, fun i cs x h => by simp at h, by simpa using ho⟩
 · exact ⟨hgr.os, hgr.tape, hgr.output, hgr.size, fun k hk => hgr.block k hk (by simp)⟩
theorem madeCells_flat (z : Array Value) (m n : Nat) (hz : z.size = m) (hm : 0 < m) : (madeCells z (n * m)).toList = (List.replicate n z.toList).flatten := by
 apply List.ext_getElem?
 intro j
 rcases Nat.lt_or_ge j (n * m) with hj | hj
 · have h1 : j / m < n := Nat.div_lt_of_lt_mul (by rw [Nat.mul_comm]; exact hj)
   have h2 : j % m < m := Nat.mod_lt _ hm
   have hall : ∀ cs ∈ List.replicate n z.toList, cs.length = m := fun cs hc => by rw [(List.mem_replicate.1 hc).2]; simpa using hz
   have := flatten_at hall (j / m) z.toList (by simp [h1]) (j % m) (z[j % m]'(by omega)) (by simp [hz, h2])
   rw [show j / m * m + j % m = j by rw [Nat.mul_comm]; exact Nat.div_add_mod j m] at this
   rw [this]
   simp [madeCells, hj, hz, h2]
 · have hall : ∀ cs ∈ List.replicate n z.toList, cs.length = m := fun cs hc => by rw [(List.mem_replicate.1 hc).2]; simpa using hz
   rw [List.getElem?_eq_none (by simpa [size_madeCells] using hj), List.getElem?_eq_none (by rw [flatten_len hall]; simpa using hj)]
end Go.Proofs.YtphacfkcifpobaaGreatDoor
/- Contracts of the rules' functions: txcheck.Rules, the reference's Rules, both parameter checks, and awake, for all values of the fields; no conditions. -/
namespace Go.Proofs.YtphacfkcifpobaaGreatDoor
open Go.ChangeShapes Go.WideShapes Go.ChangeAt Go.RowKit
theorem _root_.Go.RowKit.Below.next {a b c : World} (h1 : Below a.heap.size a b) (h2 : Below b.heap.size b c) : Below a.heap.size a c := h1.trans (h2.mono h1.size)
theorem _root_.Go.RowKit.Below.new {a b : World} (h : Below a.heap.size a b) (o : Obj) : Below a.heap.size a (b.alloc o) := h.alloc h.size o
def paramsB (a b c : Int) : Bool :=
 decide (2 ≤ a ∧ a ≤ 256 ∧ bits BinOp.and IntKind.i64 a (a - 1) = 0 ∧ (b = 1 ∨ b = 2 ∨ b = 4 ∨ b = 8) ∧ 1 ≤ c ∧ c ≤ 64)
set_option maxHeartbeats 400000 in
theorem params_any (a b c : Int) (w : World) :
   Calls Tryz.prog 38 #[.agg #[.int .i64 a, .int .i64 b, .int .i64 c]] w fun e w' => e = .returned (.bool (paramsB a b c)) ∧ Below w.heap.size w w' := by
 go_enter Tryz.func38, Tryz.ntmps38
 go_wp2
 all_goals go_ret
 all_goals refine ⟨ret_bool ?_, (Below.refl _ _).alloc (Nat.le_refl _) _⟩
 all_goals unfold paramsB
 all_goals first
   | exact (decide_eq_true (by omega)).symm
   | exact (decide_eq_false (by omega)).symm
   | exact decide_eq_decide.2 (by omega)
def rulesB (m d bl bu q rew win fin work : Int) : Bool :=
 decide ((1 ≤ m ∧ m ≤ 3 ∧ 1 ≤ d ∧ d ≤ 12 ∧ 1 ≤ win ∧ win ≤ 100 ∧ 1 ≤ fin ∧ fin ≤ 1048576 ∧ rew ≤ 4294967296 ∧ 1 ≤ work ∧ work ≤ 65536) ∧ (m = 1 → paramsB bl bu q = true))
def rulesE (m d bl bu q rew win fin work : Int) : Int := if rulesB m d bl bu q rew win fin work = true then 0 else 1
theorem rulesE_one {m d bl bu q rew win fin work : Int}
   (h : ¬ (1 ≤ m ∧ m ≤ 3 ∧ 1 ≤ d ∧ d ≤ 12 ∧ 1 ≤ win ∧ win ≤ 100 ∧ 1 ≤ fin ∧ fin ≤ 1048576 ∧ rew ≤ 4294967296 ∧ 1 ≤ work ∧ work ≤ 65536)) :
   1 = rulesE m d bl bu q rew win fin work := by
 unfold rulesE rulesB; rw [if_neg (by rw [decide_eq_true_eq]; exact fun g => h g.1)]
theorem rulesE_bad {m d bl bu q rew win fin work : Int} (h1 : m = 1) (h : (!paramsB bl bu q) = true) :
   1 = rulesE m d bl bu q rew win fin work := by
 unfold rulesE rulesB; rw [if_neg (by rw [decide_eq_true_eq]; intro g; have := g.2 h1; simp [this] at h)]
theorem rulesE_zero {m d bl bu q rew win fin work : Int}
   (h : 1 ≤ m ∧ m ≤ 3 ∧ 1 ≤ d ∧ d ≤ 12 ∧ 1 ≤ win ∧ win ≤ 100 ∧ 1 ≤ fin ∧ fin ≤ 1048576 ∧ rew ≤ 4294967296 ∧ 1 ≤ work ∧ work ≤ 65536)
   (h1 : m = 1 → paramsB bl bu q = true) : 0 = rulesE m d bl bu q rew win fin work := by
 unfold rulesE rulesB; rw [if_pos (by rw [decide_eq_true_eq]; exact ⟨h, h1⟩)]
set_option maxHeartbeats 1000000 in
theorem rules_any (m d bl bu q rew win fin work : Int) (w : World) :
   Calls Tryz.prog 20 #[.agg #[.int .i64 m, .int .i64 d, .int .i64 bl, .int .i64 bu, .int .i64 q, .int .u64 rew, .int .i64 win, .int .i64 fin, .int .u64 work]] w fun e w' => e = .returned (.int .i64 (rulesE m d bl bu q rew win fin work)) ∧ Below w.heap.size w w' := by
 go_enter Tryz.func20, Tryz.ntmps20
 go_wp2_with (go_at_call 38; refine (params_any _ _ _ _).mono ?_; rintro e w' ⟨rfl, hb⟩)
 all_goals go_ret
 all_goals refine ⟨ret_int ?_, ?_⟩
 all_goals first
   | exact (Below.refl _ _).alloc (Nat.le_refl _) _
   | exact ((Below.refl _ _).alloc (Nat.le_refl _) _).trans (hb.mono (by simp))
   | exact rulesE_one (by omega)
   | exact rulesE_bad ‹_› ‹_›
   | exact rulesE_zero (by omega) (fun h => by omega)
   | exact rulesE_zero (by omega) (fun h => by simpa using ‹(!paramsB bl bu q) = false›)
end Go.Proofs.YtphacfkcifpobaaGreatDoor
/- Rows in place: deleting, clearing, storing an element. Nothing of the program is named here; no conditions. -/
namespace Go.Proofs.YtphacfkcifpobaaGreatDoor
open Go.ChangeShapes Go.WideShapes Go.ChangeAt Go.RowKit
theorem flatten_take {β : Type} {n : Nat} : ∀ (css : List (List β)), (∀ cs ∈ css, cs.length = n) → ∀ k, (css.take k).flatten = css.flatten.take (k * n)
 | [], _, k => by simp
 | d :: css, hl, 0 => by simp
 | d :: css, hl, k + 1 => by
   have hd : d.length = n := hl d (by simp)
   rw [List.take_succ_cons, List.flatten_cons, flatten_take css (fun cs hc => hl cs (by simp [hc])) k, List.flatten_cons, Nat.succ_mul, List.take_append, hd]
   rw [List.take_of_length_le (l := d) (by omega)]
   congr 2; omega
theorem flatten_drop {β : Type} {n : Nat} : ∀ (css : List (List β)), (∀ cs ∈ css, cs.length = n) → ∀ k, (css.drop k).flatten = css.flatten.drop (k * n)
 | [], _, k => by simp
 | d :: css, hl, 0 => by simp
 | d :: css, hl, k + 1 => by
   have hd : d.length = n := hl d (by simp)
   rw [List.drop_succ_cons, flatten_drop css (fun cs hc => hl cs (by simp [hc])) k, List.flatten_cons, Nat.succ_mul, List.drop_append, hd]
   rw [List.drop_of_length_le (l := d) (by omega), List.nil_append]
   congr 1; omega
def Row {α : Type} (r : Rep α) (e : TypeId) (S : Nat → Prop) (w : World) (g cap : Nat) (xs : List α) : Prop :=
 ∃ (cur : Array Value) (css : List (List Value)), w.heap[g]? = some (.cells cur e (0, 0)) ∧ cur.size = cap * r.n ∧ css.length = xs.length ∧
   (∀ (i : Nat) (cs : List Value) (x : α), css[i]? = some cs → xs[i]? = some x → r.rel S w cs x) ∧ cur.toList.take (xs.length * r.n) = css.flatten ∧ xs.length ≤ cap ∧ ¬ S g ∧ ∀ k, S k → k < w.heap.size
theorem Own.row {α : Type} {r : Rep α} {base : Nat} {e : TypeId} {F : Nat → Prop} {w : World} {g n cap : Nat} {xs : List α} (h : Own r base e F w (.slice (some ⟨g, 0, none⟩) n cap) xs) :
   n = xs.length ∧ base ≤ g ∧ cap ≤ maxLen ∧ F g ∧ ∃ S, (∀ k, S k → F k) ∧ Row r e S w g cap xs := by
 obtain ⟨S, css, hS, hv, hl, hr, ho⟩ := h
 rcases ho.2 with ⟨h1, -⟩ | ⟨g', cap', cur, h1, hb, hg, h2, h3, h4, h5⟩
 · simp at h1
 · simp at h1
   obtain ⟨rfl, rfl, rfl⟩ := h1
   exact ⟨rfl, hb, h3, (hv g rfl).2, S, fun k hk => (hS k hk).1, cur, css, hg, h4, hl, hr, h5, h2, (hv g rfl).1, fun k hk => (hS k hk).2⟩
theorem Row.own {α : Type} {r : Rep α} {base : Nat} {e : TypeId} {F S : Nat → Prop} {w : World} {g cap : Nat} {xs : List α} (h : Row r e S w g cap xs) (hSF : ∀ k, S k → F k) (hF : F g) (hb : base ≤ g) (hc : cap ≤ maxLen) :
   Own r base e F w (.slice (some ⟨g, 0, none⟩) xs.length cap) xs := by
 obtain ⟨cur, css, hg, h4, hl, hr, h5, h2, hng, hS⟩ := h
 refine ⟨S, css, fun k hk => ⟨hSF k hk, hS k hk⟩, fun k hk => ?_, hl, hr, ?_, .inr ⟨g, cap, cur, rfl, hb, hg, h2, hc, h4, h5⟩⟩
 · simp [Value.ownBlock] at hk; subst hk; exact ⟨hng, hF⟩
 · rw [flatten_len (all_len hl hr), hl]
theorem Row.lt {α : Type} {r : Rep α} {e : TypeId} {S : Nat → Prop} {w : World} {g cap : Nat} {xs : List α} (h : Row r e S w g cap xs) : g < w.heap.size := by
 obtain ⟨cur, css, hg, -⟩ := h
 exact box_lt hg
theorem Row.keep {α : Type} {r : Rep α} {e : TypeId} {S : Nat → Prop} {w w' : World} {g cap : Nat} {xs : List α} (h : Row r e S w g cap xs) (hk : Kept (fun k => S k ∨ k = g) w w') : Row r e S w' g cap xs := by
 obtain ⟨cur, css, hg, h4, hl, hr, h5, h2, hng, hS⟩ := h
 exact ⟨cur, css, box_kept hk hg (.inr rfl), h4, hl, fun i cs x hc hx => r.keep (hr i cs x hc hx) (hk.mono fun k _ h => .inl h), h5, h2, hng, fun k hk' => Nat.lt_of_lt_of_le (hS k hk') hk.size⟩
theorem Row.slice {α : Type} {r : Rep α} {e : TypeId} {S : Nat → Prop} {w : World} {g cap : Nat} {xs : List α} (h : Row r e S w g cap xs) (hc : cap ≤ maxLen) : (sliceR r).rel (fun k => S k ∨ k = g) w [.slice (some ⟨g, 0, none⟩) xs.length cap] xs :=
 (h.own (F := fun k => S k ∨ k = g) (base := 0) (fun _ h => .inl h) (.inr rfl) (Nat.zero_le _) hc).slice
theorem kept_setRow (w : World) (g : Nat) (cs : Array Value) : Kept (fun k => k ≠ g) w (w.setRow g cs) :=
 ⟨rfl, rfl, rfl, by simp, fun k _ hk => setRow_other w g k cs hk⟩
theorem Row.rewrite {α : Type} {r : Rep α} {e : TypeId} {S : Nat → Prop} {w : World} {g cap : Nat} {ys : List α} {css : List (List Value)} {cur : Array Value} (hg : w.heap[g]? = some (.cells cur e (0, 0))) (hng : ¬ S g) (hS : ∀ k, S k → k < w.heap.size)
   (hl : css.length = ys.length) (hr : ∀ (i : Nat) (cs : List Value) (x : α), css[i]? = some cs → ys[i]? = some x → r.rel S w cs x) (cur' : List Value) (h4 : cur'.length = cap * r.n) (h5 : cur'.take (ys.length * r.n) = css.flatten) (h2 : ys.length ≤ cap) :
   Row r e S (w.setRow g cur'.toArray) g cap ys :=
 ⟨cur'.toArray, css, setRow_heap w g cur _ e _ hg, by simpa using h4, hl, fun i cs x hc hx => r.keep (hr i cs x hc hx) ((kept_setRow w g _).mono fun k _ hk he => hng (he ▸ hk)), by simpa using h5, h2, hng, fun k hk => by simpa using hS k hk⟩
theorem setCells_setRow (g : Nat) (e : TypeId) : ∀ (vs : List Value) (o : Nat) (w : World) (cur : Array Value), w.heap[g]? = some (.cells cur e (0, 0)) → o + vs.length ≤ cur.size →
   w.setCells g o vs = w.setRow g (cur.toList.take o ++ vs ++ cur.toList.drop (o + vs.length)).toArray
 | [], o, w, cur, hg, _ => by simp [World.setCells, setRow_self w g cur e (0, 0) hg]
 | v :: vs, o, w, cur, hg, hlt => by
   simp only [List.length_cons] at hlt
   rw [World.setCells, setCells_setRow g e vs (o + 1) (w.setCell ⟨g, o, none⟩ v) (cur.setIfInBounds o v) (box_set hg) (by simp; omega)]
   have hw : ∀ cs : Array Value, (w.setCell ⟨g, o, none⟩ v).setRow g cs = w.setRow g cs := by
     intro cs
     simp only [World.setRow, World.setCell]
     congr 1
     apply Array.ext_getElem?
     intro j
     simp only [Array.getElem?_modify]
     split
     · rename_i hj; subst hj; rw [hg]; simp
     · rfl
   rw [hw]
   congr 2
   rw [Array.toList_setIfInBounds]
   have hcl : cur.toList.length = cur.size := by simp
   generalize cur.toList = L at *
   have e1 : (L.set o v).take (o + 1) = L.take o ++ [v] := by
     rw [List.set_eq_take_append_cons_drop, if_pos (by omega), List.take_append, List.take_of_length_le (by simp; omega), List.length_take, Nat.min_eq_left (by omega), Nat.add_sub_cancel_left]
     simp
   rw [e1, List.drop_set_of_lt (by omega), List.append_assoc (L.take o), List.singleton_append]
   congr 2
   simp only [List.length_cons]; omega
theorem Row.store {α : Type} {r : Rep α} {e : TypeId} {S : Nat → Prop} {w : World} {g cap : Nat} {xs : List α} (h : Row r e S w g cap xs) (i : Nat) (hi : i < xs.length) {es : List Value} {x : α} (hx : r.rel S w es x) :
   Row r e S (w.setCells g (i * r.n) es) g cap (xs.set i x) ∧ Kept (fun k => k ≠ g) w (w.setCells g (i * r.n) es) := by
 obtain ⟨cur, css, hg, h4, hl, hr, h5, h2, hng, hS⟩ := h; have hel := r.len hx; have hall := all_len hl hr; have hile : (i + 1) * r.n ≤ xs.length * r.n := Nat.mul_le_mul_right _ hi; have hsz : xs.length * r.n ≤ cap * r.n := Nat.mul_le_mul_right _ h2
 have hcl : cur.toList.length = cap * r.n := by simpa using h4
 rw [Nat.succ_mul] at hile
 rw [setCells_setRow g e es (i * r.n) w cur hg (by rw [h4, hel]; omega)]
 refine ⟨Row.rewrite (css := css.set i es) hg hng hS (by simp [hl]) ?_ _ ?_ ?_ (by simpa using h2), kept_setRow w g _⟩
 · intro j cs y hc hy
   rw [List.getElem?_set] at hc hy
   by_cases hij : i = j
   · subst hij
     simp [hl, hi] at hc hy
     subst hc hy
     exact hx
   · rw [if_neg hij] at hc hy
     exact hr j cs y hc hy
 · simp only [List.length_append, List.length_take, List.length_drop, Array.length_toList, h4, hel]
   omega
 · rw [List.length_set, List.set_eq_take_append_cons_drop, if_pos (by omega), List.flatten_append, List.flatten_cons, flatten_take css hall, flatten_drop css hall, ← h5, hel]
   rw [List.take_take, Nat.min_eq_left (by omega), List.append_assoc, List.take_append, List.take_take, Nat.min_eq_right (by omega)]
   congr 1
   rw [List.length_take, hcl, Nat.min_eq_left (by omega), List.take_append, List.take_of_length_le (by omega)]
   congr 1
   rw [hel, List.drop_take, Nat.succ_mul]
   congr 1
   omega
theorem Row.at {α : Type} {r : Rep α} {e : TypeId} {S : Nat → Prop} {w : World} {g cap : Nat} {xs : List α} (h : Row r e S w g cap xs) (i : Nat) (hi : i < xs.length) :
   ∃ es, r.rel S w es xs[i] ∧ CellsAt w g (i * r.n) es := by
 obtain ⟨cur, css, hg, h4, hl, hr, h5, h2, hng, hS⟩ := h
 have hcs : css[i]? = some (css[i]'(by omega)) := by simp [hl, hi]
 refine ⟨css[i]'(by omega), hr i _ _ hcs (by simp [hi]), fun j c hj => ?_⟩
 have := flatten_at (all_len hl hr) i _ hcs j c hj; rw [(box_cells hg).1, ← Array.getElem?_toList]; rw [← h5, List.getElem?_take] at this
 split at this
 · exact this
 · simp at this
end Go.Proofs.YtphacfkcifpobaaGreatDoor
/- The data of transactions and rules, and the smallness test. -/
namespace Go.Proofs.YtphacfkcifpobaaGreatDoor
open Go.ChangeShapes Go.WideShapes Go.ChangeAt Go.RowKit
structure OutM where
 commit : Int
 p0 : Int
 p1 : Int
 cipher : List Int
structure TxM where
 anchor : Int
 marks : List Int
 outs : List OutM
 dep : Int
 wd : Int
 fee : Int
 acc : Int
 nonce : Int
 exp : Int
 proof : List Int
abbrev u64R : Rep Int := intR .u64
abbrev numsR : Rep (List Int) := sliceR u64R
abbrev bytesR : Rep (List Int) := sliceR (intR .u8)
def outR : Rep OutM := mapR (fun o => (o.commit, (o.p0, o.p1), o.cipher)) (pairR u64R (pairR (pairR u64R u64R) numsR))
theorem outR.n : outR.n = 4 := rfl
abbrev outsR : Rep (List OutM) := sliceR outR
def txR : Rep TxM := mapR (fun t => (t.anchor, t.marks, t.outs, t.dep, t.wd, t.fee, t.acc, t.nonce, t.exp, t.proof))
 (pairR u64R (pairR numsR (pairR outsR (pairR u64R (pairR u64R (pairR u64R (pairR u64R (pairR u64R (pairR (intR .i64) bytesR)))))))))
theorem txR.n : txR.n = 10 := rfl
abbrev okU (x : Int) : Prop := (Lit.int .u64 x).wf = true
theorem one_form {α : Type} {r : Rep α} {S : Nat → Prop} {w : World} {cs : List Value} {xs : List α} (h : (sliceR r).rel S w cs xs) : ∃ a cap, cs = [.slice a xs.length cap] := by
 obtain ⟨a, len, cap, rfl, rfl, -⟩ := h
 exact ⟨a, cap, rfl⟩
theorem outR.inv {S : Nat → Prop} {w : World} {cs : List Value} {o : OutM} (h : outR.rel S w cs o) :
   ∃ a cap, cs = [.int .u64 o.commit, .int .u64 o.p0, .int .u64 o.p1, .slice a o.cipher.length cap] ∧ okU o.commit ∧ okU o.p0 ∧ okU o.p1 ∧ numsR.rel S w [.slice a o.cipher.length cap] o.cipher := by
 obtain ⟨c1, c2, rfl, ⟨rfl, w1⟩, d1, d2, rfl, ⟨e1, e2, rfl, ⟨rfl, w2⟩, ⟨rfl, w3⟩⟩, h4⟩ := h; obtain ⟨a, cap, rfl⟩ := one_form h4
 exact ⟨a, cap, rfl, w1, w2, w3, h4⟩
def txCells (t : TxM) (ma oa pa : Option Addr) (mc oc pc : Nat) : List Value :=
 [.int .u64 t.anchor, .slice ma t.marks.length mc, .slice oa t.outs.length oc, .int .u64 t.dep, .int .u64 t.wd, .int .u64 t.fee, .int .u64 t.acc, .int .u64 t.nonce, .int .i64 t.exp, .slice pa t.proof.length pc]
structure TxIn (S : Nat → Prop) (w : World) (t : TxM) (ma oa pa : Option Addr) (mc oc pc : Nat) : Prop where
 anchor : okU t.anchor
 dep : okU t.dep
 wd : okU t.wd
 fee : okU t.fee
 acc : okU t.acc
 nonce : okU t.nonce
 exp : (Lit.int .i64 t.exp).wf = true
 marks : numsR.rel S w [.slice ma t.marks.length mc] t.marks
 outs : outsR.rel S w [.slice oa t.outs.length oc] t.outs
 proof : bytesR.rel S w [.slice pa t.proof.length pc] t.proof
theorem txR.inv {S : Nat → Prop} {w : World} {cs : List Value} {t : TxM} (h : txR.rel S w cs t) : ∃ ma oa pa mc oc pc, cs = txCells t ma oa pa mc oc pc ∧ TxIn S w t ma oa pa mc oc pc := by
 obtain ⟨_, _, rfl, ⟨rfl, w1⟩, _, _, rfl, h2, _, _, rfl, h3, _, _, rfl, ⟨rfl, w4⟩, _, _, rfl, ⟨rfl, w5⟩, _, _, rfl, ⟨rfl, w6⟩, _, _, rfl, ⟨rfl, w7⟩, _, _, rfl, ⟨rfl, w8⟩, _, _, rfl, ⟨rfl, w9⟩, h10⟩ := h; obtain ⟨ma, mc, rfl⟩ := one_form h2; obtain ⟨oa, oc, rfl⟩ := one_form h3; obtain ⟨pa, pc, rfl⟩ := one_form h10
 exact ⟨ma, oa, pa, mc, oc, pc, rfl, w1, w4, w5, w6, w7, w8, w9, h2, h3, h10⟩
theorem TxIn.keep {S : Nat → Prop} {w w' : World} {t : TxM} {ma oa pa : Option Addr} {mc oc pc : Nat} (h : TxIn S w t ma oa pa mc oc pc) (hk : Kept S w w') : TxIn S w' t ma oa pa mc oc pc :=
 ⟨h.anchor, h.dep, h.wd, h.fee, h.acc, h.nonce, h.exp, numsR.keep h.marks hk, outsR.keep h.outs hk, bytesR.keep h.proof hk⟩
theorem TxIn.keepB {S : Nat → Prop} {w w' : World} {t : TxM} {ma oa pa : Option Addr} {mc oc pc : Nat} (h : TxIn S w t ma oa pa mc oc pc) (hb : Below w.heap.size w w') : TxIn S w' t ma oa pa mc oc pc := h.keep (Kept.of_below hb)
theorem outs_at {S : Nat → Prop} {w : World} {a : Option Addr} {len cap : Nat} {l : List OutM} (h : outsR.rel S w [.slice a len cap] l) (k : Nat) (hk : k < l.length) :
   ∃ b off ca cc, a = some ⟨b, off, none⟩ ∧ S b ∧ b < w.heap.size ∧ okU l[k].commit ∧ okU l[k].p0 ∧ okU l[k].p1 ∧ numsR.rel S w [.slice ca l[k].cipher.length cc] l[k].cipher ∧
     w.cell? ⟨b, off + k * 4, none⟩ = some (.int .u64 l[k].commit) ∧ w.cell? ⟨b, off + k * 4 + 1, none⟩ = some (.int .u64 l[k].p0) ∧ w.cell? ⟨b, off + k * 4 + 2, none⟩ = some (.int .u64 l[k].p1) ∧
     w.cell? ⟨b, off + k * 4 + 3, none⟩ = some (.slice ca l[k].cipher.length cc) := by
 obtain ⟨b, off, es, rfl, hb, hbl, hrel, hca⟩ := sliceR.at h k hk; obtain ⟨ca, cc, rfl, w1, w2, w3, h4⟩ := outR.inv hrel; rw [outR.n] at hca
 exact ⟨b, off, ca, cc, rfl, hb, hbl, w1, w2, w3, h4, hca 0 _ rfl, hca 1 _ rfl, hca 2 _ rfl, hca 3 _ rfl⟩
theorem all_take_succ {α : Type} (p : α → Bool) (l : List α) (k : Nat) (h : k < l.length) : (l.take (k + 1)).all p = ((l.take k).all p && p l[k]) := by
 rw [List.take_succ_eq_append_getElem h, List.all_append]; simp
theorem all_false {α : Type} (p : α → Bool) (l : List α) (k : Nat) (h : k < l.length) (hp : p l[k] = false) : l.all p = false := by
 rw [List.all_eq_false]
 exact ⟨l[k], by simp, by simp [hp]⟩
end Go.Proofs.YtphacfkcifpobaaGreatDoor
