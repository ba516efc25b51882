/- For drawn regions walked by hand: held conditions that simp does not look into. Nothing of the program is named here; no conditions. -/
import Derived.Test.YtphacfkcifpobaaGreatDoorM08
import Derived.Test.YtphacfkcifpobaaGreatDoorM03
import Derived.Deep.RegionHeld
import Derived.Deep.MidRow
import Derived.Test.YtphacfkcifpobaaGreatDoorM09
set_option maxRecDepth 100000
namespace Go.Proofs.YtphacfkcifpobaaGreatDoor
open Go.ChangeShapes Go.WideShapes Go.ChangeAt Go.RowKit Go.Sort
structure BoxS (w0 : World) (B : Nat) (l : List Value) (w' : World) : Prop where
 bel : Below w0.heap.size w0 w'
 cel : ∀ o, w'.cell? ⟨B, o, none⟩ = (List.toArray l)[o]?
section
variable {w0 w1 w2 : World} {B : Nat} {l : List Value} {t : TypeId}
theorem BoxS.of (h : w0.heap[B]? = some (.cells (List.toArray l) t (0, 0))) (hb : Below w0.heap.size w0 w1) : BoxS w0 B l w1 := ⟨hb, (box_cells (box_after hb h)).1⟩
theorem BoxS.drew (h : BoxS w0 B l w1) : BoxS w0 B l w1.drew := ⟨h.bel.drew, h.cel⟩
theorem BoxS.range (h : BoxS w0 B l w1) : w1.rangeAt B 0 l := fun j v hv => by rw [Nat.zero_add, h.cel]; simpa using hv
end
structure RngS (w0 : World) (B1 o1 : Nat) (l1 : List Value) (B2 o2 : Nat) (l2 : List Value) (w' : World) : Prop where
 bel : Below w0.heap.size w0 w'
 r1 : w'.rangeAt B1 o1 l1
 r2 : w'.rangeAt B2 o2 l2
theorem range_below {w w' : World} {B o : Nat} {l : List Value} (h : w.rangeAt B o l) (hb : Below w.heap.size w w') : w'.rangeAt B o l := fun j v hv => (Kept.of_below (S := fun _ => True) hb).cell trivial (h j v hv)
theorem RngS.of {w0 w1 : World} {B1 o1 B2 o2 : Nat} {l1 l2 : List Value} (h1 : w0.rangeAt B1 o1 l1) (h2 : w0.rangeAt B2 o2 l2) (hb : Below w0.heap.size w0 w1) : RngS w0 B1 o1 l1 B2 o2 l2 w1 := ⟨hb, range_below h1 hb, range_below h2 hb⟩
end Go.Proofs.YtphacfkcifpobaaGreatDoor
/- Regions walked by hand: short forms of the steps. -/
namespace Go.Proofs.YtphacfkcifpobaaGreatDoor
open Go.ChangeShapes Go.WideShapes Go.ChangeAt Go.RowKit
section
variable {P : Program} {md : Region.Mode} {ops : Array Oper} {Q : Exit → Act → World → Prop} {S : World → Prop}
theorem tkY (i : Nat) {oi : Oper} {v : Value} {fuel : Nat} {listed : Array Bool} {a : Act} {w : World} (hi : ops[i]? = some oi) (hy : YieldsIf P ops S oi v a)
   (h : wpAnyH P md ops Q S fuel (listed.setIfInBounds i true) (a.put oi.dst v) w) (hS : S w := by assumption)
   (hc : (Region.noSelect ops && (Region.free md ops listed i && (Region.ready md ops listed).contains i)) = true := by as_aux_lemma => kernel_rfl)
   (hQ : ∀ c a w, Q (.panic c) (a.put oi.dst v) w → Q (.panic c) a w := by exact fun _ _ _ h => h) : wpAnyH P md ops Q S (fuel + 1) listed a w := by
 rw [Bool.and_eq_true, Bool.and_eq_true] at hc
 exact wpAnyH_take hi hc.1 hc.2.1 hc.2.2 hQ hy hS h
theorem tkV (i : Nat) {oi : Oper} {v : Value} {fuel : Nat} {listed : Array Bool} {a : Act} {w : World} (hi : ops[i]? = some oi) (hy : ∀ w, S w → (execOp a.eval oi).run P w = .ok (.value v) w)
   (h : wpAnyH P md ops Q S fuel (listed.setIfInBounds i true) (a.put oi.dst v) w) (hS : S w := by assumption) (hw : Region.wanted oi (yielded ops a.tmps) = true := by rfl)
   (hc : (Region.noSelect ops && (Region.free md ops listed i && (Region.ready md ops listed).contains i)) = true := by as_aux_lemma => kernel_rfl)
   (hQ : ∀ c a w, Q (.panic c) (a.put oi.dst v) w → Q (.panic c) a w := by exact fun _ _ _ h => h) : wpAnyH P md ops Q S (fuel + 1) listed a w := by
 rw [Bool.and_eq_true, Bool.and_eq_true] at hc
 exact wpAnyH_take hi hc.1 hc.2.1 hc.2.2 hQ (.inl ⟨hw, hy⟩) hS h
theorem rd1 (i : Nat) {o : Oper} {fuel : Nat} {listed : Array Bool} {a : Act} {w : World} (ho : ops[i]? = some o) (h : (∀ K' : Act → World → Prop, Shut (∀ a w, S w → (S w → wpAnyH P md ops Q S fuel (listed.setIfInBounds i true) a w) → K' a w) → if Region.wanted o (yielded ops a.tmps) = true then Oper.wp P o a w K' Q else K' (a.put o.dst undef) w)) (hr : Region.ready md ops listed = [i] := by as_aux_lemma => kernel_rfl) : wpAnyH P md ops Q S (fuel + 1) listed a w :=
 wpAnyH_ready hr (by simp) (AllReadyH.cons ho h AllReadyH.nil)
theorem rd2 (i j : Nat) {o o2 : Oper} {fuel : Nat} {listed : Array Bool} {a : Act} {w : World} (ho : ops[i]? = some o) (ho2 : ops[j]? = some o2) (h : (∀ K' : Act → World → Prop, Shut (∀ a w, S w → (S w → wpAnyH P md ops Q S fuel (listed.setIfInBounds i true) a w) → K' a w) → if Region.wanted o (yielded ops a.tmps) = true then Oper.wp P o a w K' Q else K' (a.put o.dst undef) w)) (h2 : (∀ K' : Act → World → Prop, Shut (∀ a w, S w → (S w → wpAnyH P md ops Q S fuel (listed.setIfInBounds j true) a w) → K' a w) → if Region.wanted o2 (yielded ops a.tmps) = true then Oper.wp P o2 a w K' Q else K' (a.put o2.dst undef) w)) (hr : Region.ready md ops listed = [i, j] := by as_aux_lemma => kernel_rfl) : wpAnyH P md ops Q S (fuel + 1) listed a w :=
 wpAnyH_ready hr (by simp) (AllReadyH.cons ho h (AllReadyH.cons ho2 h2 AllReadyH.nil))
end
end Go.Proofs.YtphacfkcifpobaaGreatDoor
/- Steps of drawn regions: loads and stores of whole struct boxes, make. Nothing of the program is named here; no conditions. -/
namespace Go.Proofs.YtphacfkcifpobaaGreatDoor
open Go.ChangeShapes Go.WideShapes Go.ChangeAt Go.RowKit Go.Sort
theorem step_store_row {P : Program} {ops : Array Oper} {o : Oper} {a : Act} {w : World} {K : Act → World → Prop} {Q : Exit → Act → World → Prop} {E : Prop} (hgd : o.guard = none) (ty : TypeId) (x y : Operand) (ho : o.op = .store ty x y)
   (g : Nat) (cells : Array Value) (hx : a.eval x = .pointer (some ⟨g, 0, none⟩)) (hy : a.eval y = .agg cells)
   (t : TypeId) (old : Array Value) (hg : w.heap[g]? = some (.cells old t (0, 0))) (hi : (P.info? ty).map (·.size) = some cells.size)
   (hold : old.size = cells.size) (h1 : cells.all (·.oneCell') = true)
   (h : K (a.put o.dst undef) (w.setRow g cells)) : if Region.wanted o (yielded ops a.tmps) = true then Oper.wp P o a w K Q else E := by
 have hw : Region.wanted o (yielded ops a.tmps) = true := by simp [Region.wanted, hgd]
 rw [if_pos hw]
 exact wp_store_row ty x y ho g cells hx hy t old hg hi hold h1 h
theorem setRow_other (w : World) (g k : Nat) (cs : Array Value) (h : k ≠ g) : (w.setRow g cs).heap[k]? = w.heap[k]? := by
 simp [World.setRow, Array.getElem?_modify, Ne.symm h]
theorem below_setRow {B : Nat} {a b : World} {g : Nat} (h : Below B a b) (hg : B ≤ g) (cs : Array Value) : Below B a (b.setRow g cs) :=
 ⟨h.os, h.tape, h.output, by rw [size_setRow]; exact h.size, fun i hi => by rw [setRow_other _ _ _ _ (by omega)]; exact h.block i hi⟩
theorem ret_c {P : Program} {fn : Func} {p : Tmp} {ty : TypeId} (h : fn.results = #[.cell p ty]) {tmps : Array Value} {w : World} {g : Nat} {t : TypeId} {cs : Array Value} {fr : Nat × Nat} {d : TypeDesc}
   (hp : tmps.getD p undef = .pointer (some ⟨g, 0, none⟩)) (hg : w.heap[g]? = some (.cells cs t fr))
   (hu : P.underlying ty = some d) (hd : (match d with | .struct _ | .array _ _ => true | _ => false) = true) (hi : (P.info? ty).map (·.size) = some cs.size) :
   (results fn tmps).run P w = .ok (.agg cs) w := by
 have hp' : tmps[p]?.getD undef = .pointer (some ⟨g, 0, none⟩) := by simpa using hp
 simp [results, h, hp', asAddr, run_loadVar_row w g t ty cs fr d hg hu hd hi]
structure BxS (W : World) (g : Nat) (cs : Array Value) (t : TypeId) (w' : World) : Prop where
 bel : Below W.heap.size W w'
 box : w'.heap[g]? = some (.cells cs t (0, 0))
 lt : g < W.heap.size
theorem BxS.start {W : World} {g : Nat} {cs : Array Value} {t : TypeId} (h : W.heap[g]? = some (.cells cs t (0, 0))) : BxS W g cs t W.drew := ⟨(Below.refl _ _).drew, h, box_lt h⟩
theorem BxS.next {W w1 w2 : World} {g : Nat} {cs : Array Value} {t : TypeId} (h : BxS W g cs t w1) (hb : Below w1.heap.size w1 w2) : BxS W g cs t w2 := ⟨bnext h.bel hb, box_after hb h.box, h.lt⟩
theorem BxS.setRow {W w1 : World} {g B : Nat} {cs : Array Value} {t : TypeId} (h : BxS W g cs t w1) (hB : W.heap.size ≤ B) (v : Array Value) : BxS W g cs t (w1.setRow B v) :=
 ⟨below_setRow h.bel hB v, by rw [setRow_other _ _ _ _ (Nat.ne_of_lt (Nat.lt_of_lt_of_le h.lt hB))]; exact h.box, h.lt⟩
structure TwoB (b1 : Nat) (l1 : List Value) (t1 : TypeId) (b2 : Nat) (l2 : List Value) (t2 : TypeId) (w' : World) : Prop where
 one : w'.heap[b1]? = some (.cells l1.toArray t1 (0, 0))
 two : w'.heap[b2]? = some (.cells l2.toArray t2 (0, 0))
theorem range_box {w : World} {b : Nat} {l : List Value} {t : TypeId} (h : w.heap[b]? = some (.cells l.toArray t (0, 0))) : w.rangeAt b 0 l := fun j v hv => by rw [Nat.zero_add, (box_cells h).1]; simpa using hv
theorem TwoB.setRow {b1 b2 g : Nat} {l1 l2 : List Value} {t1 t2 : TypeId} {w : World} (h : TwoB b1 l1 t1 b2 l2 t2 w) (h1 : b1 ≠ g) (h2 : b2 ≠ g) (cs : Array Value) : TwoB b1 l1 t1 b2 l2 t2 (w.setRow g cs) :=
 ⟨by rw [setRow_other _ _ _ _ h1]; exact h.one, by rw [setRow_other _ _ _ _ h2]; exact h.two⟩
end Go.Proofs.YtphacfkcifpobaaGreatDoor
/- A frame: what a call owns, part by part, each part in memory of its own; O is memory that all may read and none changes. Nothing of the program is named here; no conditions. -/
namespace Go.Proofs.YtphacfkcifpobaaGreatDoor
open Go.ChangeShapes Go.WideShapes Go.ChangeAt Go.RowKit Go.Sort
structure Asn (O : Nat → Prop) where
 rel : (Nat → Prop) → World → Prop
 keep : ∀ {F w w'}, rel F w → Kept (fun k => F k ∨ O k) w w' → rel F w'
 mono : ∀ {F F' w}, rel F w → (∀ k, k < w.heap.size → F k → F' k) → rel F' w
variable {O : Nat → Prop}
def boxA (b : Nat) (cs : Array Value) (t : TypeId) : Asn O where
 rel F w := F b ∧ w.heap[b]? = some (.cells cs t (0, 0))
 keep h hk := ⟨h.1, box_kept hk h.2 (.inl h.1)⟩
 mono h hF := ⟨hF b (box_lt h.2) h.1, h.2⟩
def ownA {α : Type} (r : Rep α) (base : Nat) (e : TypeId) (v : Value) (xs : List α) : Asn O where
 rel F w := Own r base e F w v xs
 keep h hk := h.keep (hk.mono fun _ _ h => .inl h)
 mono h hF := h.mono hF
def repA {α : Type} (r : Rep α) (cs : List Value) (x : α) : Asn O where
 rel F w := r.rel F w cs x
 keep h hk := r.keep h (hk.mono fun _ _ h => .inl h)
 mono h hF := r.mono h hF
inductive In : List (Asn O) → Asn O → (Asn O → List (Asn O)) → List (Asn O) → Prop
 | z {L : List (Asn O)} {A : Asn O} : In (A :: L) A (fun X => X :: L) L
 | s {L E : List (Asn O)} {A B : Asn O} {f : Asn O → List (Asn O)} : In L A f E → In (B :: L) A (fun X => B :: f X) (B :: E)
section
variable {L : List (Asn O)} {A B C D E G H I J : Asn O}
theorem i0 : In (A :: L) A (fun X => X :: L) L := .z
theorem i1 : In (A :: B :: L) B (fun X => A :: X :: L) (A :: L) := .s .z
theorem i2 : In (A :: B :: C :: L) C (fun X => A :: B :: X :: L) (A :: B :: L) := .s (.s .z)
theorem i3 : In (A :: B :: C :: D :: L) D (fun X => A :: B :: C :: X :: L) (A :: B :: C :: L) := .s (.s (.s .z))
theorem i4 : In (A :: B :: C :: D :: E :: L) E (fun X => A :: B :: C :: D :: X :: L) (A :: B :: C :: D :: L) := .s (.s (.s (.s .z)))
theorem i5 : In (A :: B :: C :: D :: E :: G :: L) G (fun X => A :: B :: C :: D :: E :: X :: L) (A :: B :: C :: D :: E :: L) := .s (.s (.s (.s (.s .z))))
theorem i6 : In (A :: B :: C :: D :: E :: G :: H :: L) H (fun X => A :: B :: C :: D :: E :: G :: X :: L) (A :: B :: C :: D :: E :: G :: L) := .s (.s (.s (.s (.s (.s .z)))))
end
def SepL : List (Asn O) → (Nat → Prop) → World → Prop
 | [], _, _ => True
 | A :: L, F, w => ∃ G : Nat → Prop, (∀ k, G k → F k) ∧ A.rel G w ∧ SepL L (fun k => F k ∧ ¬ G k) w
theorem SepL.keep : ∀ {L : List (Asn O)} {F : Nat → Prop} {w w' : World}, SepL L F w → Kept (fun k => F k ∨ O k) w w' → SepL L F w'
 | [], _, _, _, _, _ => trivial
 | A :: _, _, _, _, ⟨G, hG, hA, hL⟩, hk => ⟨G, hG, A.keep hA (hk.mono fun k _ h => h.imp (hG k) id), SepL.keep hL (hk.mono fun _ _ h => h.imp (·.1) id)⟩
theorem SepL.mono : ∀ {L : List (Asn O)} {F F' : Nat → Prop} {w : World}, SepL L F w → (∀ k, F k → F' k) → SepL L F' w
 | [], _, _, _, _, _ => trivial
 | _ :: _, _, _, _, ⟨G, hG, hA, hL⟩, hF => ⟨G, fun k h => hF k (hG k h), hA, SepL.mono hL fun k h => ⟨hF k h.1, h.2⟩⟩
theorem SepL.take {L : List (Asn O)} {A : Asn O} {f : Asn O → List (Asn O)} {E : List (Asn O)} (ix : In L A f E) : ∀ {F : Nat → Prop} {w : World}, SepL L F w → ∃ G : Nat → Prop, (∀ k, G k → F k) ∧ A.rel G w ∧ SepL E (fun k => F k ∧ ¬ G k) w ∧
   ∀ (A' : Asn O) (w' : World) (G' : Nat → Prop), A'.rel G' w' → (∀ k, G' k → F k → G k) → Kept (fun k => (F k ∧ ¬ G k) ∨ O k) w w' → SepL (f A') (fun k => (F k ∧ ¬ G k) ∨ G' k) w' := by
 induction ix with
 | z =>
   rintro F w ⟨G, hG, hA, hL⟩
   exact ⟨G, hG, hA, hL, fun A' w' G' h1 h2 h3 => ⟨G', fun k h => .inr h, h1, (SepL.keep hL h3).mono fun k h => ⟨.inl h, fun h4 => h.2 (h2 k h4 h.1)⟩⟩⟩
 | @s L E A B f ix ih =>
   rintro F w ⟨GB, hG, hB, hL⟩; obtain ⟨G, g1, g2, g3, g4⟩ := ih hL
   refine ⟨G, fun k h => (g1 k h).1, g2, ⟨GB, fun k h => ⟨hG k h, fun h2 => (g1 k h2).2 h⟩, hB, g3.mono fun k h => ⟨⟨h.1.1, h.2⟩, h.1.2⟩⟩, fun A' w' G' h1 h2 h3 => ?_⟩
   refine ⟨GB, fun k h => .inl ⟨hG k h, fun h2 => (g1 k h2).2 h⟩, B.keep hB (h3.mono fun k _ h => h.imp (fun h => ⟨hG k h, fun h2 => (g1 k h2).2 h⟩) id), ?_⟩
   refine (g4 A' w' G' h1 (fun k a b => h2 k a b.1) (h3.mono fun k _ h => h.imp (fun h => ⟨h.1.1, h.2⟩) id)).mono fun k h => ?_
   rcases h with h | h
   · exact ⟨.inl ⟨h.1.1, h.2⟩, h.1.2⟩
   · exact ⟨.inr h, fun hb => (g1 k (h2 k h (hG k hb))).2 hb⟩
theorem SepL.get {L : List (Asn O)} {A : Asn O} {f : Asn O → List (Asn O)} {E : List (Asn O)} (ix : In L A f E) {F : Nat → Prop} {w : World} (h : SepL L F w) : A.rel F w := by
 obtain ⟨G, h1, h2, -⟩ := h.take ix
 exact A.mono h2 fun k _ h => h1 k h
structure Fr (L : List (Asn O)) (F0 : Nat → Prop) (w0 w : World) : Prop where
 ex : ∃ F, SepL L F w ∧ ∀ k, F k → (F0 k ∨ w0.heap.size ≤ k) ∧ k < w.heap.size
 kept : Kept (fun k => ¬ F0 k) w0 w
 con : ∀ k, O k → k < w0.heap.size ∧ ¬ F0 k
section
variable {L E : List (Asn O)} {A B : Asn O} {f : Asn O → List (Asn O)} {F0 : Nat → Prop} {w0 w w' : World}
theorem Fr.nil (F0 : Nat → Prop) (w0 : World) (hO : ∀ k, O k → k < w0.heap.size ∧ ¬ F0 k) : Fr (O := O) [] F0 w0 w0 := ⟨⟨fun _ => False, trivial, fun _ h => h.elim⟩, Kept.refl _ _, hO⟩
theorem Fr.one {G : Nat → Prop} (h : A.rel G w0) (hG : ∀ k, G k → F0 k ∧ k < w0.heap.size) (hO : ∀ k, O k → k < w0.heap.size ∧ ¬ F0 k) : Fr [A] F0 w0 w0 := ⟨⟨G, ⟨G, fun _ h => h, h, trivial⟩, fun k h => ⟨.inl (hG k h).1, (hG k h).2⟩⟩, Kept.refl _ _, hO⟩
theorem Fr.keepB (h : Fr L F0 w0 w) (hb : Below w.heap.size w w') : Fr L F0 w0 w' := by
 obtain ⟨⟨F, h1, h2⟩, hk, hO⟩ := h
 exact ⟨⟨F, SepL.keep h1 (Kept.of_below hb), fun k h => ⟨(h2 k h).1, Nat.lt_of_lt_of_le (h2 k h).2 hb.size⟩⟩, hk.trans (Kept.of_below hb) fun _ _ h => h, hO⟩
theorem Fr.drew (h : Fr L F0 w0 w) : Fr L F0 w0 w.drew := h.keepB (Below.refl _ _).drew
theorem Fr.drewN (h : Fr L F0 w0 w) (n : Nat) : Fr L F0 w0 (w.drewN n) := h.keepB (bdrewN (Below.refl _ _) n)
theorem Fr.new (h : Fr L F0 w0 w) (hb : Below w.heap.size w w') (hA : A.rel (fun k => w.heap.size ≤ k) w') : Fr (A :: L) F0 w0 w' := by
 obtain ⟨⟨F, h1, h2⟩, hk, hO⟩ := h
 refine ⟨⟨fun k => F k ∨ (w.heap.size ≤ k ∧ k < w'.heap.size), ⟨fun k => w.heap.size ≤ k ∧ k < w'.heap.size, fun k h => .inr h, A.mono hA fun k h1 h2 => ⟨h2, h1⟩, ?_⟩, fun k h => ?_⟩, hk.trans (Kept.of_below hb) fun _ _ h => h, hO⟩
 · exact (SepL.keep h1 (Kept.of_below hb)).mono fun k h => ⟨.inl h, fun h3 => by have := (h2 k h).2; omega⟩
 · rcases h with h | h
   · exact ⟨(h2 k h).1, Nat.lt_of_lt_of_le (h2 k h).2 hb.size⟩
   · exact ⟨.inr (Nat.le_trans hk.size h.1), h.2⟩
theorem Fr.alloc (h : Fr L F0 w0 w) (cs : Array Value) (t : TypeId) : Fr (boxA w.heap.size cs t :: L) F0 w0 (w.alloc (.cells cs t)) :=
 h.new (bnew (Below.refl _ _) _) ⟨Nat.le_refl _, box_new w _⟩
theorem Fr.open (h : Fr L F0 w0 w) (ix : In L A f E) : ∃ G : Nat → Prop, (∀ k, G k → (F0 k ∨ w0.heap.size ≤ k) ∧ k < w.heap.size) ∧ A.rel G w ∧ (∀ {B : Asn O} {f' : Asn O → List (Asn O)} {E' : List (Asn O)}, In E B f' E' → B.rel (fun k => ¬ G k) w) ∧
   ∀ (A' : Asn O) (w' : World), A'.rel (fun k => G k ∨ w.heap.size ≤ k) w' → Kept (fun k => ¬ G k) w w' → Fr (f A') F0 w0 w' := by
 obtain ⟨⟨F, h1, h2⟩, hk, hO⟩ := h
 have hx : ∀ k, O k → ¬ F k := fun k ho hf => (h2 k hf).1.elim (hO k ho).2 (Nat.not_le.2 (hO k ho).1)
 obtain ⟨G, g1, g2, g3, g4⟩ := h1.take ix
 refine ⟨G, fun k h => h2 k (g1 k h), g2, fun ix' => Asn.mono _ (g3.get ix') fun k _ h => h.2, fun A' w' h3 h4 => ⟨⟨_, g4 A' w' (fun k => (G k ∨ w.heap.size ≤ k) ∧ k < w'.heap.size) (A'.mono h3 fun k a b => ⟨b, a⟩) (fun k a b => ?_) (h4.mono fun k _ h hg => h.elim (·.2 hg) fun ho => hx k ho (g1 k hg)), fun k h => ?_⟩, hk.trans h4 fun k hk2 hf hg => ?_, hO⟩⟩
 · rcases a.1 with a | a
   · exact a
   · have := (h2 k b).2; omega
 · rcases h with h | h
   · exact ⟨(h2 k h.1).1, Nat.lt_of_lt_of_le (h2 k h.1).2 h4.size⟩
   · refine ⟨?_, h.2⟩
     rcases h.1 with h | h
     · exact (h2 k (g1 k h)).1
     · exact .inr (Nat.le_trans hk.size h)
 · rcases (h2 k (g1 k hg)).1 with h | h
   · exact hf h
   · omega
theorem Fr.drop (h : Fr L F0 w0 w) (ix : In L A f E) : Fr E F0 w0 w := by
 obtain ⟨⟨F, h1, h2⟩, hk, hO⟩ := h; obtain ⟨G, g1, g2, g3, -⟩ := h1.take ix
 exact ⟨⟨_, g3, fun k h => h2 k h.1⟩, hk, hO⟩
theorem Fr.box {b : Nat} {cs : Array Value} {t : TypeId} (h : Fr L F0 w0 w) (ix : In L (boxA b cs t) f E) : w.heap[b]? = some (.cells cs t (0, 0)) := by
 obtain ⟨⟨F, h1, h2⟩, hk, hO⟩ := h
 exact (h1.get ix).2
theorem Fr.get (h : Fr L F0 w0 w) (ix : In L A f E) : A.rel (fun k => (F0 k ∨ w0.heap.size ≤ k) ∧ k < w.heap.size) w := by
 obtain ⟨⟨F, h1, h2⟩, hk, hO⟩ := h
 exact A.mono (h1.get ix) fun k _ h => h2 k h
theorem Fr.set {b : Nat} {cs : Array Value} {t : TypeId} (h : Fr L F0 w0 w) (ix : In L (boxA b cs t) f E) (j : Nat) (v : Value) : Fr (f (boxA b (cs.setIfInBounds j v) t)) F0 w0 (w.setCell ⟨b, j, none⟩ v) := by
 obtain ⟨G, g1, g2, -, g3⟩ := h.open ix
 exact g3 _ _ ⟨.inl g2.1, box_set g2.2⟩ ((Kept.refl (fun k => ¬ G k) w).setCell (fun _ h => h g2.1) v)
theorem Fr.setL {b : Nat} {l : List Value} {t : TypeId} (h : Fr L F0 w0 w) (ix : In L (boxA b l.toArray t) f E) (j : Nat) (v : Value) : Fr (f (boxA b (l.set j v).toArray t)) F0 w0 (w.setCell ⟨b, j, none⟩ v) := by
 have h1 := h.set ix j v
 simpa using h1
theorem Fr.setRow {b : Nat} {cs : Array Value} {t : TypeId} (h : Fr L F0 w0 w) (ix : In L (boxA b cs t) f E) (cs' : Array Value) : Fr (f (boxA b cs' t)) F0 w0 (w.setRow b cs') := by
 obtain ⟨G, g1, g2, -, g3⟩ := h.open ix
 exact g3 _ _ ⟨.inl g2.1, setRow_heap _ _ _ _ _ _ g2.2⟩ ((kept_setRow w b cs').mono fun k _ h e => h (e ▸ g2.1))
theorem Fr.app {α : Type} {r : Rep α} {base : Nat} {e : TypeId} {v : Value} {xs : List α} {es : List Value} {y : α} (h : Fr (repA r es y :: L) F0 w0 w) (ix : In L (ownA r base e v xs) f E) : ∃ F S : Nat → Prop, Own r base e F w v xs ∧ r.rel S w es y ∧ (∀ k, S k → F k) ∧ (∀ k, v.ownBlock = some k → ¬ S k) ∧
   ∀ (v' : Value) (w' : World), Own r base e (fun k => F k ∨ w.heap.size ≤ k) w' v' (xs ++ [y]) → Kept (fun k => v.ownBlock ≠ some k) w w' → Fr (f (ownA r base e v' (xs ++ [y]))) F0 w0 w' := by
 obtain ⟨⟨F, ⟨G1, e1, e2, e3⟩, h2⟩, hk, hO⟩ := h
 have hx : ∀ k, O k → ¬ F k := fun k ho hf => (h2 k hf).1.elim (hO k ho).2 (Nat.not_le.2 (hO k ho).1)
 obtain ⟨G, g1, g2, -, g4⟩ := e3.take ix
 have hv : ∀ k, v.ownBlock = some k → G k := fun k hk => (g2.lt hk).2.1
 refine ⟨fun k => G k ∨ G1 k, G1, g2.mono fun _ _ h => .inl h, e2, fun _ h => .inr h, fun k a b => (g1 k (hv k a)).2 b, fun v' w' h3 h4 => ⟨⟨_, g4 (ownA r base e v' (xs ++ [y])) w' (fun k => ((G k ∨ G1 k) ∨ w.heap.size ≤ k) ∧ k < w'.heap.size) (h3.mono fun k a b => ⟨b, a⟩) (fun k a b => ?_) (h4.mono fun k _ h e => h.elim (·.2 (hv k e)) fun ho => hx k ho (g1 k (hv k e)).1), fun k h => ?_⟩, hk.trans h4 fun k hk2 hf hg => ?_, hO⟩⟩
 · rcases a.1 with (a | a) | a
   · exact a
   · exact absurd a b.2
   · have := (h2 k b.1).2; omega
 · rcases h with h | h
   · exact ⟨(h2 k h.1.1).1, Nat.lt_of_lt_of_le (h2 k h.1.1).2 h4.size⟩
   · refine ⟨?_, h.2⟩
     rcases h.1 with (h | h) | h
     · exact (h2 k (g1 k h).1).1
     · exact (h2 k (e1 k h)).1
     · exact .inr (Nat.le_trans hk.size h)
 · rcases (h2 k (g1 k (hv k hg)).1).1 with h | h
   · exact hf h
   · omega
end
theorem wp_appF {P : Program} {o : Oper} {a : Act} {K : Act → World → Prop} {Q : Exit → Act → World → Prop} (s x : Operand) {t : TypeId}
   (ho : o.op = .call { callee := .builtin .append, args := #[s, x], argTypes := #[t, t] }) {α : Type} {r : Rep α} {base : Nat} {e : TypeId} {bytes : Nat} (hT : ElemTy P t e r.n bytes) {L E : List (Asn O)} {f : Asn O → List (Asn O)} {F0 : Nat → Prop} {w0 w : World} {va : Option Addr} {n vc : Nat} {xs : List α} {es : List Value} {y : α} {b off cap : Nat}
   (h : Fr (repA r es y :: L) F0 w0 w) (ix : In L (ownA r base e (.slice va n vc) xs) f E) (hu : CellsAt w b off es) (hs : a.eval s = .slice va n vc) (hx : a.eval x = .slice (some ⟨b, off, none⟩) 1 cap)
   (hn : xs.length = n) (h63 : n + 1 ≤ maxLen) (hbytes : (n + 1) * bytes ≤ 140737488355328) (hbase : base ≤ w.heap.size)
   (hK : ∀ a' c' w', Fr (f (ownA r base e (.slice a' (n + 1) c') (xs ++ [y]))) F0 w0 w' → K (a.put o.dst (.slice a' (n + 1) c')) w') : o.wp P a w K Q := by
 obtain ⟨F, S, h1, h2, h3, h4, h5⟩ := h.app ix
 refine wp_append_rel s x ho hT hs hx h1 (Src.one h2 hu) (fun k _ h => h3 k h) h4 (by rw [hn]; exact h63) (by rw [hn]; exact hbytes) hbase fun v' w' q1 q2 _ => ?_
 obtain ⟨a', c', hv, -, -⟩ := sliceR.form q1.slice
 have hl : (xs ++ [y]).length = n + 1 := by rw [List.length_append, hn]; rfl
 rw [hl] at hv; subst hv
 exact hK a' c' w' (h5 _ _ q1 q2)
theorem wpList_appF {P : Program} {ops : Array Oper} {rest : List Oper} {o : Oper} {a : Act} {Q : Exit → Act → World → Prop} (hgd : o.guard = none) (s x : Operand) {t : TypeId}
   (ho : o.op = .call { callee := .builtin .append, args := #[s, x], argTypes := #[t, t] }) {α : Type} {r : Rep α} {base : Nat} {e : TypeId} {bytes : Nat} (hT : ElemTy P t e r.n bytes) {L E : List (Asn O)} {f : Asn O → List (Asn O)} {F0 : Nat → Prop} {w0 w : World} {va : Option Addr} {n vc : Nat} {xs : List α} {es : List Value} {y : α} {b off cap : Nat}
   (h : Fr (repA r es y :: L) F0 w0 w) (ix : In L (ownA r base e (.slice va n vc) xs) f E) (hu : CellsAt w b off es) (hs : a.eval s = .slice va n vc) (hx : a.eval x = .slice (some ⟨b, off, none⟩) 1 cap)
   (hn : xs.length = n) (h63 : n + 1 ≤ maxLen) (hbytes : (n + 1) * bytes ≤ 140737488355328) (hbase : base ≤ w.heap.size)
   (hK : ∀ a' c' w', Fr (f (ownA r base e (.slice a' (n + 1) c') (xs ++ [y]))) F0 w0 w' → wpList P ops Q rest (a.put o.dst (.slice a' (n + 1) c')) w') :
   wpList P ops Q (o :: rest) a w :=
 wpList_plain hgd fun _ hK' => wp_appF s x ho hT h ix hu hs hx hn h63 hbytes hbase fun a' c' w' q => hK' _ _ (hK a' c' w' q)
theorem step_appF {P : Program} {ops : Array Oper} {o : Oper} {a : Act} {K : Act → World → Prop} {Q : Exit → Act → World → Prop} {X : Prop} (hgd : o.guard = none) (s x : Operand) {t : TypeId}
   (ho : o.op = .call { callee := .builtin .append, args := #[s, x], argTypes := #[t, t] }) {α : Type} {r : Rep α} {base : Nat} {e : TypeId} {bytes : Nat} (hT : ElemTy P t e r.n bytes) {L E : List (Asn O)} {f : Asn O → List (Asn O)} {F0 : Nat → Prop} {w0 w : World} {va : Option Addr} {n vc : Nat} {xs : List α} {es : List Value} {y : α} {b off cap : Nat}
   (h : Fr (repA r es y :: L) F0 w0 w) (ix : In L (ownA r base e (.slice va n vc) xs) f E) (hu : CellsAt w b off es) (hs : a.eval s = .slice va n vc) (hx : a.eval x = .slice (some ⟨b, off, none⟩) 1 cap)
   (hn : xs.length = n) (h63 : n + 1 ≤ maxLen) (hbytes : (n + 1) * bytes ≤ 140737488355328) (hbase : base ≤ w.heap.size)
   (hK : ∀ a' c' w', Fr (f (ownA r base e (.slice a' (n + 1) c') (xs ++ [y]))) F0 w0 w' → K (a.put o.dst (.slice a' (n + 1) c')) w') :
   if Region.wanted o (yielded ops a.tmps) = true then Oper.wp P o a w K Q else X := by
 have hw : Region.wanted o (yielded ops a.tmps) = true := by simp [Region.wanted, hgd]
 rw [if_pos hw]
 exact wp_appF s x ho hT h ix hu hs hx hn h63 hbytes hbase hK
theorem SepL.bound : ∀ {L : List (Asn O)} {F : Nat → Prop} {w : World}, SepL L F w → SepL L (fun k => F k ∧ k < w.heap.size) w
 | [], _, _, _ => trivial
 | A :: _, _, w, ⟨G, hG, hA, hL⟩ => ⟨fun k => G k ∧ k < w.heap.size, fun k h => ⟨hG k h.1, h.2⟩, A.mono hA fun _ a b => ⟨b, a⟩, (SepL.bound hL).mono fun _ h => ⟨⟨h.1.1, h.2⟩, fun h2 => h.1.2 h2.1⟩⟩
def listA (L : List (Asn O)) : Asn O where
 rel F w := SepL L F w
 keep h hk := SepL.keep h hk
 mono h hF := h.bound.mono fun k h => hF k h.2 h.1
def exA {β : Type} (A : β → Asn O) : Asn O where
 rel F w := ∃ x, (A x).rel F w
 keep := by rintro F w w' ⟨x, h⟩ hk; exact ⟨x, (A x).keep h hk⟩
 mono := by rintro F F' w ⟨x, h⟩ hF; exact ⟨x, (A x).mono h hF⟩
theorem Fr.many {L : List (Asn O)} {F0 : Nat → Prop} {w0 : World} {G : Nat → Prop} (h : (listA L).rel G w0) (hG : ∀ k, G k → F0 k ∧ k < w0.heap.size) (hO : ∀ k, O k → k < w0.heap.size ∧ ¬ F0 k) : Fr L F0 w0 w0 :=
 ⟨⟨G, h, fun k h => ⟨.inl (hG k h).1, (hG k h).2⟩⟩, Kept.refl _ _, hO⟩
theorem Fr.all {L : List (Asn O)} {F0 : Nat → Prop} {w0 w : World} (h : Fr L F0 w0 w) : (listA L).rel (fun k => F0 k ∨ w0.heap.size ≤ k) w := by
 obtain ⟨⟨F, h1, h2⟩, -, -⟩ := h
 exact h1.mono fun k h => (h2 k h).1
theorem Fr.sub {L E : List (Asn O)} {f : Asn O → List (Asn O)} {A : Asn O} {F0 : Nat → Prop} {w0 w : World} (h : Fr L F0 w0 w) (ix : In L A f E) : ∃ G : Nat → Prop, A.rel G w ∧ (∀ {B : Asn O} {f' : Asn O → List (Asn O)} {E' : List (Asn O)}, In E B f' E' → B.rel (fun k => ¬ G k) w) ∧ (∀ M : List (Asn O), (listA M).rel G w → Fr M G w w) ∧
   ∀ (A' : Asn O) (M' : List (Asn O)) (w' : World), (∀ F w, (listA M').rel F w → A'.rel F w) → Fr M' G w w' → Fr (f A') F0 w0 w' := by
 obtain ⟨⟨F, h1, h2⟩, hk, hO⟩ := id h
 have hx : ∀ k, O k → ¬ F k := fun k ho hf => (h2 k hf).1.elim (hO k ho).2 (Nat.not_le.2 (hO k ho).1)
 obtain ⟨G, g1, g2, g3, g4⟩ := h1.take ix
 have hO' : ∀ k, O k → k < w.heap.size ∧ ¬ G k := fun k ho => ⟨Nat.lt_of_lt_of_le (hO k ho).1 hk.size, fun hg => hx k ho (g1 k hg)⟩
 refine ⟨G, g2, fun ix' => Asn.mono _ (g3.get ix') fun k _ h => h.2, fun M hm => Fr.many hm (fun k hk => ⟨hk, (h2 k (g1 k hk)).2⟩) hO', fun A' M' w' hA hf => ?_⟩
 have h4 := hf.kept
 refine ⟨⟨_, g4 A' w' (fun k => (G k ∨ w.heap.size ≤ k) ∧ k < w'.heap.size) (A'.mono (hA _ _ hf.all) fun k a b => ⟨b, a⟩) (fun k a b => ?_) (h4.mono fun k _ h hg => h.elim (·.2 hg) fun ho => hx k ho (g1 k hg)), fun k h => ?_⟩, hk.trans h4 fun k hk2 hf hg => ?_, hO⟩
 · rcases a.1 with a | a
   · exact a
   · have := (h2 k b).2; omega
 · rcases h with h | h
   · exact ⟨(h2 k h.1).1, Nat.lt_of_lt_of_le (h2 k h.1).2 h4.size⟩
   · refine ⟨?_, h.2⟩
     rcases h.1 with h | h
     · exact (h2 k (g1 k h)).1
     · exact .inr (Nat.le_trans hk.size h)
 · rcases (h2 k (g1 k hg)).1 with h | h
   · exact hf h
   · omega
def andA (A B : Asn O) : Asn O where
 rel F w := A.rel F w ∧ B.rel F w
 keep h hk := ⟨A.keep h.1 hk, B.keep h.2 hk⟩
 mono h hF := ⟨A.mono h.1 hF, B.mono h.2 hF⟩
theorem Fr.map1 {L E : List (Asn O)} {f : Asn O → List (Asn O)} {A A' : Asn O} {F0 : Nat → Prop} {w0 w : World} (h : Fr L F0 w0 w) (ix : In L A f E) (hA : ∀ F, A.rel F w → A'.rel F w) : Fr (f A') F0 w0 w := by
 obtain ⟨G, g1, g2, -, g3⟩ := h.open ix
 exact g3 A' w (A'.mono (hA _ g2) fun _ _ h => .inl h) (Kept.refl _ _)
theorem Fr.pick {β : Type} {L E : List (Asn O)} {f : Asn O → List (Asn O)} {A : β → Asn O} {F0 : Nat → Prop} {w0 w : World} (h : Fr L F0 w0 w) (ix : In L (exA A) f E) : ∃ x, Fr (f (A x)) F0 w0 w := by
 obtain ⟨G, g1, ⟨x, g2⟩, -, g3⟩ := h.open ix
 exact ⟨x, g3 (A x) w ((A x).mono g2 fun _ _ h => .inl h) (Kept.refl _ _)⟩
theorem SepL.append : ∀ {M L : List (Asn O)} {G F : Nat → Prop} {w : World}, SepL M G w → SepL L (fun k => F k ∧ ¬ G k) w → (∀ k, G k → F k) → SepL (M ++ L) F w
 | [], _, _, _, _, _, hL, _ => hL.mono fun _ h => h.1
 | _ :: _, _, G, _, _, ⟨G1, h1, h2, h3⟩, hL, hG => ⟨G1, fun k h => hG k (h1 k h), h2, SepL.append (G := fun k => G k ∧ ¬ G1 k) h3 (hL.mono fun k h => ⟨⟨h.1, fun h4 => h.2 (h1 k h4)⟩, fun h4 => h.2 h4.1⟩) fun k h => ⟨hG k h.1, h.2⟩⟩
theorem Fr.burst {L E M : List (Asn O)} {f : Asn O → List (Asn O)} {F0 : Nat → Prop} {w0 w : World} (h : Fr L F0 w0 w) (ix : In L (listA M) f E) : Fr (M ++ E) F0 w0 w := by
 obtain ⟨⟨F, h1, h2⟩, hk, hO⟩ := h; obtain ⟨G, g1, g2, g3, -⟩ := h1.take ix
 exact ⟨⟨F, SepL.append g2 g3 g1, h2⟩, hk, hO⟩
theorem Fr.front {L E : List (Asn O)} {A : Asn O} {f : Asn O → List (Asn O)} {F0 : Nat → Prop} {w0 w : World} (h : Fr L F0 w0 w) (ix : In L A f E) : Fr (A :: E) F0 w0 w := by
 obtain ⟨⟨F, h1, h2⟩, hk, hO⟩ := h; obtain ⟨G, g1, g2, g3, -⟩ := h1.take ix
 exact ⟨⟨F, ⟨G, g1, g2, g3⟩, h2⟩, hk, hO⟩
theorem SepL.split : ∀ {M L : List (Asn O)} {F : Nat → Prop} {w : World}, SepL (M ++ L) F w → ∃ G : Nat → Prop, (∀ k, G k → F k) ∧ SepL M G w ∧ SepL L (fun k => F k ∧ ¬ G k) w
 | [], _, _, _, h => ⟨fun _ => False, fun _ h => h.elim, trivial, h.mono fun _ h => ⟨h, fun h => h⟩⟩
 | A :: M, L, F, w, ⟨G1, h1, h2, h3⟩ => by
   obtain ⟨G, q1, q2, q3⟩ := SepL.split h3
   exact ⟨fun k => G1 k ∨ G k, fun k h => h.elim (h1 k) fun h => (q1 k h).1, ⟨G1, fun _ h => .inl h, h2, q2.mono fun k h => ⟨.inr h, (q1 k h).2⟩⟩, q3.mono fun k h => ⟨h.1.1, fun h4 => h4.elim h.1.2 h.2⟩⟩
theorem Fr.bind {L M : List (Asn O)} {F0 : Nat → Prop} {w0 w : World} (h : Fr (M ++ L) F0 w0 w) : Fr (listA M :: L) F0 w0 w := by
 obtain ⟨⟨F, h1, h2⟩, hk, hO⟩ := h; obtain ⟨G, q1, q2, q3⟩ := h1.split
 exact ⟨⟨F, ⟨G, q1, q2, q3⟩, h2⟩, hk, hO⟩
theorem Fr.start {L : List (Asn O)} {F0 : Nat → Prop} {w0 w : World} (h : Fr L F0 w0 w) : Fr (O := O) [] (fun _ => False) w w := Fr.nil _ _ fun k ho => ⟨Nat.lt_of_lt_of_le (h.con k ho).1 h.kept.size, fun h => h⟩
theorem Fr.below {L : List (Asn O)} {w0 w : World} (h : Fr L (fun _ => False) w0 w) : Below w0.heap.size w0 w := Kept.below (h.kept.mono fun _ _ _ h => h) (Nat.le_refl _)
theorem Fr.join {L : List (Asn O)} {A : Asn O} {F0 : Nat → Prop} {w0 w w' : World} (h : Fr L F0 w0 w) (hm : Fr [A] (fun _ => False) w w') : Fr (A :: L) F0 w0 w' :=
 h.new hm.below (A.mono (hm.get i0) fun _ _ h => h.1.elim (fun h => h.elim) id)
theorem Fr.done {M : List (Asn O)} {A : Asn O} {w w' : World} (hm : Fr M (fun _ => False) w w') (hA : ∀ F, (listA M).rel F w' → A.rel F w') : Fr [A] (fun _ => False) w w' := by
 obtain ⟨⟨F, h1, h2⟩, hk, hO⟩ := hm
 exact ⟨⟨F, ⟨F, fun _ h => h, hA F h1, trivial⟩, h2⟩, hk, hO⟩
theorem Fr.conK {L : List (Asn O)} {F0 : Nat → Prop} {w0 w : World} (h : Fr L F0 w0 w) : Kept O w0 w := h.kept.mono fun k _ ho => (h.con k ho).2
def HB : List (Nat × Array Value × TypeId) → World → Prop
 | [], _ => True
 | x :: l, w => w.heap[x.1]? = some (.cells x.2.1 x.2.2 (0, 0)) ∧ HB l w
def HR : List (Nat × Nat × List Value) → World → Prop
 | [], _ => True
 | x :: l, w => w.rangeAt x.1 x.2.1 x.2.2 ∧ HR l w
structure Held (B : List (Nat × Array Value × TypeId)) (R : List (Nat × Nat × List Value)) (w : World) : Prop where
 b : HB B w
 r : HR R w
theorem HB.keepB : ∀ {B : List (Nat × Array Value × TypeId)} {w w' : World}, HB B w → Below w.heap.size w w' → HB B w'
 | [], _, _, _, _ => trivial
 | _ :: _, _, _, h, hb => ⟨box_after hb h.1, HB.keepB h.2 hb⟩
theorem HR.keepB : ∀ {R : List (Nat × Nat × List Value)} {w w' : World}, HR R w → Below w.heap.size w w' → HR R w'
 | [], _, _, _, _ => trivial
 | _ :: _, _, _, h, hb => ⟨range_below h.1 hb, HR.keepB h.2 hb⟩
theorem Held.keepB {B : List (Nat × Array Value × TypeId)} {R : List (Nat × Nat × List Value)} {w w' : World} (h : Held B R w) (hb : Below w.heap.size w w') : Held B R w' := ⟨h.b.keepB hb, h.r.keepB hb⟩
end Go.Proofs.YtphacfkcifpobaaGreatDoor
/- The program's encoding, weight and identifier of a transaction, exact. -/
namespace Go.Proofs.YtphacfkcifpobaaGreatDoor
open Go.ChangeShapes Go.WideShapes Go.ChangeAt Go.RowKit Go.Sort
def encT (t : TxM) : List Int := if validE t = 0 then encS t t.proof else []
def idT (t : TxM) : Int := if validE t = 0 then hashS 14 (packS (encS t t.proof)) else 0
def EncOut (t : TxM) (w : World) (e : Ending) (w' : World) : Prop := ∃ (ys : List Int) (a : Option Addr) (cap : Nat), Hid (ys = encT t) ∧ ys.length ≤ 1100000 ∧ e = .returned (.tuple #[.slice a ys.length cap, .int .i64 (validE t)]) ∧ bytesR.rel (fun _ => True) w' [.slice a ys.length cap] ys ∧ Below w.heap.size w w'
set_option maxHeartbeats 1000000 in
theorem txEncode_any (S : Nat → Prop) (w : World) (t : TxM) (ma oa pa : Option Addr) (mc oc pc : Nat) (h : TxIn S w t ma oa pa mc oc pc) :
   Calls Tryz.prog 142 #[.agg #[.int .u64 t.anchor, .slice ma t.marks.length mc, .slice oa t.outs.length oc, .int .u64 t.dep, .int .u64 t.wd, .int .u64 t.fee, .int .u64 t.acc, .int .u64 t.nonce, .int .i64 t.exp, .slice pa t.proof.length pc]] w (EncOut t w) := by
 have hbA := bnew (Below.refl w.heap.size w) (.cells #[.int .u64 t.anchor, .slice ma t.marks.length mc, .slice oa t.outs.length oc, .int .u64 t.dep, .int .u64 t.wd, .int .u64 t.fee, .int .u64 t.acc, .int .u64 t.nonce, .int .i64 t.exp, .slice pa t.proof.length pc] 181); have HX := Lib.hid (box_new w (.cells #[.int .u64 t.anchor, .slice ma t.marks.length mc, .slice oa t.outs.length oc, .int .u64 t.dep, .int .u64 t.wd, .int .u64 t.fee, .int .u64 t.acc, .int .u64 t.nonce, .int .i64 t.exp, .slice pa t.proof.length pc] 181)); have H := Lib.hid (h.keepB hbA); have HB := Lib.hid hbA; clear hbA h
 go_enter Tryz.func142, Tryz.ntmps142
 go_upto_region 1 with (fail)
 generalize w.alloc (.cells #[.int .u64 t.anchor, .slice ma t.marks.length mc, .slice oa t.outs.length oc, .int .u64 t.dep, .int .u64 t.wd, .int .u64 t.fee, .int .u64 t.acc, .int .u64 t.nonce, .int .i64 t.exp, .slice pa t.proof.length pc] 181) = W at *; obtain ⟨x0, x1⟩ := box_cells HX.out; go_wp2_with fail
 refine (txValid_any S W t ma oa pa mc oc pc H.out).mono ?_
 rintro e w1 ⟨rfl, hb1⟩; clear x0 x1
 by_cases hv : validE t = 0
 · have HV := Lib.hid hv
   have HU : Hid (encT t = encS t t.proof) := by show _ = _; unfold encT; rw [if_pos hv]
   have hpl : t.proof.length ≤ 1048576 := (validE_facts hv).2.2.2.2.2; rw [hv]; clear hv; obtain ⟨x0, x1⟩ := box_cells (box_after hb1 HX.out); go_wp2_with fail
   refine (encodeX_any S w1 t ma oa pa mc oc pc (H.out.keepB hb1) HV.out pa pc t.proof S (H.out.keepB hb1).proof hpl).mono ?_
   rintro e w2 ⟨ys, a, cap, HY, hyl, rfl, hr, hb2⟩; have HR := Lib.hid hr; clear hr x0 x1; go_wp2_with fail; go_ret2
   exact ⟨ys, a, cap, by show _ = _; rw [HY.out, HU.out], by omega, by rw [HV.out]; rfl, HR.out, bnext HB.out (bnext hb1 hb2)⟩
 · have HU : Hid (encT t = []) := by show _ = _; unfold encT; rw [if_neg hv]
   have z1 : (validE t == 0) = false := by rw [beq_eq_false_iff_ne]; exact hv
   have z2 : (validE t != 0) = true := by rw [bne_iff_ne]; exact hv
   obtain ⟨r, hr⟩ : ∃ r, validE t = r := ⟨_, rfl⟩; have HR := Lib.hid hr; rw [hr] at z1 z2 ⊢; clear hr hv; go_wp2_with fail; go_ret2
   exact ⟨[], none, 0, by show _ = _; rw [HU.out], by simp, by rw [HR.out]; rfl, sliceR.nil, bnext HB.out hb1⟩
set_option maxHeartbeats 1000000 in
theorem weight_any (S : Nat → Prop) (w : World) (t : TxM) (ma oa pa : Option Addr) (mc oc pc : Nat) (h : TxIn S w t ma oa pa mc oc pc) :
   Calls Tryz.prog 191 #[.agg #[.int .u64 t.anchor, .slice ma t.marks.length mc, .slice oa t.outs.length oc, .int .u64 t.dep, .int .u64 t.wd, .int .u64 t.fee, .int .u64 t.acc, .int .u64 t.nonce, .int .i64 t.exp, .slice pa t.proof.length pc]] w fun e w' => e = .returned (.int .i64 (encT t).length) ∧ (encT t).length ≤ 1100000 ∧ Below w.heap.size w w' := by
 have hbA := bnew (Below.refl w.heap.size w) (.cells #[.int .u64 t.anchor, .slice ma t.marks.length mc, .slice oa t.outs.length oc, .int .u64 t.dep, .int .u64 t.wd, .int .u64 t.fee, .int .u64 t.acc, .int .u64 t.nonce, .int .i64 t.exp, .slice pa t.proof.length pc] 181); have HX := Lib.hid (box_new w (.cells #[.int .u64 t.anchor, .slice ma t.marks.length mc, .slice oa t.outs.length oc, .int .u64 t.dep, .int .u64 t.wd, .int .u64 t.fee, .int .u64 t.acc, .int .u64 t.nonce, .int .i64 t.exp, .slice pa t.proof.length pc] 181)); have H := Lib.hid (h.keepB hbA); have HB := Lib.hid hbA; clear hbA h
 go_enter Tryz.func191, Tryz.ntmps191
 go_upto_region 1 with (fail)
 generalize w.alloc (.cells #[.int .u64 t.anchor, .slice ma t.marks.length mc, .slice oa t.outs.length oc, .int .u64 t.dep, .int .u64 t.wd, .int .u64 t.fee, .int .u64 t.acc, .int .u64 t.nonce, .int .i64 t.exp, .slice pa t.proof.length pc] 181) = W at *; obtain ⟨x0, x1⟩ := box_cells HX.out; go_wp2_with fail
 refine (txEncode_any S W t ma oa pa mc oc pc H.out).mono ?_
 rintro e w1 ⟨ys, a, cap, HY, hyl, rfl, hr, hb1⟩; have HR := Lib.hid hr; clear x0 x1 hr
 by_cases hv : validE t = 0
 · rw [hv]
   clear hv; go_wp2_with fail; go_ret; rw [← HY.out]
   exact ⟨rfl, hyl, bnext HB.out hb1⟩
 · have HU : Hid (encT t = []) := by show _ = _; unfold encT; rw [if_neg hv]
   have z1 : (validE t == 0) = false := by rw [beq_eq_false_iff_ne]; exact hv
   have z2 : (validE t != 0) = true := by rw [bne_iff_ne]; exact hv
   obtain ⟨r, hr⟩ : ∃ r, validE t = r := ⟨_, rfl⟩; rw [hr] at z1 z2 ⊢; clear hr hv; go_wp2_with fail; go_ret; rw [HU.out]
   exact ⟨rfl, by simp, bnext HB.out hb1⟩
set_option maxHeartbeats 1000000 in
theorem txID_any (S : Nat → Prop) (w : World) (t : TxM) (ma oa pa : Option Addr) (mc oc pc : Nat) (h : TxIn S w t ma oa pa mc oc pc) :
   Calls Tryz.prog 194 #[.agg #[.int .u64 t.anchor, .slice ma t.marks.length mc, .slice oa t.outs.length oc, .int .u64 t.dep, .int .u64 t.wd, .int .u64 t.fee, .int .u64 t.acc, .int .u64 t.nonce, .int .i64 t.exp, .slice pa t.proof.length pc]] w fun e w' => e = .returned (.int .u64 (idT t)) ∧ Below w.heap.size w w' := by
 have hbA := bnew (Below.refl w.heap.size w) (.cells #[.int .u64 t.anchor, .slice ma t.marks.length mc, .slice oa t.outs.length oc, .int .u64 t.dep, .int .u64 t.wd, .int .u64 t.fee, .int .u64 t.acc, .int .u64 t.nonce, .int .i64 t.exp, .slice pa t.proof.length pc] 181); have HX := Lib.hid (box_new w (.cells #[.int .u64 t.anchor, .slice ma t.marks.length mc, .slice oa t.outs.length oc, .int .u64 t.dep, .int .u64 t.wd, .int .u64 t.fee, .int .u64 t.acc, .int .u64 t.nonce, .int .i64 t.exp, .slice pa t.proof.length pc] 181)); have H := Lib.hid (h.keepB hbA); have HB := Lib.hid hbA; clear hbA h
 go_enter Tryz.func194, Tryz.ntmps194
 go_upto_region 1 with (fail)
 generalize w.alloc (.cells #[.int .u64 t.anchor, .slice ma t.marks.length mc, .slice oa t.outs.length oc, .int .u64 t.dep, .int .u64 t.wd, .int .u64 t.fee, .int .u64 t.acc, .int .u64 t.nonce, .int .i64 t.exp, .slice pa t.proof.length pc] 181) = W at *; obtain ⟨x0, x1⟩ := box_cells HX.out; go_wp2_with fail
 refine (txEncode_any S W t ma oa pa mc oc pc H.out).mono ?_
 rintro e w1 ⟨ys, a, cap, HY, hyl, rfl, hr, hb1⟩; have HR := Lib.hid hr; clear x0 x1 hr
 by_cases hv : validE t = 0
 · have HU : Hid (idT t = hashS 14 (packS ys)) := by show _ = _; unfold idT; rw [if_pos hv, HY.out]; unfold encT; rw [if_pos hv]
   rw [hv]; clear hv; go_wp2_with fail
   refine (hashBytesX_any _ w1 14 (by omega) a ys.length cap ys rfl HR.out (by omega)).mono ?_
   rintro e w2 ⟨rfl, hb2⟩; go_wp2_with fail; go_ret
   exact ⟨ret_int HU.out.symm, bnext HB.out (bnext hb1 hb2)⟩
 · have HU : Hid (idT t = 0) := by show _ = _; unfold idT; rw [if_neg hv]
   have z1 : (validE t == 0) = false := by rw [beq_eq_false_iff_ne]; exact hv
   have z2 : (validE t != 0) = true := by rw [bne_iff_ne]; exact hv
   obtain ⟨r, hr⟩ : ∃ r, validE t = r := ⟨_, rfl⟩; rw [hr] at z1 z2 ⊢; clear hr hv; go_wp2_with fail; go_ret
   exact ⟨ret_int HU.out.symm, bnext HB.out hb1⟩
theorem idT_in (t : TxM) : 0 ≤ idT t ∧ idT t < 18446744069414584321 := by
 unfold idT
 split
 · exact hashS_in _ _
 · omega
end Go.Proofs.YtphacfkcifpobaaGreatDoor
