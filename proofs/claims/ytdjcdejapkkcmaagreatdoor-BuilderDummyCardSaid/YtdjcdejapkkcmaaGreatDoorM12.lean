/- For drawn regions walked by hand: held conditions that simp does not look into. Nothing of the program is named here; no conditions. -/
import Derived.Test.YtdjcdejapkkcmaaGreatDoorM09
import Derived.Test.YtdjcdejapkkcmaaGreatDoorM03
import Derived.Deep.RegionHeld
import Derived.Deep.MidRow
import Derived.Test.YtdjcdejapkkcmaaGreatDoorM01
namespace Go.Proofs.YtdjcdejapkkcmaaGreatDoor
open Go.ChangeShapes Go.WideShapes Go.ChangeAt Go.RowKit Go.Sort

/-- Nothing below has changed since w0, and block B has these cells. -/
structure BoxS (w0 : World) (B : Nat) (l : List Value) (w' : World) : Prop where
  bel : Below w0.heap.size w0 w'
  cel : ∀ o, w'.cell? ⟨B, o, none⟩ = (List.toArray l)[o]?
section
variable {w0 w1 w2 : World} {B : Nat} {l : List Value} {t : TypeId}
theorem BoxS.of (h : w0.heap[B]? = some (.cells (List.toArray l) t (0, 0))) (hb : Below w0.heap.size w0 w1) : BoxS w0 B l w1 := ⟨hb, (box_cells (box_after hb h)).1⟩
theorem BoxS.drew (h : BoxS w0 B l w1) : BoxS w0 B l w1.drew := ⟨h.bel.drew, h.cel⟩
theorem BoxS.range (h : BoxS w0 B l w1) : w1.rangeAt B 0 l := fun j v hv => by rw [Nat.zero_add, h.cel]; simpa using hv
end
/-- Nothing below has changed since w0, and two ranges hold these cells. -/
structure RngS (w0 : World) (B1 o1 : Nat) (l1 : List Value) (B2 o2 : Nat) (l2 : List Value) (w' : World) : Prop where
  bel : Below w0.heap.size w0 w'
  r1 : w'.rangeAt B1 o1 l1
  r2 : w'.rangeAt B2 o2 l2
theorem range_below {w w' : World} {B o : Nat} {l : List Value} (h : w.rangeAt B o l) (hb : Below w.heap.size w w') : w'.rangeAt B o l := fun j v hv => (Kept.of_below (S := fun _ => True) hb).cell trivial (h j v hv)
theorem RngS.of {w0 w1 : World} {B1 o1 B2 o2 : Nat} {l1 l2 : List Value} (h1 : w0.rangeAt B1 o1 l1) (h2 : w0.rangeAt B2 o2 l2) (hb : Below w0.heap.size w0 w1) : RngS w0 B1 o1 l1 B2 o2 l2 w1 := ⟨hb, range_below h1 hb, range_below h2 hb⟩
end Go.Proofs.YtdjcdejapkkcmaaGreatDoor
/- Regions walked by hand: short forms of the steps. -/
namespace Go.Proofs.YtdjcdejapkkcmaaGreatDoor
open Go.ChangeShapes Go.WideShapes Go.ChangeAt Go.RowKit

section
variable {P : Program} {md : Region.Mode} {ops : Array Oper} {Q : Exit → Act → World → Prop} {S : World → Prop}
/-- Operation i yields in every world that meets S. -/
theorem tkY (i : Nat) {oi : Oper} {v : Value} {fuel : Nat} {listed : Array Bool} {a : Act} {w : World} (hi : ops[i]? = some oi) (hy : YieldsIf P ops S oi v a)
    (h : wpAnyH P md ops Q S fuel (listed.setIfInBounds i true) (a.put oi.dst v) w) (hS : S w := by assumption)
    (hc : (Region.noSelect ops && (Region.free md ops listed i && (Region.ready md ops listed).contains i)) = true := by as_aux_lemma => kernel_rfl)
    (hQ : ∀ c a w, Q (.panic c) (a.put oi.dst v) w → Q (.panic c) a w := by exact fun _ _ _ h => h) : wpAnyH P md ops Q S (fuel + 1) listed a w := by
  rw [Bool.and_eq_true, Bool.and_eq_true] at hc
  exact wpAnyH_take hi hc.1 hc.2.1 hc.2.2 hQ hy hS h
theorem tkV (i : Nat) {oi : Oper} {v : Value} {fuel : Nat} {listed : Array Bool} {a : Act} {w : World} (hi : ops[i]? = some oi) (hy : ∀ w, S w → (execOp a.eval oi).run P w = .ok (.value v) w)
    (h : wpAnyH P md ops Q S fuel (listed.setIfInBounds i true) (a.put oi.dst v) w) (hS : S w := by assumption) (hw : Region.wanted oi (yielded ops a.tmps) = true := by rfl)
    (hc : (Region.noSelect ops && (Region.free md ops listed i && (Region.ready md ops listed).contains i)) = true := by as_aux_lemma => kernel_rfl)
    (hQ : ∀ c a w, Q (.panic c) (a.put oi.dst v) w → Q (.panic c) a w := by exact fun _ _ _ h => h) : wpAnyH P md ops Q S (fuel + 1) listed a w := by
  rw [Bool.and_eq_true, Bool.and_eq_true] at hc
  exact wpAnyH_take hi hc.1 hc.2.1 hc.2.2 hQ (.inl ⟨hw, hy⟩) hS h
/-- One operation is ready; two; three. -/
theorem rd1 (i : Nat) {o : Oper} {fuel : Nat} {listed : Array Bool} {a : Act} {w : World} (ho : ops[i]? = some o) (h : (∀ K' : Act → World → Prop, Shut (∀ a w, S w → (S w → wpAnyH P md ops Q S fuel (listed.setIfInBounds i true) a w) → K' a w) → if Region.wanted o (yielded ops a.tmps) = true then Oper.wp P o a w K' Q else K' (a.put o.dst undef) w)) (hr : Region.ready md ops listed = [i] := by as_aux_lemma => kernel_rfl) : wpAnyH P md ops Q S (fuel + 1) listed a w :=
  wpAnyH_ready hr (by simp) (AllReadyH.cons ho h AllReadyH.nil)
theorem rd2 (i j : Nat) {o o2 : Oper} {fuel : Nat} {listed : Array Bool} {a : Act} {w : World} (ho : ops[i]? = some o) (ho2 : ops[j]? = some o2) (h : (∀ K' : Act → World → Prop, Shut (∀ a w, S w → (S w → wpAnyH P md ops Q S fuel (listed.setIfInBounds i true) a w) → K' a w) → if Region.wanted o (yielded ops a.tmps) = true then Oper.wp P o a w K' Q else K' (a.put o.dst undef) w)) (h2 : (∀ K' : Act → World → Prop, Shut (∀ a w, S w → (S w → wpAnyH P md ops Q S fuel (listed.setIfInBounds j true) a w) → K' a w) → if Region.wanted o2 (yielded ops a.tmps) = true then Oper.wp P o2 a w K' Q else K' (a.put o2.dst undef) w)) (hr : Region.ready md ops listed = [i, j] := by as_aux_lemma => kernel_rfl) : wpAnyH P md ops Q S (fuel + 1) listed a w :=
  wpAnyH_ready hr (by simp) (AllReadyH.cons ho h (AllReadyH.cons ho2 h2 AllReadyH.nil))
theorem rd3 (i j k : Nat) {o o2 o3 : Oper} {fuel : Nat} {listed : Array Bool} {a : Act} {w : World} (ho : ops[i]? = some o) (ho2 : ops[j]? = some o2) (ho3 : ops[k]? = some o3) (h : (∀ K' : Act → World → Prop, Shut (∀ a w, S w → (S w → wpAnyH P md ops Q S fuel (listed.setIfInBounds i true) a w) → K' a w) → if Region.wanted o (yielded ops a.tmps) = true then Oper.wp P o a w K' Q else K' (a.put o.dst undef) w)) (h2 : (∀ K' : Act → World → Prop, Shut (∀ a w, S w → (S w → wpAnyH P md ops Q S fuel (listed.setIfInBounds j true) a w) → K' a w) → if Region.wanted o2 (yielded ops a.tmps) = true then Oper.wp P o2 a w K' Q else K' (a.put o2.dst undef) w)) (h3 : (∀ K' : Act → World → Prop, Shut (∀ a w, S w → (S w → wpAnyH P md ops Q S fuel (listed.setIfInBounds k true) a w) → K' a w) → if Region.wanted o3 (yielded ops a.tmps) = true then Oper.wp P o3 a w K' Q else K' (a.put o3.dst undef) w)) (hr : Region.ready md ops listed = [i, j, k] := by as_aux_lemma => kernel_rfl) : wpAnyH P md ops Q S (fuel + 1) listed a w :=
  wpAnyH_ready hr (by simp) (AllReadyH.cons ho h (AllReadyH.cons ho2 h2 (AllReadyH.cons ho3 h3 AllReadyH.nil)))
end
end Go.Proofs.YtdjcdejapkkcmaaGreatDoor
/- Steps of drawn regions: loads and stores of whole struct boxes, make. Nothing of the program is named here; no conditions. -/
namespace Go.Proofs.YtdjcdejapkkcmaaGreatDoor
open Go.ChangeShapes Go.WideShapes Go.ChangeAt Go.RowKit Go.Sort

theorem step_store_row {P : Program} {ops : Array Oper} {o : Oper} {a : Act} {w : World} {K : Act → World → Prop} {Q : Exit → Act → World → Prop} {E : Prop} (hgd : o.guard = none) (ty : TypeId) (x y : Operand) (ho : o.op = .store ty x y)
    (g : Nat) (cells : Array Value) (hx : a.eval x = .pointer (some ⟨g, 0, none⟩)) (hy : a.eval y = .agg cells)
    (t : TypeId) (old : Array Value) (hg : w.heap[g]? = some (.cells old t (0, 0))) (hi : (P.info? ty).map (·.size) = some cells.size)
    (hold : old.size = cells.size) (h1 : cells.all (·.oneCell') = true)
    (h : K (a.put o.dst undef) (w.setRow g cells)) : if Region.wanted o (yielded ops a.tmps) = true then Oper.wp P o a w K Q else E := by
  have hw : Region.wanted o (yielded ops a.tmps) = true := by simp [Region.wanted, hgd]
  rw [if_pos hw]
  exact wp_store_row ty x y ho g cells hx hy t old hg hi hold h1 h
theorem setRow_other (w : World) (g k : Nat) (cs : Array Value) (h : k ≠ g) : (w.setRow g cs).heap[k]? = w.heap[k]? := by
  simp [World.setRow, Array.getElem?_modify, Ne.symm h]
theorem below_setRow {B : Nat} {a b : World} {g : Nat} (h : Below B a b) (hg : B ≤ g) (cs : Array Value) : Below B a (b.setRow g cs) :=
  ⟨h.os, h.tape, h.output, by rw [size_setRow]; exact h.size, fun i hi => by rw [setRow_other _ _ _ _ (by omega)]; exact h.block i hi⟩
/-- 'make' as a step of a region that draws its order. -/
theorem step_make_n {P : Program} {ops : Array Oper} {o : Oper} {a : Act} {w : World} {K : Act → World → Prop} {Q : Exit → Act → World → Prop} {E : Prop} (hg : o.guard = none) (l c : Operand) {t : TypeId} (hop : o.op = Op.makeSlice t l c)
    {α : Type} (r : Rep α) (base : Nat) {e : TypeId} {bytes : Nat} (hT : ElemTy P t e r.n bytes) {z : Value} (hzz : (P.info? e).map (·.zero) = some (some z)) {x0 : α} (hx0 : ∀ S w, r.rel S w z.cells.toList x0)
    {kl kc : IntKind} {L C : Int} {n : Nat} (hl : a.eval l = .int kl L) (hc : a.eval c = .int kc C) (hL : L = (n : Int)) (hC : C = (n : Int))
    (b2 : bytes * n ≤ 281474976710656) (b3 : n ≤ maxLen) (b4 : base ≤ w.heap.size)
    (hK : ∀ w', Own r base e (fun k => k = w.heap.size) w' (.slice (some ⟨w.heap.size, 0, none⟩) n n) (List.replicate n x0) → Below w.heap.size w w' → K (a.put o.dst (.slice (some ⟨w.heap.size, 0, none⟩) n n)) w') :
    if Region.wanted o (yielded ops a.tmps) = true then Oper.wp P o a w K Q else E := by
  have hw : Region.wanted o (yielded ops a.tmps) = true := by simp [Region.wanted, hg]
  rw [if_pos hw]
  obtain ⟨ht, hn, i, z', hi, hz, hsize, hby, hzs⟩ := hT
  obtain rfl : z' = z := by rw [hi] at hzz; simp only [Option.map_some, Option.some.injEq] at hzz; rw [hz] at hzz; exact Option.some.inj hzz
  obtain ⟨w', hrun, ho, hgr⟩ := run_make_full (P := P) w base t e i z' r.n ht hi hz hsize kl kc n (by rw [hby]; exact b2) b3 b4
  subst hL
  subst hC
  unfold Oper.wp
  simp [execOp, hop, hl, hc, hrun, Result.andThen]
  refine hK w' ?_ ⟨hgr.os, hgr.tape, hgr.output, hgr.size, fun k hk => hgr.block k hk (by simp)⟩
  rw [madeCells_flat z'.cells r.n n hzs hn] at ho
  refine ⟨fun _ => False, List.replicate n z'.cells.toList, fun _ h => h.elim, fun k h => ⟨fun h => h, by simpa [Value.ownBlock, eq_comm] using h⟩, by simp, fun i cs x h1 h2 => ?_, by simpa using ho⟩
  have e1 := (List.mem_replicate.1 (List.mem_of_getElem? h1)).2
  have e2 := (List.mem_replicate.1 (List.mem_of_getElem? h2)).2
  rw [e1, e2]; exact hx0 _ _
theorem ret_c {P : Program} {fn : Func} {p : Tmp} {ty : TypeId} (h : fn.results = #[.cell p ty]) {tmps : Array Value} {w : World} {g : Nat} {t : TypeId} {cs : Array Value} {fr : Nat × Nat} {d : TypeDesc}
    (hp : tmps.getD p undef = .pointer (some ⟨g, 0, none⟩)) (hg : w.heap[g]? = some (.cells cs t fr))
    (hu : P.underlying ty = some d) (hd : (match d with | .struct _ | .array _ _ => true | _ => false) = true) (hi : (P.info? ty).map (·.size) = some cs.size) :
    (results fn tmps).run P w = .ok (.agg cs) w := by
  have hp' : tmps[p]?.getD undef = .pointer (some ⟨g, 0, none⟩) := by simpa using hp
  simp [results, h, hp', asAddr, run_loadVar_row w g t ty cs fr d hg hu hd hi]
theorem ret_cc {P : Program} {fn : Func} {p p2 : Tmp} {ty ty2 : TypeId} (h : fn.results = #[.cell p ty, .cell p2 ty2]) {tmps : Array Value} {w : World} {g g2 : Nat} {t t2 : TypeId} {cs cs2 : Array Value} {fr fr2 : Nat × Nat} {d d2 : TypeDesc}
    (hp : tmps.getD p undef = .pointer (some ⟨g, 0, none⟩)) (hg : w.heap[g]? = some (.cells cs t fr))
    (hu : P.underlying ty = some d) (hd : (match d with | .struct _ | .array _ _ => true | _ => false) = true) (hi : (P.info? ty).map (·.size) = some cs.size)
    (hp2 : tmps.getD p2 undef = .pointer (some ⟨g2, 0, none⟩)) (hg2 : w.heap[g2]? = some (.cells cs2 t2 fr2))
    (hu2 : P.underlying ty2 = some d2) (hd2 : (match d2 with | .struct _ | .array _ _ => true | _ => false) = true) (hi2 : (P.info? ty2).map (·.size) = some cs2.size) :
    (results fn tmps).run P w = .ok (.tuple #[.agg cs, .agg cs2]) w := by
  have hp' : tmps[p]?.getD undef = .pointer (some ⟨g, 0, none⟩) := by simpa using hp
  have hp2' : tmps[p2]?.getD undef = .pointer (some ⟨g2, 0, none⟩) := by simpa using hp2
  simp [results, h, hp', hp2', asAddr, run_loadVar_row w g t ty cs fr d hg hu hd hi, run_loadVar_row w g2 t2 ty2 cs2 fr2 d2 hg2 hu2 hd2 hi2]
theorem ret_cct {P : Program} {fn : Func} {p p2 u : Tmp} {ty ty2 : TypeId} (h : fn.results = #[.cell p ty, .cell p2 ty2, .tmp u]) {tmps : Array Value} {w : World} {g g2 : Nat} {t t2 : TypeId} {cs cs2 : Array Value} {fr fr2 : Nat × Nat} {d d2 : TypeDesc}
    (hp : tmps.getD p undef = .pointer (some ⟨g, 0, none⟩)) (hg : w.heap[g]? = some (.cells cs t fr))
    (hu : P.underlying ty = some d) (hd : (match d with | .struct _ | .array _ _ => true | _ => false) = true) (hi : (P.info? ty).map (·.size) = some cs.size)
    (hp2 : tmps.getD p2 undef = .pointer (some ⟨g2, 0, none⟩)) (hg2 : w.heap[g2]? = some (.cells cs2 t2 fr2))
    (hu2 : P.underlying ty2 = some d2) (hd2 : (match d2 with | .struct _ | .array _ _ => true | _ => false) = true) (hi2 : (P.info? ty2).map (·.size) = some cs2.size) :
    (results fn tmps).run P w = .ok (.tuple #[.agg cs, .agg cs2, tmps.getD u undef]) w := by
  have hp' : tmps[p]?.getD undef = .pointer (some ⟨g, 0, none⟩) := by simpa using hp
  have hp2' : tmps[p2]?.getD undef = .pointer (some ⟨g2, 0, none⟩) := by simpa using hp2
  simp [results, h, hp', hp2', asAddr, run_loadVar_row w g t ty cs fr d hg hu hd hi, run_loadVar_row w g2 t2 ty2 cs2 fr2 d2 hg2 hu2 hd2 hi2]
/-- Nothing below has changed since W, and block g has these cells. -/
structure BxS (W : World) (g : Nat) (cs : Array Value) (t : TypeId) (w' : World) : Prop where
  bel : Below W.heap.size W w'
  box : w'.heap[g]? = some (.cells cs t (0, 0))
  lt : g < W.heap.size
theorem BxS.start {W : World} {g : Nat} {cs : Array Value} {t : TypeId} (h : W.heap[g]? = some (.cells cs t (0, 0))) : BxS W g cs t W.drew := ⟨(Below.refl _ _).drew, h, box_lt h⟩
theorem BxS.next {W w1 w2 : World} {g : Nat} {cs : Array Value} {t : TypeId} (h : BxS W g cs t w1) (hb : Below w1.heap.size w1 w2) : BxS W g cs t w2 := ⟨bnext h.bel hb, box_after hb h.box, h.lt⟩
theorem BxS.setRow {W w1 : World} {g B : Nat} {cs : Array Value} {t : TypeId} (h : BxS W g cs t w1) (hB : W.heap.size ≤ B) (v : Array Value) : BxS W g cs t (w1.setRow B v) :=
  ⟨below_setRow h.bel hB v, by rw [setRow_other _ _ _ _ (Nat.ne_of_lt (Nat.lt_of_lt_of_le h.lt hB))]; exact h.box, h.lt⟩
/-- Two blocks have these cells. -/
structure TwoB (b1 : Nat) (l1 : List Value) (t1 : TypeId) (b2 : Nat) (l2 : List Value) (t2 : TypeId) (w' : World) : Prop where
  one : w'.heap[b1]? = some (.cells l1.toArray t1 (0, 0))
  two : w'.heap[b2]? = some (.cells l2.toArray t2 (0, 0))
theorem range_box {w : World} {b : Nat} {l : List Value} {t : TypeId} (h : w.heap[b]? = some (.cells l.toArray t (0, 0))) : w.rangeAt b 0 l := fun j v hv => by rw [Nat.zero_add, (box_cells h).1]; simpa using hv
theorem TwoB.setRow {b1 b2 g : Nat} {l1 l2 : List Value} {t1 t2 : TypeId} {w : World} (h : TwoB b1 l1 t1 b2 l2 t2 w) (h1 : b1 ≠ g) (h2 : b2 ≠ g) (cs : Array Value) : TwoB b1 l1 t1 b2 l2 t2 (w.setRow g cs) :=
  ⟨by rw [setRow_other _ _ _ _ h1]; exact h.one, by rw [setRow_other _ _ _ _ h2]; exact h.two⟩
end Go.Proofs.YtdjcdejapkkcmaaGreatDoor
/- A frame: what a call owns, part by part, each part in memory of its own. Nothing of the program is named here; no conditions. -/
namespace Go.Proofs.YtdjcdejapkkcmaaGreatDoor
open Go.ChangeShapes Go.WideShapes Go.ChangeAt Go.RowKit Go.Sort

/-- Something in memory that lies in the blocks of F. -/
structure Asn where
  rel : (Nat → Prop) → World → Prop
  keep : ∀ {F w w'}, rel F w → Kept F w w' → rel F w'
  mono : ∀ {F F' w}, rel F w → (∀ k, k < w.heap.size → F k → F' k) → rel F' w
def boxA (b : Nat) (cs : Array Value) (t : TypeId) : Asn where
  rel F w := F b ∧ w.heap[b]? = some (.cells cs t (0, 0))
  keep h hk := ⟨h.1, box_kept hk h.2 h.1⟩
  mono h hF := ⟨hF b (box_lt h.2) h.1, h.2⟩
def ownA {α : Type} (r : Rep α) (base : Nat) (e : TypeId) (v : Value) (xs : List α) : Asn where
  rel F w := Own r base e F w v xs
  keep h hk := h.keep hk
  mono h hF := h.mono hF
def repA {α : Type} (r : Rep α) (cs : List Value) (x : α) : Asn where
  rel F w := r.rel F w cs x
  keep h hk := r.keep h hk
  mono h hF := r.mono h hF
/-- A is one of L; f puts another one in its place, E is what else there is. -/
inductive In : List Asn → Asn → (Asn → List Asn) → List Asn → Prop
  | z {L : List Asn} {A : Asn} : In (A :: L) A (fun X => X :: L) L
  | s {L E : List Asn} {A B : Asn} {f : Asn → List Asn} : In L A f E → In (B :: L) A (fun X => B :: f X) (B :: E)
section
variable {L : List Asn} {A B C D E G H I J : Asn}
theorem i0 : In (A :: L) A (fun X => X :: L) L := .z
theorem i1 : In (A :: B :: L) B (fun X => A :: X :: L) (A :: L) := .s .z
theorem i2 : In (A :: B :: C :: L) C (fun X => A :: B :: X :: L) (A :: B :: L) := .s (.s .z)
theorem i3 : In (A :: B :: C :: D :: L) D (fun X => A :: B :: C :: X :: L) (A :: B :: C :: L) := .s (.s (.s .z))
theorem i4 : In (A :: B :: C :: D :: E :: L) E (fun X => A :: B :: C :: D :: X :: L) (A :: B :: C :: D :: L) := .s (.s (.s (.s .z)))
theorem i5 : In (A :: B :: C :: D :: E :: G :: L) G (fun X => A :: B :: C :: D :: E :: X :: L) (A :: B :: C :: D :: E :: L) := .s (.s (.s (.s (.s .z))))
theorem i6 : In (A :: B :: C :: D :: E :: G :: H :: L) H (fun X => A :: B :: C :: D :: E :: G :: X :: L) (A :: B :: C :: D :: E :: G :: L) := .s (.s (.s (.s (.s (.s .z)))))
theorem i7 : In (A :: B :: C :: D :: E :: G :: H :: I :: L) I (fun X => A :: B :: C :: D :: E :: G :: H :: X :: L) (A :: B :: C :: D :: E :: G :: H :: L) := .s (.s (.s (.s (.s (.s (.s .z))))))
theorem i8 : In (A :: B :: C :: D :: E :: G :: H :: I :: J :: L) J (fun X => A :: B :: C :: D :: E :: G :: H :: I :: X :: L) (A :: B :: C :: D :: E :: G :: H :: I :: L) := .s (.s (.s (.s (.s (.s (.s (.s .z)))))))
end
/-- The parts of L lie in F, no two of them in one block. -/
def SepL : List Asn → (Nat → Prop) → World → Prop
  | [], _, _ => True
  | A :: L, F, w => ∃ G : Nat → Prop, (∀ k, G k → F k) ∧ A.rel G w ∧ SepL L (fun k => F k ∧ ¬ G k) w
theorem SepL.keep : ∀ {L : List Asn} {F : Nat → Prop} {w w' : World}, SepL L F w → Kept F w w' → SepL L F w'
  | [], _, _, _, _, _ => trivial
  | A :: _, _, _, _, ⟨G, hG, hA, hL⟩, hk => ⟨G, hG, A.keep hA (hk.mono fun k _ h => hG k h), SepL.keep hL (hk.mono fun _ _ h => h.1)⟩
theorem SepL.mono : ∀ {L : List Asn} {F F' : Nat → Prop} {w : World}, SepL L F w → (∀ k, F k → F' k) → SepL L F' w
  | [], _, _, _, _, _ => trivial
  | _ :: _, _, _, _, ⟨G, hG, hA, hL⟩, hF => ⟨G, fun k h => hF k (hG k h), hA, SepL.mono hL fun k h => ⟨hF k h.1, h.2⟩⟩
theorem SepL.take {L : List Asn} {A : Asn} {f : Asn → List Asn} {E : List Asn} (ix : In L A f E) : ∀ {F : Nat → Prop} {w : World}, SepL L F w → ∃ G : Nat → Prop, (∀ k, G k → F k) ∧ A.rel G w ∧ SepL E (fun k => F k ∧ ¬ G k) w ∧
    ∀ (A' : Asn) (w' : World) (G' : Nat → Prop), A'.rel G' w' → (∀ k, G' k → F k → G k) → Kept (fun k => F k ∧ ¬ G k) w w' → SepL (f A') (fun k => (F k ∧ ¬ G k) ∨ G' k) w' := by
  induction ix with
  | z =>
    rintro F w ⟨G, hG, hA, hL⟩
    exact ⟨G, hG, hA, hL, fun A' w' G' h1 h2 h3 => ⟨G', fun k h => .inr h, h1, (SepL.keep hL h3).mono fun k h => ⟨.inl h, fun h4 => h.2 (h2 k h4 h.1)⟩⟩⟩
  | @s L E A B f ix ih =>
    rintro F w ⟨GB, hG, hB, hL⟩
    obtain ⟨G, g1, g2, g3, g4⟩ := ih hL
    refine ⟨G, fun k h => (g1 k h).1, g2, ⟨GB, fun k h => ⟨hG k h, fun h2 => (g1 k h2).2 h⟩, hB, g3.mono fun k h => ⟨⟨h.1.1, h.2⟩, h.1.2⟩⟩, fun A' w' G' h1 h2 h3 => ?_⟩
    refine ⟨GB, fun k h => .inl ⟨hG k h, fun h2 => (g1 k h2).2 h⟩, B.keep hB (h3.mono fun k _ h => ⟨hG k h, fun h2 => (g1 k h2).2 h⟩), ?_⟩
    refine (g4 A' w' G' h1 (fun k a b => h2 k a b.1) (h3.mono fun k _ h => ⟨h.1.1, h.2⟩)).mono fun k h => ?_
    rcases h with h | h
    · exact ⟨.inl ⟨h.1.1, h.2⟩, h.1.2⟩
    · exact ⟨.inr h, fun hb => (g1 k (h2 k h (hG k hb))).2 hb⟩
/-- One part alone. -/
theorem SepL.get {L : List Asn} {A : Asn} {f : Asn → List Asn} {E : List Asn} (ix : In L A f E) {F : Nat → Prop} {w : World} (h : SepL L F w) : A.rel F w := by
  obtain ⟨G, h1, h2, -⟩ := h.take ix
  exact A.mono h2 fun k _ h => h1 k h
/-- The frame of a call that began in w0 and may change F0: what it owns now; all else of w0 is as it was. -/
structure Fr (L : List Asn) (F0 : Nat → Prop) (w0 w : World) : Prop where
  ex : ∃ F, SepL L F w ∧ ∀ k, F k → (F0 k ∨ w0.heap.size ≤ k) ∧ k < w.heap.size
  kept : Kept (fun k => ¬ F0 k) w0 w
section
variable {L E : List Asn} {A B : Asn} {f : Asn → List Asn} {F0 : Nat → Prop} {w0 w w' : World}
theorem Fr.nil (F0 : Nat → Prop) (w0 : World) : Fr [] F0 w0 w0 := ⟨⟨fun _ => False, trivial, fun _ h => h.elim⟩, Kept.refl _ _⟩
theorem Fr.one {G : Nat → Prop} (h : A.rel G w0) (hG : ∀ k, G k → F0 k ∧ k < w0.heap.size) : Fr [A] F0 w0 w0 := ⟨⟨G, ⟨G, fun _ h => h, h, trivial⟩, fun k h => ⟨.inl (hG k h).1, (hG k h).2⟩⟩, Kept.refl _ _⟩
theorem Fr.keepB (h : Fr L F0 w0 w) (hb : Below w.heap.size w w') : Fr L F0 w0 w' := by
  obtain ⟨⟨F, h1, h2⟩, hk⟩ := h
  exact ⟨⟨F, SepL.keep h1 (Kept.of_below hb), fun k h => ⟨(h2 k h).1, Nat.lt_of_lt_of_le (h2 k h).2 hb.size⟩⟩, hk.trans (Kept.of_below hb) fun _ _ h => h⟩
theorem Fr.drew (h : Fr L F0 w0 w) : Fr L F0 w0 w.drew := h.keepB (Below.refl _ _).drew
theorem Fr.drewN (h : Fr L F0 w0 w) (n : Nat) : Fr L F0 w0 (w.drewN n) := h.keepB (bdrewN (Below.refl _ _) n)
/-- Something new. -/
theorem Fr.new (h : Fr L F0 w0 w) (hb : Below w.heap.size w w') (hA : A.rel (fun k => w.heap.size ≤ k) w') : Fr (A :: L) F0 w0 w' := by
  obtain ⟨⟨F, h1, h2⟩, hk⟩ := h
  refine ⟨⟨fun k => F k ∨ (w.heap.size ≤ k ∧ k < w'.heap.size), ⟨fun k => w.heap.size ≤ k ∧ k < w'.heap.size, fun k h => .inr h, A.mono hA fun k h1 h2 => ⟨h2, h1⟩, ?_⟩, fun k h => ?_⟩, hk.trans (Kept.of_below hb) fun _ _ h => h⟩
  · exact (SepL.keep h1 (Kept.of_below hb)).mono fun k h => ⟨.inl h, fun h3 => by have := (h2 k h).2; omega⟩
  · rcases h with h | h
    · exact ⟨(h2 k h).1, Nat.lt_of_lt_of_le (h2 k h).2 hb.size⟩
    · exact ⟨.inr (Nat.le_trans hk.size h.1), h.2⟩
theorem Fr.alloc (h : Fr L F0 w0 w) (cs : Array Value) (t : TypeId) : Fr (boxA w.heap.size cs t :: L) F0 w0 (w.alloc (.cells cs t)) :=
  h.new (bnew (Below.refl _ _) _) ⟨Nat.le_refl _, box_new w _⟩
/-- One part is opened: it lies in G; what comes of it lies there and in new memory. -/
theorem Fr.open (h : Fr L F0 w0 w) (ix : In L A f E) : ∃ G : Nat → Prop, (∀ k, G k → (F0 k ∨ w0.heap.size ≤ k) ∧ k < w.heap.size) ∧ A.rel G w ∧
    ∀ (A' : Asn) (w' : World), A'.rel (fun k => G k ∨ w.heap.size ≤ k) w' → Kept (fun k => ¬ G k) w w' → Fr (f A') F0 w0 w' := by
  obtain ⟨⟨F, h1, h2⟩, hk⟩ := h
  obtain ⟨G, g1, g2, -, g4⟩ := h1.take ix
  refine ⟨G, fun k h => h2 k (g1 k h), g2, fun A' w' h3 h4 => ⟨⟨_, g4 A' w' (fun k => (G k ∨ w.heap.size ≤ k) ∧ k < w'.heap.size) (A'.mono h3 fun k a b => ⟨b, a⟩) (fun k a b => ?_) (h4.mono fun k _ h => h.2), fun k h => ?_⟩, hk.trans h4 fun k hk2 hf hg => ?_⟩⟩
  · rcases a.1 with a | a
    · exact a
    · have := (h2 k b).2; omega
  · rcases h with h | h
    · exact ⟨(h2 k h.1).1, Nat.lt_of_lt_of_le (h2 k h.1).2 h4.size⟩
    · refine ⟨?_, h.2⟩
      rcases h.1 with h | h
      · exact (h2 k (g1 k h)).1
      · exact .inr (Nat.le_trans hk.size h)
  · rcases (h2 k (g1 k hg)).1 with h | h
    · exact hf h
    · omega
/-- One part is opened, and what else there is can be read beside it; a new part may come, in new memory that the opened one does not take. -/
theorem Fr.open' (h : Fr L F0 w0 w) (ix : In L A f E) : ∃ G : Nat → Prop, (∀ k, G k → (F0 k ∨ w0.heap.size ≤ k) ∧ k < w.heap.size) ∧ A.rel G w ∧ (∀ {B : Asn} {f' : Asn → List Asn} {E' : List Asn}, In E B f' E' → B.rel (fun k => ¬ G k) w) ∧
    ∀ (A' B' : Asn) (w' : World) (G' : Nat → Prop), A'.rel G' w' → (∀ k, G' k → G k ∨ w.heap.size ≤ k) → B'.rel (fun k => w.heap.size ≤ k ∧ ¬ G' k) w' → Kept (fun k => ¬ G k) w w' → Fr (B' :: f A') F0 w0 w' := by
  obtain ⟨⟨F, h1, h2⟩, hk⟩ := h
  obtain ⟨G, g1, g2, g3, g4⟩ := h1.take ix
  refine ⟨G, fun k h => h2 k (g1 k h), g2, fun ix' => Asn.mono _ (g3.get ix') fun k _ h => h.2, fun A' B' w' G' q1 q2 q3 q4 => ?_⟩
  have hz : ∀ k, F k → k < w.heap.size := fun k h => (h2 k h).2
  refine ⟨⟨fun k => ((F k ∧ ¬ G k) ∨ (G' k ∧ k < w'.heap.size)) ∨ ((w.heap.size ≤ k ∧ ¬ G' k) ∧ k < w'.heap.size), ⟨fun k => (w.heap.size ≤ k ∧ ¬ G' k) ∧ k < w'.heap.size, fun k h => .inr h, B'.mono q3 fun k a b => ⟨b, a⟩, ?_⟩, fun k h => ?_⟩, hk.trans q4 fun k hk2 hf hg => ?_⟩
  · refine (g4 A' w' (fun k => G' k ∧ k < w'.heap.size) (A'.mono q1 fun k a b => ⟨b, a⟩) (fun k a b => ?_) (q4.mono fun k _ h => h.2)).mono fun k h => ⟨.inl h, fun h3 => ?_⟩
    · rcases q2 k a.1 with h | h
      · exact h
      · have := hz k b; omega
    · rcases h with h | h
      · have := hz k h.1; omega
      · exact h3.1.2 h.1
  · rcases h with (h | h) | h
    · exact ⟨(h2 k h.1).1, Nat.lt_of_lt_of_le (h2 k h.1).2 q4.size⟩
    · refine ⟨?_, h.2⟩
      rcases q2 k h.1 with h | h
      · exact (h2 k (g1 k h)).1
      · exact .inr (Nat.le_trans hk.size h)
    · exact ⟨.inr (Nat.le_trans hk.size h.1.1), h.2⟩
  · rcases (h2 k (g1 k hg)).1 with h | h
    · exact hf h
    · omega
/-- Two new parts. -/
theorem Fr.new2 {B : Asn} (h : Fr L F0 w0 w) (hb : Below w.heap.size w w') {G : Nat → Prop} (hA : A.rel G w') (hG : ∀ k, G k → w.heap.size ≤ k) (hB : B.rel (fun k => w.heap.size ≤ k ∧ ¬ G k) w') : Fr (A :: B :: L) F0 w0 w' := by
  obtain ⟨⟨F, h1, h2⟩, hk⟩ := h
  refine ⟨⟨fun k => F k ∨ (w.heap.size ≤ k ∧ k < w'.heap.size), ⟨fun k => G k ∧ k < w'.heap.size, fun k h => .inr ⟨hG k h.1, h.2⟩, A.mono hA fun k h1 h2 => ⟨h2, h1⟩, ⟨fun k => (w.heap.size ≤ k ∧ ¬ G k) ∧ k < w'.heap.size, fun k h => ⟨.inr ⟨h.1.1, h.2⟩, fun h3 => h.1.2 h3.1⟩, B.mono hB fun k h1 h2 => ⟨h2, h1⟩, ?_⟩⟩, fun k h => ?_⟩, hk.trans (Kept.of_below hb) fun _ _ h => h⟩
  · exact (SepL.keep h1 (Kept.of_below hb)).mono fun k h => ⟨⟨.inl h, fun h3 => by have := (h2 k h).2; have := hG k h3.1; omega⟩, fun h3 => by have := (h2 k h).2; omega⟩
  · rcases h with h | h
    · exact ⟨(h2 k h).1, Nat.lt_of_lt_of_le (h2 k h).2 hb.size⟩
    · exact ⟨.inr (Nat.le_trans hk.size h.1), h.2⟩
theorem Fr.drop (h : Fr L F0 w0 w) (ix : In L A f E) : Fr E F0 w0 w := by
  obtain ⟨⟨F, h1, h2⟩, hk⟩ := h
  obtain ⟨G, g1, g2, g3, -⟩ := h1.take ix
  exact ⟨⟨_, g3, fun k h => h2 k h.1⟩, hk⟩
theorem Fr.box {b : Nat} {cs : Array Value} {t : TypeId} (h : Fr L F0 w0 w) (ix : In L (boxA b cs t) f E) : w.heap[b]? = some (.cells cs t (0, 0)) := by
  obtain ⟨⟨F, h1, h2⟩, hk⟩ := h
  exact (h1.get ix).2
/-- A part in its place, read. -/
theorem Fr.get (h : Fr L F0 w0 w) (ix : In L A f E) : A.rel (fun k => (F0 k ∨ w0.heap.size ≤ k) ∧ k < w.heap.size) w := by
  obtain ⟨⟨F, h1, h2⟩, hk⟩ := h
  exact A.mono (h1.get ix) fun k _ h => h2 k h
theorem Fr.set {b : Nat} {cs : Array Value} {t : TypeId} (h : Fr L F0 w0 w) (ix : In L (boxA b cs t) f E) (j : Nat) (v : Value) : Fr (f (boxA b (cs.setIfInBounds j v) t)) F0 w0 (w.setCell ⟨b, j, none⟩ v) := by
  obtain ⟨G, g1, g2, g3⟩ := h.open ix
  exact g3 _ _ ⟨.inl g2.1, box_set g2.2⟩ ((Kept.refl (fun k => ¬ G k) w).setCell (fun _ h => h g2.1) v)
/-- The same of cells that are written as a list (nested stores stay small). -/
theorem Fr.setL {b : Nat} {l : List Value} {t : TypeId} (h : Fr L F0 w0 w) (ix : In L (boxA b l.toArray t) f E) (j : Nat) (v : Value) : Fr (f (boxA b (l.set j v).toArray t)) F0 w0 (w.setCell ⟨b, j, none⟩ v) := by
  have h1 := h.set ix j v
  simpa using h1
theorem Fr.setRow {b : Nat} {cs : Array Value} {t : TypeId} (h : Fr L F0 w0 w) (ix : In L (boxA b cs t) f E) (cs' : Array Value) : Fr (f (boxA b cs' t)) F0 w0 (w.setRow b cs') := by
  obtain ⟨G, g1, g2, g3⟩ := h.open ix
  exact g3 _ _ ⟨.inl g2.1, setRow_heap _ _ _ _ _ _ g2.2⟩ ((kept_setRow w b cs').mono fun k _ h e => h (e ▸ g2.1))
/-- What was there, and is not owned, is as it was. -/
theorem Fr.arg {α : Type} {r : Rep α} {S : Nat → Prop} {cs : List Value} {x : α} (h : Fr L F0 w0 w) (h0 : r.rel S w0 cs x) (hS : ∀ k, k < w0.heap.size → S k → ¬ F0 k) : r.rel S w cs x := r.keep h0 (h.kept.mono hS)
/-- The element at the head goes into a row. -/
theorem Fr.app {α : Type} {r : Rep α} {base : Nat} {e : TypeId} {v : Value} {xs : List α} {es : List Value} {y : α} (h : Fr (repA r es y :: L) F0 w0 w) (ix : In L (ownA r base e v xs) f E) : ∃ F S : Nat → Prop, Own r base e F w v xs ∧ r.rel S w es y ∧ (∀ k, S k → F k) ∧ (∀ k, v.ownBlock = some k → ¬ S k) ∧
    ∀ (v' : Value) (w' : World), Own r base e (fun k => F k ∨ w.heap.size ≤ k) w' v' (xs ++ [y]) → Kept (fun k => v.ownBlock ≠ some k) w w' → Fr (f (ownA r base e v' (xs ++ [y]))) F0 w0 w' := by
  obtain ⟨⟨F, ⟨G1, e1, e2, e3⟩, h2⟩, hk⟩ := h
  obtain ⟨G, g1, g2, -, g4⟩ := e3.take ix
  have hv : ∀ k, v.ownBlock = some k → G k := fun k hk => (g2.lt hk).2.1
  refine ⟨fun k => G k ∨ G1 k, G1, g2.mono fun _ _ h => .inl h, e2, fun _ h => .inr h, fun k a b => (g1 k (hv k a)).2 b, fun v' w' h3 h4 => ⟨⟨_, g4 (ownA r base e v' (xs ++ [y])) w' (fun k => ((G k ∨ G1 k) ∨ w.heap.size ≤ k) ∧ k < w'.heap.size) (h3.mono fun k a b => ⟨b, a⟩) (fun k a b => ?_) (h4.mono fun k _ h e => h.2 (hv k e)), fun k h => ?_⟩, hk.trans h4 fun k hk2 hf hg => ?_⟩⟩
  · rcases a.1 with (a | a) | a
    · exact a
    · exact absurd a b.2
    · have := (h2 k b.1).2; omega
  · rcases h with h | h
    · exact ⟨(h2 k h.1.1).1, Nat.lt_of_lt_of_le (h2 k h.1.1).2 h4.size⟩
    · refine ⟨?_, h.2⟩
      rcases h.1 with (h | h) | h
      · exact (h2 k (g1 k h).1).1
      · exact (h2 k (e1 k h)).1
      · exact .inr (Nat.le_trans hk.size h)
  · rcases (h2 k (g1 k (hv k hg)).1).1 with h | h
    · exact hf h
    · omega
end
theorem wp_appF {P : Program} {o : Oper} {a : Act} {K : Act → World → Prop} {Q : Exit → Act → World → Prop} (s x : Operand) {t : TypeId}
    (ho : o.op = .call { callee := .builtin .append, args := #[s, x], argTypes := #[t, t] }) {α : Type} {r : Rep α} {base : Nat} {e : TypeId} {bytes : Nat} (hT : ElemTy P t e r.n bytes) {L E : List Asn} {f : Asn → List Asn} {F0 : Nat → Prop} {w0 w : World} {va : Option Addr} {n vc : Nat} {xs : List α} {es : List Value} {y : α} {b off cap : Nat}
    (h : Fr (repA r es y :: L) F0 w0 w) (ix : In L (ownA r base e (.slice va n vc) xs) f E) (hu : CellsAt w b off es) (hs : a.eval s = .slice va n vc) (hx : a.eval x = .slice (some ⟨b, off, none⟩) 1 cap)
    (hn : xs.length = n) (h63 : n + 1 ≤ maxLen) (hbytes : (n + 1) * bytes ≤ 140737488355328) (hbase : base ≤ w.heap.size)
    (hK : ∀ a' c' w', Fr (f (ownA r base e (.slice a' (n + 1) c') (xs ++ [y]))) F0 w0 w' → K (a.put o.dst (.slice a' (n + 1) c')) w') : o.wp P a w K Q := by
  obtain ⟨F, S, h1, h2, h3, h4, h5⟩ := h.app ix
  refine wp_append_rel s x ho hT hs hx h1 (Src.one h2 hu) (fun k _ h => h3 k h) h4 (by rw [hn]; exact h63) (by rw [hn]; exact hbytes) hbase fun v' w' q1 q2 _ => ?_
  obtain ⟨a', c', hv, -, -⟩ := sliceR.form q1.slice
  have hl : (xs ++ [y]).length = n + 1 := by rw [List.length_append, hn]; rfl
  rw [hl] at hv
  subst hv
  exact hK a' c' w' (h5 _ _ q1 q2)
theorem wpList_appF {P : Program} {ops : Array Oper} {rest : List Oper} {o : Oper} {a : Act} {Q : Exit → Act → World → Prop} (hgd : o.guard = none) (s x : Operand) {t : TypeId}
    (ho : o.op = .call { callee := .builtin .append, args := #[s, x], argTypes := #[t, t] }) {α : Type} {r : Rep α} {base : Nat} {e : TypeId} {bytes : Nat} (hT : ElemTy P t e r.n bytes) {L E : List Asn} {f : Asn → List Asn} {F0 : Nat → Prop} {w0 w : World} {va : Option Addr} {n vc : Nat} {xs : List α} {es : List Value} {y : α} {b off cap : Nat}
    (h : Fr (repA r es y :: L) F0 w0 w) (ix : In L (ownA r base e (.slice va n vc) xs) f E) (hu : CellsAt w b off es) (hs : a.eval s = .slice va n vc) (hx : a.eval x = .slice (some ⟨b, off, none⟩) 1 cap)
    (hn : xs.length = n) (h63 : n + 1 ≤ maxLen) (hbytes : (n + 1) * bytes ≤ 140737488355328) (hbase : base ≤ w.heap.size)
    (hK : ∀ a' c' w', Fr (f (ownA r base e (.slice a' (n + 1) c') (xs ++ [y]))) F0 w0 w' → wpList P ops Q rest (a.put o.dst (.slice a' (n + 1) c')) w') :
    wpList P ops Q (o :: rest) a w :=
  wpList_plain hgd fun _ hK' => wp_appF s x ho hT h ix hu hs hx hn h63 hbytes hbase fun a' c' w' q => hK' _ _ (hK a' c' w' q)
theorem step_appF {P : Program} {ops : Array Oper} {o : Oper} {a : Act} {K : Act → World → Prop} {Q : Exit → Act → World → Prop} {X : Prop} (hgd : o.guard = none) (s x : Operand) {t : TypeId}
    (ho : o.op = .call { callee := .builtin .append, args := #[s, x], argTypes := #[t, t] }) {α : Type} {r : Rep α} {base : Nat} {e : TypeId} {bytes : Nat} (hT : ElemTy P t e r.n bytes) {L E : List Asn} {f : Asn → List Asn} {F0 : Nat → Prop} {w0 w : World} {va : Option Addr} {n vc : Nat} {xs : List α} {es : List Value} {y : α} {b off cap : Nat}
    (h : Fr (repA r es y :: L) F0 w0 w) (ix : In L (ownA r base e (.slice va n vc) xs) f E) (hu : CellsAt w b off es) (hs : a.eval s = .slice va n vc) (hx : a.eval x = .slice (some ⟨b, off, none⟩) 1 cap)
    (hn : xs.length = n) (h63 : n + 1 ≤ maxLen) (hbytes : (n + 1) * bytes ≤ 140737488355328) (hbase : base ≤ w.heap.size)
    (hK : ∀ a' c' w', Fr (f (ownA r base e (.slice a' (n + 1) c') (xs ++ [y]))) F0 w0 w' → K (a.put o.dst (.slice a' (n + 1) c')) w') :
    if Region.wanted o (yielded ops a.tmps) = true then Oper.wp P o a w K Q else X := by
  have hw : Region.wanted o (yielded ops a.tmps) = true := by simp [Region.wanted, hgd]
  rw [if_pos hw]
  exact wp_appF s x ho hT h ix hu hs hx hn h63 hbytes hbase hK
/-! What a drawn region reads. -/
def HB : List (Nat × Array Value × TypeId) → World → Prop
  | [], _ => True
  | x :: l, w => w.heap[x.1]? = some (.cells x.2.1 x.2.2 (0, 0)) ∧ HB l w
def HR : List (Nat × Nat × List Value) → World → Prop
  | [], _ => True
  | x :: l, w => w.rangeAt x.1 x.2.1 x.2.2 ∧ HR l w
/-- These boxes and these ranges of cells are in memory. -/
structure Held (B : List (Nat × Array Value × TypeId)) (R : List (Nat × Nat × List Value)) (w : World) : Prop where
  b : HB B w
  r : HR R w
theorem HB.keepB : ∀ {B : List (Nat × Array Value × TypeId)} {w w' : World}, HB B w → Below w.heap.size w w' → HB B w'
  | [], _, _, _, _ => trivial
  | _ :: _, _, _, h, hb => ⟨box_after hb h.1, HB.keepB h.2 hb⟩
theorem HR.keepB : ∀ {R : List (Nat × Nat × List Value)} {w w' : World}, HR R w → Below w.heap.size w w' → HR R w'
  | [], _, _, _, _ => trivial
  | _ :: _, _, _, h, hb => ⟨range_below h.1 hb, HR.keepB h.2 hb⟩
theorem Held.keepB {B : List (Nat × Array Value × TypeId)} {R : List (Nat × Nat × List Value)} {w w' : World} (h : Held B R w) (hb : Below w.heap.size w w') : Held B R w' := ⟨h.b.keepB hb, h.r.keepB hb⟩
end Go.Proofs.YtdjcdejapkkcmaaGreatDoor
/- A drawn region whose last operation stores what the region itself reads: the held condition is not asked for behind that operation. (The shape of Derived/OrdersHeld.) Nothing of the program is named here; no conditions. -/
namespace Go.Proofs.YtdjcdejapkkcmaaGreatDoor
open Go.ChangeShapes Go.WideShapes Go.ChangeAt Go.RowKit

section
variable {P : Program} {md : Region.Mode} {ops : Array Oper} {Q : Exit → Act → World → Prop} {S : World → Prop} {last : Nat}
def wpAnyL (P : Program) (md : Region.Mode) (ops : Array Oper) (Q : Exit → Act → World → Prop) (S : World → Prop) (last : Nat) : Nat → Array Bool → Act → World → Prop
  | 0, listed, a, w => Region.ready md ops listed = [] ∧ Q .normal a w
  | fuel + 1, listed, a, w =>
    (Region.ready md ops listed = [] → Q .normal a w) ∧
    ∀ i ∈ Region.ready md ops listed, wpOp P ops Q i (fun a' w' => (i ≠ last → S w') ∧ wpAnyL P md ops Q S last fuel (listed.setIfInBounds i true) a' w') a w
theorem wpAny_of_last : ∀ (fuel : Nat) (listed : Array Bool) (a : Act) (w : World), wpAnyL P md ops Q S last fuel listed a w → wpAny P md ops Q fuel listed a w
  | 0, _, _, _, h => h
  | fuel + 1, _, _, _, h => ⟨h.1, fun i hi => wpOp_mono (fun a' w' h' => wpAny_of_last fuel _ a' w' h'.2) (h.2 i hi)⟩
/-- The last operation waits for operation i. -/
def waits (md : Region.Mode) (ops : Array Oper) (last i : Nat) : Bool := ((ops[last]?).map fun o => o.after.any fun e => Region.binds md e && e.on == i).getD false
theorem wpAnyL_first {i : Nat} {oi : Oper} {v : Value} (hi : ops[i]? = some oi) (hil : i ≠ last) (hwt : waits md ops last i = true) (hsel : ∀ (j : Nat) (o : Oper) cs b, ops[j]? = some o → o.op ≠ .select cs b)
    (hQ : ∀ c a w, Q (.panic c) (a.put oi.dst v) w → Q (.panic c) a w) :
    ∀ (fuel : Nat) (listed : Array Bool) (a : Act) (w : World),
      (∀ j oj, ops[j]? = some oj → j ≠ i → listed.getD j true = false → (∀ e ∈ oj.after, Region.binds md e = true → e.on ≠ i) → oi.apart ops oj = true) →
      i ∈ Region.ready md ops listed → YieldsIf P ops S oi v a → S w →
      wpAnyL P md ops Q S last fuel (listed.setIfInBounds i true) (a.put oi.dst v) w → wpAnyL P md ops Q S last (fuel + 1) listed a w := by
  intro fuel
  induction fuel with
  | zero =>
    intro listed a w _ hr hy hS H
    refine ⟨fun h => (by rw [h] at hr; cases hr), fun j hj => ?_⟩
    by_cases hji : j = i
    · subst hji; exact hy.wpOp hi hS ⟨fun _ => hS, H⟩
    · have := ready_mono hj hji
      rw [H.1] at this
      cases this
  | succ fuel ih =>
    intro listed a w hfree hr hy hS H
    refine ⟨fun h => (by rw [h] at hr; cases hr), fun j hj => ?_⟩
    by_cases hji : j = i
    · subst hji; exact hy.wpOp hi hS ⟨fun _ => hS, H⟩
    · have h1 := H.2 j (ready_mono hj hji)
      obtain ⟨hjun, oj, hoj, hall⟩ := mem_ready.1 hj
      have hnot : ∀ e ∈ oj.after, Region.binds md e = true → e.on ≠ i := fun e he hb heq => by
        have h1 := hall e he hb
        have h0 := (mem_ready.1 hr).1
        rw [heq] at h1
        rcases Nat.lt_or_ge i listed.size with h' | h'
        · simp [h'] at h0 h1; rw [h0] at h1; cases h1
        · simp [Array.getElem?_eq_none h'] at h1
      have hjl : j ≠ last := fun e => by
        subst e
        unfold waits at hwt
        rw [hoj] at hwt
        simp only [Option.map_some, Option.getD_some] at hwt
        obtain ⟨e, he, hb⟩ := Array.any_eq_true'.1 hwt
        rw [Bool.and_eq_true, beq_iff_eq] at hb
        exact hnot e he hb.1 hb.2
      have h2 := wpOp_putIf hoj (hfree j oj hoj hji hjun hnot) (fun cs b => hsel i oi cs b hi) (fun cs b => hsel j oj cs b hoj) hQ hy h1
      have hfree' : ∀ k ok, ops[k]? = some ok → k ≠ i → (listed.setIfInBounds j true).getD k true = false →
          (∀ e ∈ ok.after, Region.binds md e = true → e.on ≠ i) → oi.apart ops ok = true := fun k ok hk hki hun hno => by
        refine hfree k ok hk hki ?_ hno
        by_cases hjk : j = k
        · subst hjk; exact hjun
        · rw [getD_set_ne true hjk] at hun; exact hun
      refine wpOp_mono (fun a' w' h3 => ⟨h3.2.1, ih (listed.setIfInBounds j true) a' w' hfree' (ready_mono hr (Ne.symm hji)) h3.1 (h3.2.1 hjl) ?_⟩) h2
      rw [Array.setIfInBounds_comm _ _ hji]
      exact h3.2.2
theorem wpAnyL_done {listed : Array Bool} {a : Act} {w : World} (hr : Region.ready md ops listed = []) (h : Q .normal a w) : ∀ fuel, wpAnyL P md ops Q S last fuel listed a w
  | 0 => ⟨hr, h⟩
  | _ + 1 => ⟨fun _ => h, by rw [hr]; simp⟩
theorem wp_region_last {id : Nat} (last : Nat) {a : Act} {w : World} (hm : P.follows .mixedOrders = true) (hS : S w.drew)
    (h : S w.drew → wpAnyL P .any ops Q S last ops.size (Array.replicate ops.size false) a w.drew) : (Code.region id ops true).wp P Q a w :=
  wp_region_any hm (wpAny_of_last _ _ _ _ (h hS))
theorem tkYL (i : Nat) {oi : Oper} {v : Value} {fuel : Nat} {listed : Array Bool} {a : Act} {w : World} (hi : ops[i]? = some oi) (hy : YieldsIf P ops S oi v a)
    (h : wpAnyL P md ops Q S last fuel (listed.setIfInBounds i true) (a.put oi.dst v) w) (hS : S w := by assumption)
    (hc : (Region.noSelect ops && (Region.free md ops listed i && (Region.ready md ops listed).contains i)) = true := by as_aux_lemma => kernel_rfl)
    (hw : (i != last && waits md ops last i) = true := by as_aux_lemma => kernel_rfl)
    (hQ : ∀ c a w, Q (.panic c) (a.put oi.dst v) w → Q (.panic c) a w := by exact fun _ _ _ h => h) : wpAnyL P md ops Q S last (fuel + 1) listed a w := by
  rw [Bool.and_eq_true, Bool.and_eq_true] at hc
  rw [Bool.and_eq_true, bne_iff_ne] at hw
  exact wpAnyL_first hi hw.1 hw.2 (Region.noSelect_spec hc.1) hQ fuel listed a w (Region.free_spec hi hc.2.1) (by simpa using hc.2.2) hy hS h
theorem tkVL (i : Nat) {oi : Oper} {v : Value} {fuel : Nat} {listed : Array Bool} {a : Act} {w : World} (hi : ops[i]? = some oi) (hy : ∀ w, S w → (execOp a.eval oi).run P w = .ok (.value v) w)
    (h : wpAnyL P md ops Q S last fuel (listed.setIfInBounds i true) (a.put oi.dst v) w) (hS : S w := by assumption) (hw : Region.wanted oi (yielded ops a.tmps) = true := by rfl)
    (hc : (Region.noSelect ops && (Region.free md ops listed i && (Region.ready md ops listed).contains i)) = true := by as_aux_lemma => kernel_rfl)
    (hwt : (i != last && waits md ops last i) = true := by as_aux_lemma => kernel_rfl)
    (hQ : ∀ c a w, Q (.panic c) (a.put oi.dst v) w → Q (.panic c) a w := by exact fun _ _ _ h => h) : wpAnyL P md ops Q S last (fuel + 1) listed a w :=
  tkYL i hi (.inl ⟨hw, hy⟩) h hS hc hwt hQ
/-- Each of these operations comes up next. -/
def AllReadyL (P : Program) (md : Region.Mode) (ops : Array Oper) (Q : Exit → Act → World → Prop) (S : World → Prop) (last fuel : Nat) (listed : Array Bool) (a : Act) (w : World) (rs : List Nat) : Prop :=
  ∀ i ∈ rs, wpOp P ops Q i (fun a' w' => (i ≠ last → S w') ∧ wpAnyL P md ops Q S last fuel (listed.setIfInBounds i true) a' w') a w
theorem AllReadyL.cons {fuel : Nat} {listed : Array Bool} {a : Act} {w : World} {i : Nat} {o : Oper} {rs : List Nat} (ho : ops[i]? = some o)
    (h : ∀ K' : Act → World → Prop, Shut (∀ a w, S w → (S w → wpAnyL P md ops Q S last fuel (listed.setIfInBounds i true) a w) → K' a w) → if Region.wanted o (yielded ops a.tmps) = true then Oper.wp P o a w K' Q else K' (a.put o.dst undef) w)
    (hs : AllReadyL P md ops Q S last fuel listed a w rs) : AllReadyL P md ops Q S last fuel listed a w (i :: rs) := fun j hj => by
  rcases List.mem_cons.1 hj with rfl | hj
  · exact wpOp_step ho (fun K' hK => h K' (fun a w hS hW => hK a w ⟨fun _ => hS, hW hS⟩))
  · exact hs j hj
theorem rd1L (i : Nat) {o : Oper} {fuel : Nat} {listed : Array Bool} {a : Act} {w : World} (ho : ops[i]? = some o) (h : (∀ K' : Act → World → Prop, Shut (∀ a w, S w → (S w → wpAnyL P md ops Q S last fuel (listed.setIfInBounds i true) a w) → K' a w) → if Region.wanted o (yielded ops a.tmps) = true then Oper.wp P o a w K' Q else K' (a.put o.dst undef) w)) (hr : Region.ready md ops listed = [i] := by as_aux_lemma => kernel_rfl) : wpAnyL P md ops Q S last (fuel + 1) listed a w :=
  ⟨fun h0 => absurd (hr ▸ h0) (by simp), hr ▸ AllReadyL.cons ho h fun _ h => by cases h⟩
theorem rd2L (i j : Nat) {o o2 : Oper} {fuel : Nat} {listed : Array Bool} {a : Act} {w : World} (ho : ops[i]? = some o) (ho2 : ops[j]? = some o2) (h : (∀ K' : Act → World → Prop, Shut (∀ a w, S w → (S w → wpAnyL P md ops Q S last fuel (listed.setIfInBounds i true) a w) → K' a w) → if Region.wanted o (yielded ops a.tmps) = true then Oper.wp P o a w K' Q else K' (a.put o.dst undef) w)) (h2 : (∀ K' : Act → World → Prop, Shut (∀ a w, S w → (S w → wpAnyL P md ops Q S last fuel (listed.setIfInBounds j true) a w) → K' a w) → if Region.wanted o2 (yielded ops a.tmps) = true then Oper.wp P o2 a w K' Q else K' (a.put o2.dst undef) w)) (hr : Region.ready md ops listed = [i, j] := by as_aux_lemma => kernel_rfl) : wpAnyL P md ops Q S last (fuel + 1) listed a w :=
  ⟨fun h0 => absurd (hr ▸ h0) (by simp), hr ▸ AllReadyL.cons ho h (AllReadyL.cons ho2 h2 fun _ h => by cases h)⟩
/-- The last one. -/
theorem rdL {o : Oper} {fuel : Nat} {listed : Array Bool} {a : Act} {w : World} (ho : ops[last]? = some o) (h : (∀ K' : Act → World → Prop, Shut (∀ a w, wpAnyL P md ops Q S last fuel (listed.setIfInBounds last true) a w → K' a w) → if Region.wanted o (yielded ops a.tmps) = true then Oper.wp P o a w K' Q else K' (a.put o.dst undef) w)) (hr : Region.ready md ops listed = [last] := by as_aux_lemma => kernel_rfl) : wpAnyL P md ops Q S last (fuel + 1) listed a w :=
  ⟨fun h0 => absurd (hr ▸ h0) (by simp), fun j hj => by
    rw [hr] at hj
    rcases List.mem_cons.1 hj with rfl | hj
    · exact wpOp_step ho (fun K' hK => h K' (fun a w hW => hK a w ⟨fun h => absurd rfl h, hW⟩))
    · cases hj⟩
end
end Go.Proofs.YtdjcdejapkkcmaaGreatDoor
/- Contracts of the reference's rules, for all values of the fields; no conditions. -/
/- Rules as a plain value. -/
namespace Go.Proofs.YtdjcdejapkkcmaaGreatDoor
open Go.ChangeShapes Go.WideShapes Go.ChangeAt Go.RowKit

structure RuM where
  mode : Int
  depth : Int
  bl : Int
  bu : Int
  qu : Int
  rew : Int
  win : Int
  fin : Int
  work : Int
abbrev ruC (r : RuM) : Array Value := #[.int .i64 r.mode, .int .i64 r.depth, .int .i64 r.bl, .int .i64 r.bu, .int .i64 r.qu, .int .u64 r.rew, .int .i64 r.win, .int .i64 r.fin, .int .u64 r.work]
def ruleE (r : RuM) : Int := rulesE r.mode r.depth r.bl r.bu r.qu r.rew r.win r.fin r.work
theorem ruleE_ok {r : RuM} (h : ruleE r = 0) : 1 ≤ r.mode ∧ r.mode ≤ 3 ∧ 1 ≤ r.depth ∧ r.depth ≤ 12 := by
  unfold ruleE rulesE rulesB at h
  by_cases hb : (1 ≤ r.mode ∧ r.mode ≤ 3 ∧ 1 ≤ r.depth ∧ r.depth ≤ 12 ∧ 1 ≤ r.win ∧ r.win ≤ 100 ∧ 1 ≤ r.fin ∧ r.fin ≤ 1048576 ∧ r.rew ≤ 4294967296 ∧ 1 ≤ r.work ∧ r.work ≤ 65536) ∧ (r.mode = 1 → paramsB r.bl r.bu r.qu = true)
  · exact ⟨hb.1.1, hb.1.2.1, hb.1.2.2.1, hb.1.2.2.2.1⟩
  · rw [if_neg (by rw [decide_eq_true_eq]; exact hb)] at h; cases h
end Go.Proofs.YtdjcdejapkkcmaaGreatDoor
/- The builder's laws: cases as plain values. -/
namespace Go.Proofs.YtdjcdejapkkcmaaGreatDoor
open Go.ChangeShapes Go.WideShapes Go.ChangeAt Go.RowKit

structure CoinM where
  seed : Int
  number : Int
  value : Int
  rho : Int
  blind : Int
structure PaySM where
  seed : Int
  number : Int
  value : Int
structure CaseM where
  rules : RuM
  orc : Int
  coins : List CoinM
  spend : List Int
  dums : List Int
  outs : List PaySM
  dep : Int
  wd : Int
  fee : Int
  owner : Int
  nonce : Int
  exp : Int
  seed : Int
  spoil : Int
  by_ : Int
end Go.Proofs.YtdjcdejapkkcmaaGreatDoor
