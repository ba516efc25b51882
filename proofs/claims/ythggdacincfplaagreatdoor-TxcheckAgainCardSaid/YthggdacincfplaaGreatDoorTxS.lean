/- Transactions: the statement that the proof proves. -/
import Derived.Test.YthggdacincfplaaGreatDoorTxE
import Derived.Test.YthggdacincfplaaGreatDoorRelA
import Derived.Deep.Cut
import Derived.Deep.CutRange
namespace Go.Proofs.YthggdacincfplaaGreatDoor
open Go.ChangeShapes Go.WideShapes Go.ChangeAt Go.RowKit

/-- The cells A at block B, zeros behind them; blocks below B are as they were. -/
abbrev StS (A : Array Value) (w w' : World) : Prop :=
  Below w.heap.size w w' ∧ w.heap.size + 1 < w'.heap.size ∧ (∀ o, w'.cell? ⟨w.heap.size, o, none⟩ = A[o]?) ∧
    w'.heap[w.heap.size]? = some (.cells A 36 (0, 0)) ∧ w'.heap[w.heap.size + 1]? = some (.cells #[.int .i64 0, .int .u64 0, .slice none 0 0, .slice none 0 0, .slice none 0 0, .int .u64 0, .int .u64 0, .int .u64 0, .int .u64 0, .int .u64 0] 44 (0, 0))
theorem StS.of {A : Array Value} {w w' : World} (h1 : Below w.heap.size w w') (h2 : w'.heap[w.heap.size]? = some (.cells A 36 (0, 0))) (h3 : w'.heap[w.heap.size + 1]? = some (.cells #[.int .i64 0, .int .u64 0, .slice none 0 0, .slice none 0 0, .slice none 0 0, .int .u64 0, .int .u64 0, .int .u64 0, .int .u64 0, .int .u64 0] 44 (0, 0))) : StS A w w' :=
  ⟨h1, box_lt h3, (box_cells h2).1, h2, h3⟩
theorem StS.drew {A : Array Value} {w w' : World} (h : StS A w w') : StS A w w'.drew := ⟨h.1.drew, h.2.1, h.2.2.1, h.2.2.2.1, h.2.2.2.2⟩
theorem StS.next {A : Array Value} {w w1 w2 : World} (h : StS A w w1) (hb : Below w1.heap.size w1 w2) : StS A w w2 := StS.of (bnext h.1 hb) (box_after hb h.2.2.2.1) (box_after hb h.2.2.2.2)
theorem StS.alloc {A : Array Value} {w w1 : World} (h : StS A w w1) (o : Obj) : StS A w (w1.alloc o) := h.next (bnew (Below.refl _ _) o)
theorem StS.kept {A : Array Value} {w w1 w2 : World} (h : StS A w w1) (hk : Kept (fun k => k ≤ w.heap.size + 1) w1 w2) : StS A w w2 :=
  StS.of (Kept.behind h.1 hk h.1.size (fun k hk => by omega)) (box_kept hk h.2.2.2.1 (by omega)) (box_kept hk h.2.2.2.2 (by omega))
theorem kept_cells (w : World) {q : Nat} {S : Nat → Prop} (hq : ¬ S q) : ∀ (vs : List Value) (o : Nat), Kept S w (w.setCells q o vs)
  | [], _ => Kept.refl _ _
  | v :: vs, o => by
    rw [World.setCells]
    have h1 : Kept S w (w.setCell ⟨q, o, none⟩ v) := (Kept.refl _ _).setCell (fun _ => hq) _
    have h2 := kept_cells (w.setCell ⟨q, o, none⟩ v) hq vs (o + 1)
    exact h1.trans h2 fun _ _ h => h
theorem Own.tight {k : IntKind} {base : Nat} {e : TypeId} {F : Nat → Prop} {w : World} {v : Value} {xs : List Int} (h : Own (intR k) base e F w v xs) : Own (intR k) base e (fun x => v.ownBlock = some x) w v xs := by
  obtain ⟨S, css, hS, hv, hl, hr, ho⟩ := h
  exact ⟨fun _ => False, css, fun _ h => h.elim, fun k hk => ⟨fun h => h, hk⟩, hl, fun i cs x hc hx => Plain.int k (hr i cs x hc hx), ho⟩
def rhosTo (o : Int) : Nat → List Int
  | 0 => []
  | k + 1 => rhosTo o k ++ [rhoS o k]
theorem rhosTo_len (o : Int) : ∀ k, (rhosTo o k).length = k
  | 0 => rfl
  | k + 1 => by simp [rhosTo, rhosTo_len o k]
/-- The statement of a transaction. -/
def stOf (D : Nat) (t : TxM) (bd : Int) : StM := ⟨D, t.anchor, t.marks, t.outs.map (·.commit), rhosTo (originS t.marks t.acc t.nonce) t.outs.length, t.dep, t.wd, t.fee, t.acc, bd⟩
def StOut (D : Nat) (t : TxM) (w : World) (e : Ending) (w' : World) : Prop :=
  ∃ bd ma ca ra mc cc rc, 0 ≤ bd ∧ bd < 18446744069414584321 ∧ e = .returned (.agg #[.int .i64 D, .int .u64 t.anchor, .slice ma t.marks.length mc, .slice ca t.outs.length cc, .slice ra t.outs.length rc, .int .u64 t.dep, .int .u64 t.wd, .int .u64 t.fee, .int .u64 t.acc, .int .u64 bd]) ∧
    StIn (fun _ => True) w' (stOf D t bd) ma ca ra mc cc rc ∧ Below w.heap.size w w'
/-- The variable of the statement at q, its marks apart from it. -/
structure StAt (D : Nat) (t : TxM) (A : Array Value) (w : World) (q C : Nat) (am : Option Addr) (cm : Nat) (bd : Int) (v1 v2 : Value) (wr : World) : Prop where
  sts : StS A w wr
  box : wr.heap[q]? = some (.cells #[.int .i64 D, .int .u64 t.anchor, .slice am t.marks.length cm, v1, v2, .int .u64 t.dep, .int .u64 t.wd, .int .u64 t.fee, .int .u64 t.acc, .int .u64 bd] 44 (0, 0))
  marks : numsR.rel (fun k => (w.heap.size + 1 < k ∧ k ≠ q) ∧ k < C) wr [.slice am t.marks.length cm] t.marks
  lay : w.heap.size + 1 < q
  qC : q < C
  base : C ≤ wr.heap.size
theorem StAt.kept {D : Nat} {t : TxM} {A : Array Value} {w : World} {q C : Nat} {am : Option Addr} {cm : Nat} {bd : Int} {v1 v2 : Value} {wr w2 : World} (h : StAt D t A w q C am cm bd v1 v2 wr) (hk : Kept (fun k => k < C) wr w2) : StAt D t A w q C am cm bd v1 v2 w2 :=
  have := h.lay; have := h.qC
  ⟨h.sts.kept (hk.mono fun k _ h => by omega), box_kept hk h.box h.qC, numsR.keep h.marks (hk.mono fun k _ h => h.2), h.lay, h.qC, Nat.le_trans h.base hk.size⟩
theorem StAt.keepB {D : Nat} {t : TxM} {A : Array Value} {w : World} {q C : Nat} {am : Option Addr} {cm : Nat} {bd : Int} {v1 v2 : Value} {wr w2 : World} (h : StAt D t A w q C am cm bd v1 v2 wr) (hb : Below wr.heap.size wr w2) : StAt D t A w q C am cm bd v1 v2 w2 := h.kept (Kept.of_below hb)
theorem StAt.store {D : Nat} {t : TxM} {A : Array Value} {w : World} {q C : Nat} {am : Option Addr} {cm : Nat} {bd : Int} {v1 v2 u1 u2 : Value} {wr : World} (h : StAt D t A w q C am cm bd v1 v2 wr) (i : Nat) (v : Value)
    (hv : (#[.int .i64 D, .int .u64 t.anchor, .slice am t.marks.length cm, v1, v2, .int .u64 t.dep, .int .u64 t.wd, .int .u64 t.fee, .int .u64 t.acc, .int .u64 bd] : Array Value).setIfInBounds i v = #[.int .i64 D, .int .u64 t.anchor, .slice am t.marks.length cm, u1, u2, .int .u64 t.dep, .int .u64 t.wd, .int .u64 t.fee, .int .u64 t.acc, .int .u64 bd]) : StAt D t A w q C am cm bd u1 u2 (wr.setCell ⟨q, i, none⟩ v) :=
  have := h.lay; have := h.qC
  have hk : Kept (fun k => k ≠ q) wr (wr.setCell ⟨q, i, none⟩ v) := (Kept.refl _ _).setCell (fun _ h => h rfl) _
  ⟨h.sts.kept (hk.mono fun k _ h => by omega), hv ▸ box_set h.box, numsR.keep h.marks (hk.mono fun k _ h => h.1.2), h.lay, h.qC, by rw [World.size_setCell]; exact h.base⟩
end Go.Proofs.YthggdacincfplaaGreatDoor
