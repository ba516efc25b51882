/- Transactions: the statement that the proof proves. -/
import Derived.Test.YtdjcdejapkkcmaaGreatDoorM05
import Derived.Test.YtdjcdejapkkcmaaGreatDoorM09
import Derived.Deep.Cut
import Derived.Deep.CutRange
namespace Go.Proofs.YtdjcdejapkkcmaaGreatDoor
open Go.ChangeShapes Go.WideShapes Go.ChangeAt Go.RowKit

/-- The cells A at block B, zeros behind them; blocks below B are as they were. -/
abbrev StS (A : Array Value) (w w' : World) : Prop :=
  Below w.heap.size w w' ∧ w.heap.size + 1 < w'.heap.size ∧ (∀ o, w'.cell? ⟨w.heap.size, o, none⟩ = A[o]?) ∧
    w'.heap[w.heap.size]? = some (.cells A 45 (0, 0)) ∧ w'.heap[w.heap.size + 1]? = some (.cells #[.int .i64 0, .int .u64 0, .slice none 0 0, .slice none 0 0, .slice none 0 0, .int .u64 0, .int .u64 0, .int .u64 0, .int .u64 0, .int .u64 0] 103 (0, 0))
theorem StS.of {A : Array Value} {w w' : World} (h1 : Below w.heap.size w w') (h2 : w'.heap[w.heap.size]? = some (.cells A 45 (0, 0))) (h3 : w'.heap[w.heap.size + 1]? = some (.cells #[.int .i64 0, .int .u64 0, .slice none 0 0, .slice none 0 0, .slice none 0 0, .int .u64 0, .int .u64 0, .int .u64 0, .int .u64 0, .int .u64 0] 103 (0, 0))) : StS A w w' :=
  ⟨h1, box_lt h3, (box_cells h2).1, h2, h3⟩
theorem StS.drew {A : Array Value} {w w' : World} (h : StS A w w') : StS A w w'.drew := ⟨h.1.drew, h.2.1, h.2.2.1, h.2.2.2.1, h.2.2.2.2⟩
theorem StS.next {A : Array Value} {w w1 w2 : World} (h : StS A w w1) (hb : Below w1.heap.size w1 w2) : StS A w w2 := StS.of (bnext h.1 hb) (box_after hb h.2.2.2.1) (box_after hb h.2.2.2.2)
theorem StS.alloc {A : Array Value} {w w1 : World} (h : StS A w w1) (o : Obj) : StS A w (w1.alloc o) := h.next (bnew (Below.refl _ _) o)
theorem StS.kept {A : Array Value} {w w1 w2 : World} (h : StS A w w1) (hk : Kept (fun k => k ≤ w.heap.size + 1) w1 w2) : StS A w w2 :=
  StS.of (Kept.behind h.1 hk h.1.size (fun k hk => by omega)) (box_kept hk h.2.2.2.1 (by omega)) (box_kept hk h.2.2.2.2 (by omega))
theorem kept_cells (w : World) {q : Nat} {S : Nat → Prop} (hq : ¬ S q) : ∀ (vs : List Value) (o : Nat), Kept S w (w.setCells q o vs)
  | [], _ => Kept.refl _ _
  | v :: vs, o => by
    rw [World.setCells]
    have h1 : Kept S w (w.setCell ⟨q, o, none⟩ v) := (Kept.refl _ _).setCell (fun _ => hq) _
    have h2 := kept_cells (w.setCell ⟨q, o, none⟩ v) hq vs (o + 1)
    exact h1.trans h2 fun _ _ h => h
theorem Own.tight {k : IntKind} {base : Nat} {e : TypeId} {F : Nat → Prop} {w : World} {v : Value} {xs : List Int} (h : Own (intR k) base e F w v xs) : Own (intR k) base e (fun x => v.ownBlock = some x) w v xs := by
  obtain ⟨S, css, hS, hv, hl, hr, ho⟩ := h
  exact ⟨fun _ => False, css, fun _ h => h.elim, fun k hk => ⟨fun h => h, hk⟩, hl, fun i cs x hc hx => Plain.int k (hr i cs x hc hx), ho⟩
def rhosTo (o : Int) : Nat → List Int
  | 0 => []
  | k + 1 => rhosTo o k ++ [rhoS o k]
theorem rhosTo_len (o : Int) : ∀ k, (rhosTo o k).length = k
  | 0 => rfl
  | k + 1 => by simp [rhosTo, rhosTo_len o k]
/-- The statement of a transaction. -/
def stOf (D : Nat) (t : TxM) (bd : Int) : StM := ⟨D, t.anchor, t.marks, t.outs.map (·.commit), rhosTo (originS t.marks t.acc t.nonce) t.outs.length, t.dep, t.wd, t.fee, t.acc, bd⟩
def StOut (D : Nat) (t : TxM) (w : World) (e : Ending) (w' : World) : Prop :=
  ∃ bd ma ca ra mc cc rc, 0 ≤ bd ∧ bd < 18446744069414584321 ∧ e = .returned (.agg #[.int .i64 D, .int .u64 t.anchor, .slice ma t.marks.length mc, .slice ca t.outs.length cc, .slice ra t.outs.length rc, .int .u64 t.dep, .int .u64 t.wd, .int .u64 t.fee, .int .u64 t.acc, .int .u64 bd]) ∧
    StIn (fun _ => True) w' (stOf D t bd) ma ca ra mc cc rc ∧ Below w.heap.size w w'
/-- The variable of the statement at q, its marks apart from it. -/
structure StAt (D : Nat) (t : TxM) (A : Array Value) (w : World) (q C : Nat) (am : Option Addr) (cm : Nat) (bd : Int) (v1 v2 : Value) (wr : World) : Prop where
  sts : StS A w wr
  box : wr.heap[q]? = some (.cells #[.int .i64 D, .int .u64 t.anchor, .slice am t.marks.length cm, v1, v2, .int .u64 t.dep, .int .u64 t.wd, .int .u64 t.fee, .int .u64 t.acc, .int .u64 bd] 103 (0, 0))
  marks : numsR.rel (fun k => (w.heap.size + 1 < k ∧ k ≠ q) ∧ k < C) wr [.slice am t.marks.length cm] t.marks
  lay : w.heap.size + 1 < q
  qC : q < C
  base : C ≤ wr.heap.size
theorem StAt.kept {D : Nat} {t : TxM} {A : Array Value} {w : World} {q C : Nat} {am : Option Addr} {cm : Nat} {bd : Int} {v1 v2 : Value} {wr w2 : World} (h : StAt D t A w q C am cm bd v1 v2 wr) (hk : Kept (fun k => k < C) wr w2) : StAt D t A w q C am cm bd v1 v2 w2 :=
  have := h.lay; have := h.qC
  ⟨h.sts.kept (hk.mono fun k _ h => by omega), box_kept hk h.box h.qC, numsR.keep h.marks (hk.mono fun k _ h => h.2), h.lay, h.qC, Nat.le_trans h.base hk.size⟩
theorem StAt.keepB {D : Nat} {t : TxM} {A : Array Value} {w : World} {q C : Nat} {am : Option Addr} {cm : Nat} {bd : Int} {v1 v2 : Value} {wr w2 : World} (h : StAt D t A w q C am cm bd v1 v2 wr) (hb : Below wr.heap.size wr w2) : StAt D t A w q C am cm bd v1 v2 w2 := h.kept (Kept.of_below hb)
theorem StAt.store {D : Nat} {t : TxM} {A : Array Value} {w : World} {q C : Nat} {am : Option Addr} {cm : Nat} {bd : Int} {v1 v2 u1 u2 : Value} {wr : World} (h : StAt D t A w q C am cm bd v1 v2 wr) (i : Nat) (v : Value)
    (hv : (#[.int .i64 D, .int .u64 t.anchor, .slice am t.marks.length cm, v1, v2, .int .u64 t.dep, .int .u64 t.wd, .int .u64 t.fee, .int .u64 t.acc, .int .u64 bd] : Array Value).setIfInBounds i v = #[.int .i64 D, .int .u64 t.anchor, .slice am t.marks.length cm, u1, u2, .int .u64 t.dep, .int .u64 t.wd, .int .u64 t.fee, .int .u64 t.acc, .int .u64 bd]) : StAt D t A w q C am cm bd u1 u2 (wr.setCell ⟨q, i, none⟩ v) :=
  have := h.lay; have := h.qC
  have hk : Kept (fun k => k ≠ q) wr (wr.setCell ⟨q, i, none⟩ v) := (Kept.refl _ _).setCell (fun _ h => h rfl) _
  ⟨h.sts.kept (hk.mono fun k _ h => by omega), hv ▸ box_set h.box, numsR.keep h.marks (hk.mono fun k _ h => h.1.2), h.lay, h.qC, by rw [World.size_setCell]; exact h.base⟩
end Go.Proofs.YtdjcdejapkkcmaaGreatDoor
/- Transactions: Statement. -/
namespace Go.Proofs.YtdjcdejapkkcmaaGreatDoor
open Go.ChangeShapes Go.WideShapes Go.ChangeAt Go.RowKit

theorem originS_ok {S : Nat → Prop} {w : World} {t : TxM} {ma oa pa : Option Addr} {mc oc pc : Nat} (h : TxIn S w t ma oa pa mc oc pc) : okU (originS t.marks t.acc t.nonce) := by
  unfold originS
  have h0 : okU 0 := okU_of (by omega) (by omega)
  split
  · split
    · exact hashS_ok _ _
    · exact h0
  · rename_i hl
    split
    · have hp : 0 < t.marks.length := by omega
      obtain ⟨b, off, -, -, n0, n1, -⟩ := nums_at h.marks 0 hp
      rw [getD_at t.marks 0 0 hp]
      exact okU_of n0 n1
    · exact h0
theorem rhoS_ok (o : Int) (i : Nat) : okU (rhoS o i) := by
  unfold rhoS
  split
  · exact hashS_ok _ _
  · exact okU_of (by omega) (by omega)
theorem cells_box {w : World} {q : Nat} {old : List Value} {e : TypeId} (h : w.heap[q]? = some (.cells old.toArray e (0, 0))) (vs : List Value) (hl : vs.length = old.length) : (w.setCells q 0 vs).heap[q]? = some (.cells vs.toArray e (0, 0)) := by
  rw [setCells_setRow q e vs 0 w old.toArray h (by simp; omega)]
  have := setRow_heap w q old.toArray (old.toArray.toList.take 0 ++ vs ++ old.toArray.toList.drop (0 + vs.length)).toArray e (0, 0) h
  simpa [hl] using this
/-- Nothing that was in w1 has changed; the cells A are still at block b. -/
abbrev StK (A : Array Value) (b : Nat) (w1 w' : World) : Prop := Below w1.heap.size w1 w' ∧ (∀ o, w'.cell? ⟨b, o, none⟩ = A[o]?)
theorem StK.of {A : Array Value} {b : Nat} {w1 w' : World} (h : w1.heap[b]? = some (.cells A 45 (0, 0))) (hb : Below w1.heap.size w1 w') : StK A b w1 w' := ⟨hb, (box_cells (box_after hb h)).1⟩
theorem StK.drew {A : Array Value} {b : Nat} {w1 w' : World} (h : StK A b w1 w') : StK A b w1 w'.drew := ⟨h.1.drew, h.2⟩
theorem below_cells {B : Nat} {w w1 : World} (h : Below B w w1) {q : Nat} (hq : B ≤ q) (vs : List Value) (o : Nat) (hB : B ≤ w1.heap.size) : Below B w (w1.setCells q o vs) :=
  Kept.behind h (kept_cells w1 (q := q) (S := fun k => k < B) (by omega) vs o) hB fun _ h => h
set_option maxRecDepth 100000 in
set_option maxHeartbeats 8000000 in
theorem statement_in (w : World) (t : TxM) (ma oa pa : Option Addr) (mc oc pc : Nat) (h : TxIn (fun k => k < w.heap.size) w t ma oa pa mc oc pc) (hv : validE t = 0) (D : Nat) (_hD : D ≤ 12) :
    Calls Tryz.prog 36 #[.agg #[.int .u64 t.anchor, .slice ma t.marks.length mc, .slice oa t.outs.length oc, .int .u64 t.dep, .int .u64 t.wd, .int .u64 t.fee, .int .u64 t.acc, .int .u64 t.nonce, .int .i64 t.exp, .slice pa t.proof.length pc], .int .i64 D] w (StOut D t w) := by
  obtain ⟨f1, f2, f3, f4, f5, f6⟩ := validE_facts hv
  have hb0 := bnew (Below.refl w.heap.size w) (.cells #[.int .u64 t.anchor, .slice ma t.marks.length mc, .slice oa t.outs.length oc, .int .u64 t.dep, .int .u64 t.wd, .int .u64 t.fee, .int .u64 t.acc, .int .u64 t.nonce, .int .i64 t.exp, .slice pa t.proof.length pc] 45)
  have hb1 := bnew hb0 (.cells #[.int .i64 0, .int .u64 0, .slice none 0 0, .slice none 0 0, .slice none 0 0, .int .u64 0, .int .u64 0, .int .u64 0, .int .u64 0, .int .u64 0] 103)
  have e1 : (w.alloc (.cells #[.int .u64 t.anchor, .slice ma t.marks.length mc, .slice oa t.outs.length oc, .int .u64 t.dep, .int .u64 t.wd, .int .u64 t.fee, .int .u64 t.acc, .int .u64 t.nonce, .int .i64 t.exp, .slice pa t.proof.length pc] 45)).heap.size = w.heap.size + 1 := World.size_alloc ..
  have q2 := box_new (w.alloc (.cells #[.int .u64 t.anchor, .slice ma t.marks.length mc, .slice oa t.outs.length oc, .int .u64 t.dep, .int .u64 t.wd, .int .u64 t.fee, .int .u64 t.acc, .int .u64 t.nonce, .int .i64 t.exp, .slice pa t.proof.length pc] 45)) (.cells #[.int .i64 0, .int .u64 0, .slice none 0 0, .slice none 0 0, .slice none 0 0, .int .u64 0, .int .u64 0, .int .u64 0, .int .u64 0, .int .u64 0] 103)
  rw [e1] at q2
  have hst : StS #[.int .u64 t.anchor, .slice ma t.marks.length mc, .slice oa t.outs.length oc, .int .u64 t.dep, .int .u64 t.wd, .int .u64 t.fee, .int .u64 t.acc, .int .u64 t.nonce, .int .i64 t.exp, .slice pa t.proof.length pc] w ((w.alloc (.cells #[.int .u64 t.anchor, .slice ma t.marks.length mc, .slice oa t.outs.length oc, .int .u64 t.dep, .int .u64 t.wd, .int .u64 t.fee, .int .u64 t.acc, .int .u64 t.nonce, .int .i64 t.exp, .slice pa t.proof.length pc] 45)).alloc (.cells #[.int .i64 0, .int .u64 0, .slice none 0 0, .slice none 0 0, .slice none 0 0, .int .u64 0, .int .u64 0, .int .u64 0, .int .u64 0, .int .u64 0] 103)) := StS.of hb1 (box_old (box_new w (.cells #[.int .u64 t.anchor, .slice ma t.marks.length mc, .slice oa t.outs.length oc, .int .u64 t.dep, .int .u64 t.wd, .int .u64 t.fee, .int .u64 t.acc, .int .u64 t.nonce, .int .i64 t.exp, .slice pa t.proof.length pc] 45))) q2
  have H := Lib.hid (h.keepB hb1)
  have HV := Lib.hid hv
  have HST := Lib.hid hst
  have hokA := okU_in h.anchor
  clear hb0 hb1 e1 q2 h hv hst f3
  go_enter Tryz.func36, Tryz.ntmps36
  go_wp2_with fail
  generalize (w.alloc (.cells #[.int .u64 t.anchor, .slice ma t.marks.length mc, .slice oa t.outs.length oc, .int .u64 t.dep, .int .u64 t.wd, .int .u64 t.fee, .int .u64 t.acc, .int .u64 t.nonce, .int .i64 t.exp, .slice pa t.proof.length pc] 45)).alloc (.cells #[.int .i64 0, .int .u64 0, .slice none 0 0, .slice none 0 0, .slice none 0 0, .int .u64 0, .int .u64 0, .int .u64 0, .int .u64 0, .int .u64 0] 103) = W at *
  refine (txValid_any _ W t ma oa pa mc oc pc H.out).mono ?_
  rintro e w1 ⟨rfl, hb1⟩
  rw [HV.out]
  have HS1 := Lib.hid (HST.out.next hb1)
  have H1 := Lib.hid (H.out.keepB hb1)
  clear HST H hb1
  go_wp2_with fail
  go_cut [5] from 9 (fun v5 wc => ∃ q C am cm bd, v5 = .pointer (some ⟨q, 0, none⟩) ∧ 0 ≤ bd ∧ bd < 18446744069414584321 ∧ StAt D t #[.int .u64 t.anchor, .slice ma t.marks.length mc, .slice oa t.outs.length oc, .int .u64 t.dep, .int .u64 t.wd, .int .u64 t.fee, .int .u64 t.acc, .int .u64 t.nonce, .int .i64 t.exp, .slice pa t.proof.length pc] w q C am cm bd (.slice none 0 0) (.slice none 0 0) wc ∧ TxIn (fun k => k < w.heap.size) wc t ma oa pa mc oc pc)
  case first =>
    have hz1 := HS1.out.2.1
    go_region_held3 (fun w' => Below w1.heap.size w1 w' ∧ (∀ o, w'.cell? ⟨w.heap.size, o, none⟩ = (#[.int .u64 t.anchor, .slice ma t.marks.length mc, .slice oa t.outs.length oc, .int .u64 t.dep, .int .u64 t.wd, .int .u64 t.fee, .int .u64 t.acc, .int .u64 t.nonce, .int .i64 t.exp, .slice pa t.proof.length pc] : Array Value)[o]?))
      (first
        | with_reducible exact StK.drew (StK.of HS1.out.2.2.2.1 (Below.refl _ _))
        | with_reducible exact HMM.out
        | with_reducible exact HMA.out
        | with_reducible exact StK.of HS1.out.2.2.2.1 (bnew HMA.out.1 _)
        | with_reducible exact StK.of HS1.out.2.2.2.1 (bnew HMM.out.1 _)
        | with_reducible exact StK.drew (StK.of HS1.out.2.2.2.1 (bnew (Below.refl _ _) _))
        | exact StK.of HS1.out.2.2.2.1 (below_cells HMA.out.1 hqq [.int .i64 D, .int .u64 t.anchor, .slice a2 t.marks.length c2, .slice none 0 0, .slice none 0 0, .int .u64 t.dep, .int .u64 t.wd, .int .u64 t.fee, .int .u64 t.acc, .int .u64 bd] 0 HMA.out.1.size))
      (first
        | (go_at_call 32; have HBp := Lib.hid (‹Below w1.heap.size w1 _ ∧ _› : StK #[.int .u64 t.anchor, .slice ma t.marks.length mc, .slice oa t.outs.length oc, .int .u64 t.dep, .int .u64 t.wd, .int .u64 t.fee, .int .u64 t.acc, .int .u64 t.nonce, .int .i64 t.exp, .slice pa t.proof.length pc] w.heap.size w1 _); refine (clone_any _ _ ma mc t.marks (numsR.keepB H1.out.marks HBp.out.1) (by omega)).mono ?_; rintro e w2 ⟨a2, c2, rfl, hr2, hbM⟩
           have HMM := Lib.hid (StK.of HS1.out.2.2.2.1 (bnext HBp.out.1 hbM)); have HR2 := Lib.hid (numsR.bound hr2); clear hr2)
        | (go_at_call 75; have HBp := Lib.hid (‹Below w1.heap.size w1 _ ∧ _› : StK #[.int .u64 t.anchor, .slice ma t.marks.length mc, .slice oa t.outs.length oc, .int .u64 t.dep, .int .u64 t.wd, .int .u64 t.fee, .int .u64 t.acc, .int .u64 t.nonce, .int .i64 t.exp, .slice pa t.proof.length pc] w.heap.size w1 _); refine (bind_any _ _ t ma oa pa mc oc pc (H1.out.keepB HBp.out.1) HV.out).mono ?_; rintro e w3 ⟨bd, rfl, bd0, bd1, hbA⟩
           have HMA := Lib.hid (StK.of HS1.out.2.2.2.1 (bnext HBp.out.1 hbA))
           first
             | (have hqA : w3.heap[w1.heap.size]? = _ := box_after hbA (box_after hbM (box_new w1 (.cells #[.int .i64 0, .int .u64 0, .slice none 0 0, .slice none 0 0, .slice none 0 0, .int .u64 0, .int .u64 0, .int .u64 0, .int .u64 0, .int .u64 0] 103))); obtain ⟨k0, k1⟩ := box_cells hqA; have HQ := Lib.hid hqA; clear hqA; obtain ⟨qq, hqe⟩ : ∃ qq, qq = w1.heap.size := ⟨_, rfl⟩; have hqq : w1.heap.size ≤ qq := Nat.le_of_eq hqe.symm; subst hqe)
             | (have hqA : w3.heap[w2.heap.size]? = _ := box_after hbA (box_new w2 (.cells #[.int .i64 0, .int .u64 0, .slice none 0 0, .slice none 0 0, .slice none 0 0, .int .u64 0, .int .u64 0, .int .u64 0, .int .u64 0, .int .u64 0] 103)); obtain ⟨k0, k1⟩ := box_cells hqA; have HQ := Lib.hid hqA; clear hqA; have hqq : w1.heap.size ≤ w2.heap.size := HMM.out.1.size)
             | have hzA := HMA.out.1.size))
    · have hbF := bnew HMA.out.1 (.cells #[.int .i64 D, .int .u64 t.anchor, .slice a2 t.marks.length c2, .slice none 0 0, .slice none 0 0, .int .u64 t.dep, .int .u64 t.wd, .int .u64 t.fee, .int .u64 t.acc, .int .u64 bd] 103)
      have hmk : numsR.rel (fun k => (w.heap.size + 1 < k ∧ k ≠ w3.heap.size) ∧ k < w3.heap.size + 1) (w3.alloc (.cells #[.int .i64 D, .int .u64 t.anchor, .slice a2 t.marks.length c2, .slice none 0 0, .slice none 0 0, .int .u64 t.dep, .int .u64 t.wd, .int .u64 t.fee, .int .u64 t.acc, .int .u64 bd] 103)) [.slice a2 t.marks.length c2] t.marks :=
        numsR.mono (numsR.keepB (numsR.keepB HR2.out hbA) (bnew (Below.refl _ _) _)) fun k _ h => by have := hbA.size; have h2 : w1.heap.size ≤ k := h.1; have := h.2; omega
      have HF : Hid (StAt D t #[.int .u64 t.anchor, .slice ma t.marks.length mc, .slice oa t.outs.length oc, .int .u64 t.dep, .int .u64 t.wd, .int .u64 t.fee, .int .u64 t.acc, .int .u64 t.nonce, .int .i64 t.exp, .slice pa t.proof.length pc] w w3.heap.size (w3.heap.size + 1) a2 c2 bd (.slice none 0 0) (.slice none 0 0) (w3.alloc (.cells #[.int .i64 D, .int .u64 t.anchor, .slice a2 t.marks.length c2, .slice none 0 0, .slice none 0 0, .int .u64 t.dep, .int .u64 t.wd, .int .u64 t.fee, .int .u64 t.acc, .int .u64 bd] 103))) :=
        ⟨HS1.out.next hbF, box_new _ _, hmk, Nat.lt_of_lt_of_le hz1 hzA, Nat.lt_succ_self _, by rw [World.size_alloc]; exact Nat.le_refl _⟩
      have HTX := Lib.hid (H1.out.keepB hbF)
      clear hbF hmk
      go_wp2_with fail
      go_meet
      case rel => exact ⟨w3.heap.size, w3.heap.size + 1, a2, c2, bd, rfl, bd0, bd1, HF.out, HTX.out⟩
    · have hqlt := box_lt HQ.out
      have hbF := below_cells HMA.out.1 (q := w2.heap.size) hqq [.int .i64 D, .int .u64 t.anchor, .slice a2 t.marks.length c2, .slice none 0 0, .slice none 0 0, .int .u64 t.dep, .int .u64 t.wd, .int .u64 t.fee, .int .u64 t.acc, .int .u64 bd] 0 HMA.out.1.size
      have hkF := kept_cells w3 (q := w2.heap.size) (S := fun k => k ≠ w2.heap.size) (fun h => h rfl) [.int .i64 D, .int .u64 t.anchor, .slice a2 t.marks.length c2, .slice none 0 0, .slice none 0 0, .int .u64 t.dep, .int .u64 t.wd, .int .u64 t.fee, .int .u64 t.acc, .int .u64 bd] 0
      have hmk : numsR.rel (fun k => (w.heap.size + 1 < k ∧ k ≠ w2.heap.size) ∧ k < w3.heap.size) w3 [.slice a2 t.marks.length c2] t.marks := numsR.mono (numsR.keepB (numsR.keepB HR2.out (bnew (Below.refl _ _) _)) hbA) fun k _ h => by have := hbA.size; rw [World.size_alloc] at this; have h2 : w1.heap.size ≤ k := h.1; have := h.2; omega
      have hF : StAt D t #[.int .u64 t.anchor, .slice ma t.marks.length mc, .slice oa t.outs.length oc, .int .u64 t.dep, .int .u64 t.wd, .int .u64 t.fee, .int .u64 t.acc, .int .u64 t.nonce, .int .i64 t.exp, .slice pa t.proof.length pc] w w2.heap.size w3.heap.size a2 c2 bd (.slice none 0 0) (.slice none 0 0) (w3.setCells w2.heap.size 0 [.int .i64 D, .int .u64 t.anchor, .slice a2 t.marks.length c2, .slice none 0 0, .slice none 0 0, .int .u64 t.dep, .int .u64 t.wd, .int .u64 t.fee, .int .u64 t.acc, .int .u64 bd]) :=
        ⟨HS1.out.next hbF, cells_box HQ.out _ rfl, numsR.keep hmk (hkF.mono fun k _ h => h.1.2), Nat.lt_of_lt_of_le hz1 hqq, hqlt, hkF.size⟩
      have hTX := H1.out.keepB hbF
      simp only [World.setCells, Nat.reduceAdd, Nat.zero_add] at hF hTX
      have HF := Lib.hid hF
      have HTX := Lib.hid hTX
      clear hbF hkF hmk hF hTX
      go_wp2_with fail
      go_meet
      case rel => exact ⟨w2.heap.size, w3.heap.size, a2, c2, bd, rfl, bd0, bd1, HF.out, HTX.out⟩
    · have hqlt := box_lt HQ.out
      have hbF := below_cells HMA.out.1 (q := w1.heap.size) (Nat.le_refl _) [.int .i64 D, .int .u64 t.anchor, .slice a2 t.marks.length c2, .slice none 0 0, .slice none 0 0, .int .u64 t.dep, .int .u64 t.wd, .int .u64 t.fee, .int .u64 t.acc, .int .u64 bd] 0 HMA.out.1.size
      have hkF := kept_cells w3 (q := w1.heap.size) (S := fun k => k ≠ w1.heap.size) (fun h => h rfl) [.int .i64 D, .int .u64 t.anchor, .slice a2 t.marks.length c2, .slice none 0 0, .slice none 0 0, .int .u64 t.dep, .int .u64 t.wd, .int .u64 t.fee, .int .u64 t.acc, .int .u64 bd] 0
      have hmk : numsR.rel (fun k => (w.heap.size + 1 < k ∧ k ≠ w1.heap.size) ∧ k < w3.heap.size) w3 [.slice a2 t.marks.length c2] t.marks := numsR.mono (numsR.keepB HR2.out hbA) fun k _ h => by have h1 := hbA.size; have h2 : (w1.alloc (.cells #[.int .i64 0, .int .u64 0, .slice none 0 0, .slice none 0 0, .slice none 0 0, .int .u64 0, .int .u64 0, .int .u64 0, .int .u64 0, .int .u64 0] 103)).heap.size ≤ k := h.1; rw [World.size_alloc] at h2; have := h.2; omega
      have hF : StAt D t #[.int .u64 t.anchor, .slice ma t.marks.length mc, .slice oa t.outs.length oc, .int .u64 t.dep, .int .u64 t.wd, .int .u64 t.fee, .int .u64 t.acc, .int .u64 t.nonce, .int .i64 t.exp, .slice pa t.proof.length pc] w w1.heap.size w3.heap.size a2 c2 bd (.slice none 0 0) (.slice none 0 0) (w3.setCells w1.heap.size 0 [.int .i64 D, .int .u64 t.anchor, .slice a2 t.marks.length c2, .slice none 0 0, .slice none 0 0, .int .u64 t.dep, .int .u64 t.wd, .int .u64 t.fee, .int .u64 t.acc, .int .u64 bd]) :=
        ⟨HS1.out.next hbF, cells_box HQ.out _ rfl, numsR.keep hmk (hkF.mono fun k _ h => h.1.2), Nat.lt_of_lt_of_le hz1 (Nat.le_refl _), hqlt, hkF.size⟩
      have hTX := H1.out.keepB hbF
      simp only [World.setCells, Nat.reduceAdd, Nat.zero_add] at hF hTX
      have HF := Lib.hid hF
      have HTX := Lib.hid hTX
      clear hbF hkF hmk hF hTX
      go_wp2_with fail
      go_meet
      case rel => exact ⟨w1.heap.size, w3.heap.size, a2, c2, bd, rfl, bd0, bd1, HF.out, HTX.out⟩
  case rest =>
    obtain ⟨q, C, am, cm, bd, rfl, bd0, bd1, hat, htx⟩ := hcut
    have x0 := hat.sts.2.2.1
    have HAT := Lib.hid hat
    have HTX := Lib.hid htx
    clear hat htx HS1 H1
    go_wp2_with fail
    refine (txOrigin_any _ wc t ma oa pa mc oc pc HTX.out HV.out).mono ?_
    rintro e w4 ⟨rfl, hb4⟩
    have HAT4 := Lib.hid (HAT.out.keepB hb4)
    have HTX4 := Lib.hid (HTX.out.keepB hb4)
    clear x0
    have x0 := HAT4.out.sts.2.2.1
    have HOK : Hid (okU (originS t.marks t.acc t.nonce)) := originS_ok HTX.out
    obtain ⟨og, hog⟩ : ∃ og, originS t.marks t.acc t.nonce = og := ⟨_, rfl⟩
    have HOG := Lib.hid hog
    rw [hog] at HOK ⊢
    clear hog HAT HTX hb4
    go_wp2_with fail
    clear x0
    go_loopw [35] (fun vi wr => ∃ (k : Nat) (v1 v2 : Value), k ≤ t.outs.length ∧ vi = .int .i64 k ∧ StAt D t #[.int .u64 t.anchor, .slice ma t.marks.length mc, .slice oa t.outs.length oc, .int .u64 t.dep, .int .u64 t.wd, .int .u64 t.fee, .int .u64 t.acc, .int .u64 t.nonce, .int .i64 t.exp, .slice pa t.proof.length pc] w q C am cm bd v1 v2 wr ∧ TxIn (fun k => k < w.heap.size) wr t ma oa pa mc oc pc ∧ Own u64R C 24 (fun x => v1.ownBlock = some x) wr v1 ((t.outs.map (·.commit)).take k) ∧ Own u64R C 24 (fun x => v2.ownBlock = some x) wr v2 (rhosTo og k) ∧ (∀ x, v1.ownBlock = some x → v2.ownBlock ≠ some x)) (fun vi _ => t.outs.length - (intOf vi).toNat)
    case atStart => exact ⟨0, .slice none 0 0, .slice none 0 0, Nat.zero_le _, rfl, HAT4.out, HTX4.out, by simpa using Own.nil _ _ _ _ _, Own.nil _ _ _ _ _, fun x h => by simp [Value.ownBlock] at h⟩
    case round =>
      obtain ⟨k, v1, v2, hk, rfl, hat, htx, ho1, ho2, hdis⟩ := hrel
      clear HAT4 HTX4
      by_cases hlt : k < t.outs.length
      · obtain ⟨b, off, ca, cc, rfl, -, hbl, o1, o2, o3, hci, c0, c1, c2, c3⟩ := outs_at htx.outs k hlt
        have HT1 : Hid ((t.outs.map (·.commit)).take (k + 1) = (t.outs.map (·.commit)).take k ++ [t.outs[k].commit]) := by show _ = _; rw [List.take_succ_eq_append_getElem (by simpa using hlt)]; simp
        have hl1 : ((t.outs.map (·.commit)).take k).length ≤ 4 := by simp; omega
        have HL1 := Lib.hid hl1
        have HL2 : Hid ((rhosTo og k).length ≤ 4) := by show _ ≤ _; rw [rhosTo_len]; omega
        generalize (t.outs.map (·.commit)).take k = l1 at *
        generalize t.outs[k] = o at *
        clear hci hl1
        have hbn := bnew (Below.refl wr.heap.size wr) (.cells #[.int .u64 o.commit, .int .u64 o.p0, .int .u64 o.p1, .slice ca o.cipher.length cc] 98)
        have HATn := Lib.hid (hat.keepB hbn)
        have HTXn := Lib.hid (htx.keepB hbn)
        have HO1 := Lib.hid (ho1.keepB hbn)
        have HO2 := Lib.hid (ho2.keepB hbn)
        have HIN := Lib.hid (box_new wr (.cells #[.int .u64 o.commit, .int .u64 o.p0, .int .u64 o.p1, .slice ca o.cipher.length cc] 98))
        have HD := Lib.hid hdis
        clear hat htx ho1 ho2 hdis hbn
        obtain ⟨x0, x1⟩ := box_cells HATn.out.box
        obtain ⟨y0, y1⟩ := box_cells HIN.out
        have hsrc : Src u64R (fun _ => False) ((wr.alloc (.cells #[.int .u64 o.commit, .int .u64 o.p0, .int .u64 o.p1, .slice ca o.cipher.length cc] 98)).alloc (.cells #[.int .u64 o.commit] 24)) (.slice (some ⟨(wr.alloc (.cells #[.int .u64 o.commit, .int .u64 o.p0, .int .u64 o.p1, .slice ca o.cipher.length cc] 98)).heap.size, 0, none⟩) 1 1) [o.commit] := Src.one (r := u64R) (y := o.commit) ⟨rfl, o1⟩ (CellsAt.new (wr.alloc (.cells #[.int .u64 o.commit, .int .u64 o.p0, .int .u64 o.p1, .slice ca o.cipher.length cc] 98)) [.int .u64 o.commit] 24)
        have e1 : (wr.alloc (.cells #[.int .u64 o.commit, .int .u64 o.p0, .int .u64 o.p1, .slice ca o.cipher.length cc] 98)).heap.size = wr.heap.size + 1 := World.size_alloc ..
        rw [e1] at hsrc
        have HSRC := Lib.hid hsrc
        clear hsrc e1
        have hCn : C ≤ ((wr.alloc (.cells #[.int .u64 o.commit, .int .u64 o.p0, .int .u64 o.p1, .slice ca o.cipher.length cc] 98)).alloc (.cells #[.int .u64 o.commit] 24)).heap.size := Nat.le_trans HATn.out.base (bnew (Below.refl _ _) (.cells #[.int .u64 o.commit] 24)).size
        go_wp2_with (at_builtin; go_loud (refine wpList_append_rel (r := u64R) (base := C) (v := v1) (u := .slice (some ⟨wr.heap.size + 1, 0, none⟩) 1 1) (ys := [o.commit]) (S := fun _ => False) rfl _ _ rfl Tryz.etyNums rfl rfl (Own.keepB HO1.out (bnew (Below.refl _ _) (.cells #[.int .u64 o.commit] 24))) HSRC.out (fun _ _ h => h.elim) (fun _ _ h => h) (by have := HL1.out; unfold maxLen; simp; omega) (by have := HL1.out; simp; omega) hCn ?_))
        intro v5 w5 ho5 hk5 hl5
        obtain ⟨a5, c5, rfl, -, -⟩ := sliceR.form ho5.slice
        have hkC : Kept (fun k => k < C) ((wr.alloc (.cells #[.int .u64 o.commit, .int .u64 o.p0, .int .u64 o.p1, .slice ca o.cipher.length cc] 98)).alloc (.cells #[.int .u64 o.commit] 24)) w5 := hk5.mono fun k _ hkC he => by have := (HO1.out.lt he).2.2; omega
        have AT5 := Lib.hid ((HATn.out.keepB (bnew (Below.refl _ _) (.cells #[.int .u64 o.commit] 24))).kept hkC)
        have TX5 := Lib.hid ((HTXn.out.keepB (bnew (Below.refl _ _) (.cells #[.int .u64 o.commit] 24))).keep (hkC.mono fun k _ h => by have h' : k < w.heap.size := h; have := HATn.out.lay; have := HATn.out.qC; omega))
        have O25 := Lib.hid ((HO2.out.keepB (bnew (Below.refl _ _) (.cells #[.int .u64 o.commit] 24))).keep (hk5.mono fun k _ h he => HD.out k he h))
        have HD5 : Hid (∀ x, (Value.slice a5 (l1 ++ [o.commit]).length c5).ownBlock = some x → v2.ownBlock ≠ some x) := fun x hx he => by
          rcases hl5 with h | h
          · rw [h] at hx; exact HD.out x hx he
          · rw [h] at hx
            have hx' := Option.some.inj hx
            have h2 := (HO2.out.lt he).1
            rw [World.size_alloc] at h2
            omega
        have O15 := Lib.hid (Own.tight ho5)
        have hqC := HATn.out.qC
        have hkq : Kept (fun k => k ≠ q) w5 (w5.setCell ⟨q, 3, none⟩ (.slice a5 (l1 ++ [o.commit]).length c5)) := (Kept.refl _ _).setCell (fun _ h => h rfl) _
        have AT6 := Lib.hid (AT5.out.store (u1 := .slice a5 (l1 ++ [o.commit]).length c5) (u2 := v2) 3 (.slice a5 (l1 ++ [o.commit]).length c5) rfl)
        have TX6 := Lib.hid (TX5.out.keep (hkq.mono fun k _ h => by have h' : k < w.heap.size := h; have := HATn.out.lay; omega))
        have O16 := Lib.hid (O15.out.keep (hkq.mono fun k _ h => by have := (O15.out.lt h).2.2; omega))
        have O26 := Lib.hid (O25.out.keep (hkq.mono fun k _ h => by have := (O25.out.lt h).2.2; omega))
        clear x0 x1 y0 y1 hk5 hkC hl5 ho5 hkq
        obtain ⟨x0, x1⟩ := box_cells AT5.out.box
        go_wp2_with fail
        clear x0 x1
        generalize hW6 : w5.setCell ⟨q, 3, none⟩ (.slice a5 (l1 ++ [o.commit]).length c5) = w6 at *
        have hll : (l1 ++ [o.commit]).length = l1.length + 1 := by simp
        rw [hll] at hW6
        rw [hW6]
        clear hW6
        obtain ⟨x0, x1⟩ := box_cells AT6.out.box
        have O26d := Lib.hid (show Own u64R C 24 (fun x => v2.ownBlock = some x) w6.drew v2 (rhosTo og k) from O26.out.keepB (Below.refl _ _).drew)
        go_region_law (first
          | (refine step_append_rel (r := u64R) (base := C) (v := v2) (u := .slice (some ⟨w7.heap.size, 0, none⟩) 1 1) (S := fun _ => False) rfl _ _ rfl Tryz.etyNums rfl rfl (Own.keepB O27.out (bnew (Below.refl _ _) _)) (Src.one (r := u64R) (y := rhoS og k) ⟨rfl, hrk.out⟩ (CellsAt.new w7 [.int .u64 (rhoS og k)] 24)) (fun _ _ h => h.elim) (fun _ _ h => h) (by have := HL2.out; unfold maxLen; simp; omega) (by have := HL2.out; simp; omega) (Nat.le_trans AT7.out.base (by rw [World.size_alloc]; omega)) ?_
             intro v8 w8 ho8 hk8 hl8
             obtain ⟨a8, c8, rfl, -, -⟩ := sliceR.form ho8.slice
             have hkC : Kept (fun k => k < C) (w7.alloc (.cells #[.int .u64 (rhoS og k)] 24)) w8 := hk8.mono fun k _ hkC he => by have := (O27.out.lt he).2.2; omega
             have AT8 := Lib.hid ((AT7.out.keepB (bnew (Below.refl _ _) (.cells #[.int .u64 (rhoS og k)] 24))).kept hkC)
             have TX8 := Lib.hid ((TX7.out.keepB (bnew (Below.refl _ _) (.cells #[.int .u64 (rhoS og k)] 24))).keep (hkC.mono fun k _ h => by have h' : k < w.heap.size := h; have := AT7.out.lay; have := AT7.out.qC; omega))
             have O18 := Lib.hid ((O17.out.keepB (bnew (Below.refl _ _) (.cells #[.int .u64 (rhoS og k)] 24))).keep (hk8.mono fun k _ h he => HD5.out k h he))
             have O28 := Lib.hid (Own.tight ho8)
             have HD8 : Hid (∀ x, (Value.slice a5 (l1 ++ [o.commit]).length c5).ownBlock = some x → (Value.slice a8 (rhosTo og k ++ [rhoS og k]).length c8).ownBlock ≠ some x) := fun x hx he => by
               rcases hl8 with h | h
               · rw [h] at he; exact HD5.out x hx he
               · rw [h] at he
                 have he' := Option.some.inj he
                 have h2 := (O17.out.lt hx).1
                 rw [World.size_alloc] at he'
                 omega
             obtain ⟨t0, t1⟩ := box_cells AT8.out.box)
          | (go_simp; go_at_call 64; refine (rho_any _ og k HOK.out (by omega)).mono ?_; rintro e w7 ⟨rfl, hb7⟩
             have hb7' : Below w6.heap.size w6 w7 := bnext (Below.refl _ _).drew hb7
             have AT7 := Lib.hid (AT6.out.keepB hb7'); have TX7 := Lib.hid (TX6.out.keepB hb7'); have O17 := Lib.hid (O16.out.keepB hb7'); have O27 := Lib.hid (O26.out.keepB hb7')
             have hrk := Lib.hid (rhoS_ok og k)
             obtain ⟨y0, y1⟩ := box_cells AT7.out.box; have yy := fun o' => (box_cells (box_old (o' := o') AT7.out.box)).1))
        all_goals
          have hkq : Kept (fun k => k ≠ q) w8 (w8.setCell ⟨q, 4, none⟩ (.slice a8 (rhosTo og k ++ [rhoS og k]).length c8)) := (Kept.refl _ _).setCell (fun _ h => h rfl) _
          have AT9 := Lib.hid (AT8.out.store (u1 := .slice a5 (l1 ++ [o.commit]).length c5) (u2 := .slice a8 (rhosTo og k ++ [rhoS og k]).length c8) 4 (.slice a8 (rhosTo og k ++ [rhoS og k]).length c8) rfl)
          have TX9 := Lib.hid (TX8.out.keep (hkq.mono fun k _ h => by have h' : k < w.heap.size := h; have := AT7.out.lay; omega))
          have O19 := Lib.hid (O18.out.keep (hkq.mono fun k _ h => by have := (O18.out.lt h).2.2; omega))
          have O29 := Lib.hid (O28.out.keep (hkq.mono fun k _ h => by have := (O28.out.lt h).2.2; omega))
          clear hkq
          go_wp2_with fail
          go_roundw
          case rel => exact ⟨k + 1, .slice a5 (l1 ++ [o.commit]).length c5, .slice a8 (rhosTo og k ++ [rhoS og k]).length c8, by omega, by go_num, by simpa using AT9.out, by simpa using TX9.out, by rw [HT1.out]; simpa using O19.out, by simpa [rhosTo] using O29.out, by simpa using HD8.out⟩
          case measure => simp [intOf]; omega
      · obtain rfl : k = t.outs.length := by omega
        have hlm : (t.outs.map (·.commit)).take t.outs.length = t.outs.map (·.commit) := List.take_of_length_le (by simp)
        rw [hlm] at ho1
        obtain ⟨a1, c1, rfl, -, -⟩ := sliceR.form ho1.slice
        obtain ⟨a2, c2, rfl, -, -⟩ := sliceR.form ho2.slice
        have hl1 : (t.outs.map (·.commit)).length = t.outs.length := List.length_map ..
        have hl2 : (rhosTo og t.outs.length).length = t.outs.length := rhosTo_len _ _
        rw [hl1] at hat
        rw [hl2] at hat
        have hs1 := numsR.mono ho1.slice (S' := fun k => C ≤ k) fun k _ h => (ho1.lt h).2.2
        have hs2 := numsR.mono ho2.slice (S' := fun k => C ≤ k) fun k _ h => (ho2.lt h).2.2
        have HAT := Lib.hid hat
        have HS1 := Lib.hid hs1
        have HS2 := Lib.hid hs2
        obtain ⟨x0, x1⟩ := box_cells hat.box
        obtain ⟨f0, f1'⟩ := box_cells hat.sts.2.2.2.2
        have hR := (cells_box (old := [.int .i64 0, .int .u64 0, .slice none 0 0, .slice none 0 0, .slice none 0 0, .int .u64 0, .int .u64 0, .int .u64 0, .int .u64 0, .int .u64 0]) hat.sts.2.2.2.2 [.int .i64 D, .int .u64 t.anchor, .slice am t.marks.length cm, .slice a1 t.outs.length c1, .slice a2 t.outs.length c2, .int .u64 t.dep, .int .u64 t.wd, .int .u64 t.fee, .int .u64 t.acc, .int .u64 bd] rfl)
        have hK := (kept_cells wr (q := w.heap.size + 1) (S := fun k => k ≠ w.heap.size + 1) (fun h => h rfl) [.int .i64 D, .int .u64 t.anchor, .slice am t.marks.length cm, .slice a1 t.outs.length c1, .slice a2 t.outs.length c2, .int .u64 t.dep, .int .u64 t.wd, .int .u64 t.fee, .int .u64 t.acc, .int .u64 bd] 0)
        obtain ⟨wf, hwf⟩ : ∃ wf, wf = wr.setCells (w.heap.size + 1) 0 [.int .i64 D, .int .u64 t.anchor, .slice am t.marks.length cm, .slice a1 t.outs.length c1, .slice a2 t.outs.length c2, .int .u64 t.dep, .int .u64 t.wd, .int .u64 t.fee, .int .u64 t.acc, .int .u64 bd] := ⟨_, rfl⟩
        rw [← hwf] at hR hK
        simp only [World.setCells, Nat.reduceAdd, Nat.zero_add] at hwf
        have HW := Lib.hid hwf
        have HR := Lib.hid hR
        have HK := Lib.hid hK
        have HTX := Lib.hid htx
        clear hat ho1 ho2 hs1 hs2 hdis hwf hR hK htx
        go_wp2_with fail
        rw [← HW.out]
        obtain ⟨g0, -⟩ := box_cells HR.out
        refine bodyPost_ret (v := .agg #[.int .i64 D, .int .u64 t.anchor, .slice am t.marks.length cm, .slice a1 t.outs.length c1, .slice a2 t.outs.length c2, .int .u64 t.dep, .int .u64 t.wd, .int .u64 t.fee, .int .u64 t.acc, .int .u64 bd]) (by simp [results, Tryz.results36, go_sem, g0]) rfl ?_
        have hBC : w.heap.size + 1 < C := Nat.lt_trans HAT.out.lay HAT.out.qC
        refine ⟨bd, am, a1, a2, cm, c1, c2, bd0, bd1, rfl, ⟨HTX.out.anchor, HTX.out.dep, HTX.out.wd, HTX.out.fee, HTX.out.acc, okU_of bd0 (Int.lt_trans bd1 (by omega)), ?_, ?_, ?_⟩, ?_⟩
        · exact numsR.mono (numsR.keep HAT.out.marks (HK.out.mono fun k _ h => Nat.ne_of_gt h.1.1)) fun _ _ _ => trivial
        · exact numsR.mono (numsR.keep HS1.out (HK.out.mono fun k _ h => by have h' : C ≤ k := h; omega)) fun _ _ _ => trivial
        · have h2 := numsR.mono (numsR.keep HS2.out (HK.out.mono fun k _ h => by have h' : C ≤ k := h; omega)) (S' := fun _ => True) fun _ _ _ => trivial
          rw [← HOG.out] at h2
          exact h2
        · exact Kept.behind HAT.out.sts.1 HK.out HAT.out.sts.1.size fun k hk => by omega
theorem TxIn.bound {S : Nat → Prop} {w : World} {t : TxM} {ma oa pa : Option Addr} {mc oc pc : Nat} (h : TxIn S w t ma oa pa mc oc pc) : TxIn (fun k => k < w.heap.size) w t ma oa pa mc oc pc :=
  ⟨h.anchor, h.dep, h.wd, h.fee, h.acc, h.nonce, h.exp, numsR.mono (numsR.bound h.marks) fun _ _ h => h.2, outsR.mono (outsR.bound h.outs) fun _ _ h => h.2, bytesR.mono (bytesR.bound h.proof) fun _ _ h => h.2⟩
theorem statement_any (S : Nat → Prop) (w : World) (t : TxM) (ma oa pa : Option Addr) (mc oc pc : Nat) (h : TxIn S w t ma oa pa mc oc pc) (hv : validE t = 0) (D : Nat) (hD : D ≤ 12) :
    Calls Tryz.prog 36 #[.agg #[.int .u64 t.anchor, .slice ma t.marks.length mc, .slice oa t.outs.length oc, .int .u64 t.dep, .int .u64 t.wd, .int .u64 t.fee, .int .u64 t.acc, .int .u64 t.nonce, .int .i64 t.exp, .slice pa t.proof.length pc], .int .i64 D] w (StOut D t w) := statement_in w t ma oa pa mc oc pc h.bound hv D hD
end Go.Proofs.YtdjcdejapkkcmaaGreatDoor
/- The reference's packed bytes, digests of bytes, the binding of a transaction. -/
namespace Go.Proofs.YtdjcdejapkkcmaaGreatDoor
open Go.ChangeShapes Go.WideShapes Go.ChangeAt Go.RowKit Go.Sort

def bindS (t : TxM) : Int := hashS 13 (packS (encS t []))
end Go.Proofs.YtdjcdejapkkcmaaGreatDoor
/- The program's bytes of a transaction, exact; its binding. -/
namespace Go.Proofs.YtdjcdejapkkcmaaGreatDoor
open Go.ChangeShapes Go.WideShapes Go.ChangeAt Go.RowKit

def SomeX (l : List Int) (N : Nat) (w : World) (e : Ending) (w' : World) : Prop := ∃ (ys : List Int) (a : Option Addr) (cap : Nat), Hid (ys = l) ∧ ys.length ≤ N ∧ e = .returned (.slice a ys.length cap) ∧ bytesR.rel (fun _ => True) w' [.slice a ys.length cap] ys ∧ Below w.heap.size w w'
theorem GivesS.someX {ys : List Int} {N : Nat} {w w' : World} {e : Ending} (h : GivesB ys w e w') (hl : ys.length ≤ N) : SomeX ys N w e w' := by
  obtain ⟨a, cap, h1, h2, h3⟩ := h
  exact ⟨ys, a, cap, rfl, hl, h1, h2, h3⟩
theorem UintX (N : Nat) (w : World) (a : Option Addr) (cap : Nat) (xs : List Int) (h : bytesR.rel (fun _ => True) w [.slice a xs.length cap] xs) (hx : xs.length ≤ N) (hN : N ≤ 100000) (n : Int) (hn : okU n) :
    Calls Tryz.prog 74 #[.slice a xs.length cap, .int .u64 n] w (SomeX (xs ++ digs 8 n) (N + 8) w) :=
  (Uint_any _ w a cap xs h n (okU_in hn).1 (okU_in hn).2 (by omega)).mono fun _ _ h => GivesS.someX h (by rw [List.length_append, digs_len]; omega)
theorem IntX (N : Nat) (w : World) (a : Option Addr) (cap : Nat) (xs : List Int) (h : bytesR.rel (fun _ => True) w [.slice a xs.length cap] xs) (hx : xs.length ≤ N) (hN : N ≤ 100000) (n : Nat) (hn : n ≤ 4294967295) :
    Calls Tryz.prog 81 #[.slice a xs.length cap, .int .i64 n] w (SomeX (xs ++ digs 4 n) (N + 4) w) :=
  (Int_any _ w a cap xs h n hn (by omega)).mono fun _ _ h => GivesS.someX h (by rw [List.length_append, digs_len]; omega)
theorem ListX (N M : Nat) (S' : Nat → Prop) (w : World) (a : Option Addr) (cap : Nat) (xs : List Int) (h : bytesR.rel (fun _ => True) w [.slice a xs.length cap] xs) (hx : xs.length ≤ N) (hN : N ≤ 100000) (la : Option Addr) (lc : Nat) (l : List Int) (hl : numsR.rel S' w [.slice la l.length lc] l) (hlm : l.length ≤ M) (hM : M ≤ 1000) :
    Calls Tryz.prog 80 #[.slice a xs.length cap, .slice la l.length lc] w (SomeX (xs ++ listS l) (N + 4 + 8 * M) w) :=
  (List_any _ S' w a cap xs h la lc l hl (by omega) (by omega)).mono fun _ _ h => by
    rw [List.append_assoc] at h
    exact GivesS.someX (ys := xs ++ listS l) h (by simp only [List.length_append, listS_len]; omega)
theorem BytesX (N : Nat) (S' : Nat → Prop) (w : World) (a : Option Addr) (cap : Nat) (xs : List Int) (h : bytesR.rel (fun _ => True) w [.slice a xs.length cap] xs) (hx : xs.length ≤ N) (hN : N ≤ 100000) (la : Option Addr) (lc : Nat) (l : List Int) (hl : bytesR.rel S' w [.slice la l.length lc] l) (hll : l.length ≤ 1048576) :
    Calls Tryz.prog 82 #[.slice a xs.length cap, .slice la l.length lc] w (SomeX (xs ++ (digs 4 l.length ++ l)) (N + 4 + l.length) w) :=
  (Bytes_any _ S' w a cap xs h la lc l hl (by omega) (by omega)).mono fun _ _ h => GivesS.someX h (by simp only [List.length_append, digs_len]; omega)
set_option maxRecDepth 100000 in
set_option maxHeartbeats 4000000 in
theorem encodeX_any (S : Nat → Prop) (w : World) (t : TxM) (ma oa pa : Option Addr) (mc oc pc : Nat) (h : TxIn S w t ma oa pa mc oc pc) (hv : validE t = 0) (qa : Option Addr) (qc : Nat) (proof : List Int) (S' : Nat → Prop) (hp : bytesR.rel S' w [.slice qa proof.length qc] proof) (hpl : proof.length ≤ 1048576) :
    Calls Tryz.prog 38 #[.agg #[.int .u64 t.anchor, .slice ma t.marks.length mc, .slice oa t.outs.length oc, .int .u64 t.dep, .int .u64 t.wd, .int .u64 t.fee, .int .u64 t.acc, .int .u64 t.nonce, .int .i64 t.exp, .slice pa t.proof.length pc], .slice qa proof.length qc] w (SomeX (encS t proof) (2000 + proof.length) w) := by
  obtain ⟨f1, f2, f3, f4, f5, f6⟩ := validE_facts hv
  have hb0 := bnew (Below.refl w.heap.size w) (.cells #[.int .u64 t.anchor, .slice ma t.marks.length mc, .slice oa t.outs.length oc, .int .u64 t.dep, .int .u64 t.wd, .int .u64 t.fee, .int .u64 t.acc, .int .u64 t.nonce, .int .i64 t.exp, .slice pa t.proof.length pc] 45)
  have HX := Lib.hid (box_new w (.cells #[.int .u64 t.anchor, .slice ma t.marks.length mc, .slice oa t.outs.length oc, .int .u64 t.dep, .int .u64 t.wd, .int .u64 t.fee, .int .u64 t.acc, .int .u64 t.nonce, .int .i64 t.exp, .slice pa t.proof.length pc] 45))
  have H := Lib.hid (h.keepB hb0)
  have HPR := Lib.hid (bytesR.keepB hp hb0)
  have HB := Lib.hid hb0
  have HF3 := Lib.hid f3
  clear hb0 h hv f3 hp
  go_enter Tryz.func38, Tryz.ntmps38
  go_wp2_with fail
  generalize w.alloc (.cells #[.int .u64 t.anchor, .slice ma t.marks.length mc, .slice oa t.outs.length oc, .int .u64 t.dep, .int .u64 t.wd, .int .u64 t.fee, .int .u64 t.acc, .int .u64 t.nonce, .int .i64 t.exp, .slice pa t.proof.length pc] 45) = W at *
  refine (UintX 0 W none 0 [] sliceR.nil (Nat.le_refl _) (by omega) t.anchor H.out.anchor).mono ?_
  rintro e w1 ⟨y1, a1, c1, Ey1, l1, rfl, h1, hb1⟩
  obtain ⟨x0, x1⟩ := box_cells (box_after hb1 HX.out)
  go_wp2_with fail
  refine (ListX 8 4 S w1 a1 c1 y1 h1 (by omega) (by omega) ma mc t.marks (numsR.keepB H.out.marks hb1) (by omega) (by omega)).mono ?_
  rintro e w2 ⟨y2, a2, c2, Ey2, l2, rfl, h2, hb2⟩
  have hk2 := bnext hb1 hb2
  clear x0 x1
  obtain ⟨x0, x1⟩ := box_cells (box_after hk2 HX.out)
  go_wp2_with fail
  refine (IntX 44 w2 a2 c2 y2 h2 (by omega) (by omega) t.outs.length (by omega)).mono ?_
  rintro e w3 ⟨y3, a3, c3, Ey3, l3, rfl, h3, hb3⟩
  have hk3 := bnext hk2 hb3
  clear x0 x1
  obtain ⟨x0, x1⟩ := box_cells (box_after hk3 HX.out)
  go_wp2_with fail
  go_loopw [5, 23] (fun vb vi wr => ∃ (k : Nat) (ys : List Int) (a : Option Addr) (c : Nat), k ≤ t.outs.length ∧ vi = .int .i64 k ∧ vb = .slice a ys.length c ∧ Hid (ys = y3 ++ outsS (t.outs.take k)) ∧ ys.length ≤ 48 + 52 * k ∧ bytesR.rel (fun _ => True) wr [.slice a ys.length c] ys ∧ Below W.heap.size W wr) (fun _ vi _ => t.outs.length - (intOf vi).toNat)
  case atStart => exact ⟨0, y3, a3, c3, Nat.zero_le _, rfl, rfl, by show _ = _; simp [outsS], by omega, h3, hk3⟩
  case round =>
    obtain ⟨k, ys, a, c, hk, rfl, rfl, hye, hyl, hys, hbr⟩ := hrel
    clear x0 x1
    by_cases hlt : k < t.outs.length
    · obtain ⟨b, off, ca, cc, rfl, -, hbl, o1, o2, o3, hci, c0, c1', c2', c3'⟩ := outs_at (outsR.keepB H.out.outs hbr) k hlt
      have hc3 := Lib.hid (HF3.out t.outs[k] (List.getElem_mem hlt))
      have HT : Hid (outsS (t.outs.take (k + 1)) = outsS (t.outs.take k) ++ outS t.outs[k]) := by show _ = _; rw [List.take_succ_eq_append_getElem hlt, outsS_snoc]
      generalize t.outs[k] = o at *
      have hbn := bnew (Below.refl wr.heap.size wr) (.cells #[.int .u64 o.commit, .int .u64 o.p0, .int .u64 o.p1, .slice ca o.cipher.length cc] 98)
      have hin := box_new wr (.cells #[.int .u64 o.commit, .int .u64 o.p0, .int .u64 o.p1, .slice ca o.cipher.length cc] 98)
      have HCI := Lib.hid (numsR.keepB hci hbn)
      have hbrn := bnext hbr hbn
      have HIN := Lib.hid hin
      have HYS := Lib.hid (bytesR.keepB hys hbn)
      clear hci hin hys
      go_wp2_with fail
      generalize wr.alloc (.cells #[.int .u64 o.commit, .int .u64 o.p0, .int .u64 o.p1, .slice ca o.cipher.length cc] 98) = wn at *
      clear c0 c1' c2' c3'
      refine (UintX (48 + 52 * k) wn a c ys HYS.out hyl (by omega) o.commit o1).mono ?_
      rintro e w4 ⟨y4, a4, c4, Ey4, l4, rfl, h4, hb4⟩
      obtain ⟨x0, x1⟩ := box_cells (box_after hb4 HIN.out)
      go_wp2_with fail
      refine (UintX (48 + 52 * k + 8) w4 a4 c4 y4 h4 l4 (by omega) o.p0 o2).mono ?_
      rintro e w5 ⟨y5, a5, c5, Ey5, l5, rfl, h5, hb5⟩
      have hk5 := bnext hb4 hb5
      clear x0 x1
      obtain ⟨x0, x1⟩ := box_cells (box_after hk5 HIN.out)
      go_wp2_with fail
      refine (UintX (48 + 52 * k + 16) w5 a5 c5 y5 h5 (by omega) (by omega) o.p1 o3).mono ?_
      rintro e w6 ⟨y6, a6, c6, Ey6, l6, rfl, h6, hb6⟩
      have hk6 := bnext hk5 hb6
      clear x0 x1
      obtain ⟨x0, x1⟩ := box_cells (box_after hk6 HIN.out)
      go_wp2_with fail
      refine (ListX (48 + 52 * k + 24) 3 S w6 a6 c6 y6 h6 (by omega) (by omega) ca cc o.cipher (numsR.keepB HCI.out hk6) (by have := hc3.out; omega) (by omega)).mono ?_
      rintro e w7 ⟨y7, a7, c7, Ey7, l7, rfl, h7, hb7⟩
      go_wp2_with fail
      go_roundw
      case rel => exact ⟨k + 1, y7, a7, c7, by omega, by go_num, rfl, by show _ = _; rw [Ey7.out, Ey6.out, Ey5.out, Ey4.out, hye.out, HT.out]; simp [outS, digsAll, listS], by omega, h7, bnext hbrn (bnext hk6 hb7)⟩
      case measure => simp [intOf]; omega
    · obtain rfl : k = t.outs.length := by omega
      obtain ⟨x0, x1⟩ := box_cells (box_after hbr HX.out)
      go_wp2_with fail
      refine (UintX 300 wr a c ys hys (by omega) (by omega) t.dep H.out.dep).mono ?_
      rintro e v1 ⟨z1, b1, d1, Ez1, m1, rfl, g1, hc1⟩
      have hj1 := bnext hbr hc1
      clear x0 x1
      obtain ⟨x0, x1⟩ := box_cells (box_after hj1 HX.out)
      go_wp2_with fail
      refine (UintX 308 v1 b1 d1 z1 g1 (by omega) (by omega) t.wd H.out.wd).mono ?_
      rintro e v2 ⟨z2, b2, d2, Ez2, m2, rfl, g2, hc2⟩
      have hj2 := bnext hj1 hc2
      clear x0 x1
      obtain ⟨x0, x1⟩ := box_cells (box_after hj2 HX.out)
      go_wp2_with fail
      refine (UintX 316 v2 b2 d2 z2 g2 (by omega) (by omega) t.fee H.out.fee).mono ?_
      rintro e v3 ⟨z3, b3, d3, Ez3, m3, rfl, g3, hc3⟩
      have hj3 := bnext hj2 hc3
      clear x0 x1
      obtain ⟨x0, x1⟩ := box_cells (box_after hj3 HX.out)
      go_wp2_with fail
      refine (UintX 324 v3 b3 d3 z3 g3 (by omega) (by omega) t.acc H.out.acc).mono ?_
      rintro e v4 ⟨z4, b4, d4, Ez4, m4, rfl, g4, hc4⟩
      have hj4 := bnext hj3 hc4
      clear x0 x1
      obtain ⟨x0, x1⟩ := box_cells (box_after hj4 HX.out)
      go_wp2_with fail
      refine (UintX 332 v4 b4 d4 z4 g4 (by omega) (by omega) t.nonce H.out.nonce).mono ?_
      rintro e v5 ⟨z5, b5, d5, Ez5, m5, rfl, g5, hc5⟩
      have hj5 := bnext hj4 hc5
      clear x0 x1
      obtain ⟨x0, x1⟩ := box_cells (box_after hj5 HX.out)
      obtain ⟨ex, hex⟩ := Int.eq_ofNat_of_zero_le f4
      have HEX := Lib.hid hex
      rw [hex] at x0
      go_wp2_with fail
      refine (IntX 340 v5 b5 d5 z5 g5 (by omega) (by omega) ex (by omega)).mono ?_
      rintro e v6 ⟨z6, b6, d6, Ez6, m6, rfl, g6, hc6⟩
      have hj6 := bnext hj5 hc6
      go_wp2_with fail
      refine (BytesX 344 S' v6 b6 d6 z6 g6 (by omega) (by omega) qa qc proof (bytesR.keepB HPR.out hj6) hpl).mono ?_
      rintro e v7 ⟨z7, b7, d7, Ez7, m7, rfl, g7, hc7⟩
      go_wp2_with fail
      go_ret
      have HFIN : Hid (z7 = encS t proof) := by
        show _ = _
        have e9 : t.outs.take t.outs.length = t.outs := List.take_length
        rw [Ez7.out, Ez6.out, Ez5.out, Ez4.out, Ez3.out, Ez2.out, Ez1.out, hye.out, e9, Ey3.out, Ey2.out, Ey1.out]
        unfold encS
        rw [HEX.out]
        simp [digsAll, listS]
      exact ⟨z7, b7, d7, HFIN, by omega, rfl, g7, bnext HB.out (bnext hj6 hc7)⟩
end Go.Proofs.YtdjcdejapkkcmaaGreatDoor
