/- The ledger of the program: Clone of accounts; set. -/
import Derived.Test.YtphacfkcifpobaaGreatDoorM14
set_option maxRecDepth 100000
namespace Go.Proofs.YtphacfkcifpobaaGreatDoor
open Go.ChangeShapes Go.WideShapes Go.ChangeAt Go.RowKit Go.Sort
theorem Tryz.etyAcc : ElemTy Tryz.prog 153 244 3 24 := ElemTy.of Tryz.underlying153 (z := .agg #[.int .u64 0, .int .u64 0, .int .u64 0]) (by kernel_rfl) rfl (by omega)
theorem plainAc : Plain acR := fun h => (Plain.pair (Plain.int .u64) (Plain.pair (Plain.int .u64) (Plain.int .u64))) h
theorem eql_nilA (a : Option Addr) (l c : Nat) (w : World) : (binOp .eql 153 (.slice a l c) (.slice none 0 0)).run Tryz.prog w = .ok (.bool a.isNone) w := by
 simp only [binOp]
 simp [run_equal_slice_nil w 153 244 a l c Tryz.underlying153]
theorem wpList_catP {P : Program} {ops : Array Oper} {rest : List Oper} {o : Oper} {a : Act} {Q : Exit → Act → World → Prop} (hgd : o.guard = none) (s x : Operand) {t : TypeId}
   (ho : o.op = .call { callee := .builtin .append, args := #[s, x], argTypes := #[t, t] }) {α : Type} {r : Rep α} (hp : Plain r) {e : TypeId} {bytes : Nat} (hT : ElemTy P t e r.n bytes) {S : Nat → Prop} {B : Nat} {w0 wr : World} {v u : Value} {xs ys : List α}
   (hs : a.eval s = v) (hx : a.eval x = u)
   (hbr : Below B w0 wr) (hB : B ≤ wr.heap.size) (hor : Own r B e (fun x => False ∨ B ≤ x) wr v xs) (hu : (sliceR r).rel S wr [u] ys)
   (h63 : xs.length + ys.length ≤ maxLen) (hbytes : (xs.length + ys.length) * bytes ≤ 140737488355328)
   (hK : ∀ v' w', Own r B e (fun x => False ∨ B ≤ x) w' v' (xs ++ ys) → Below B w0 w' → wpList P ops Q rest (a.put o.dst v') w') :
   wpList P ops Q (o :: rest) a wr := by
 refine wpList_append_rel (r := r) (base := B) (F := fun x => False ∨ B ≤ x) (S := fun _ => False) (xs := xs) (ys := ys) hgd s x ho hT hs hx hor (Src.plain hp (Src.of_slice hu)) (fun _ _ h => h.elim) (fun _ _ h => h) h63 hbytes hB fun v' w' ho' hk' _ => hK v' w' ?_ ?_
 · refine ho'.mono fun j _ h => ?_
   rcases h with h | h
   · exact h
   · exact .inr (Nat.le_trans hB h)
 · exact Kept.behind hbr hk' hB fun j hj he => by
     have := (hor.lt he).2.2; omega
set_option maxHeartbeats 400000 in
theorem cloneA_any (S : Nat → Prop) (w : World) (a : Option Addr) (cap : Nat) (l : List AcM) (h : accsR.rel S w [.slice a l.length cap] l) (hl : l.length ≤ 1000000) :
   Calls Tryz.prog 145 #[.slice a l.length cap] w fun e w' => ∃ v, e = .returned v ∧ Own acR w.heap.size 244 (fun x => False ∨ w.heap.size ≤ x) w' v l ∧ Below w.heap.size w w' := by
 have hen := eql_nilA
 cases a with
 | none =>
   have hl0 : l = [] := by
     cases l with
     | nil => rfl
     | cons x xs => obtain ⟨b, off, h1, -⟩ := acs_at h 0 (by simp); cases h1
   subst hl0
   go_enter Tryz.func145, Tryz.ntmps145
   go_wp2_with fail; go_ret
   exact ⟨_, rfl, Own.nil _ _ _ _ _, Below.refl _ _⟩
 | some ad =>
   have hb0 := bnew (Below.refl w.heap.size w) (.cells #[] 244); have HO := Lib.hid (Own.empty acR w.heap.size 244 (box_new w (.cells #[] 244)) (Nat.le_refl _))
   have HS := Lib.hid (Src.plain (S' := fun _ => False) plainAc (Src.of_slice ((accsR).keepB h hb0)))
   have HB := Lib.hid hb0; clear h hb0
   go_enter Tryz.func145, Tryz.ntmps145
   go_wp2_with (at_builtin; refine wpList_append_rel (r := acR) (base := w.heap.size) rfl _ _ rfl Tryz.etyAcc rfl rfl HO.out HS.out (fun _ _ h => h.elim) (fun _ _ h => h) (by unfold maxLen; simp; omega) (by simp; omega) (by rw [World.size_alloc]; omega) ?_)
   intro v3 w3 ho3 hk3 _
   have hb3 : Below w.heap.size w w3 := Kept.behind HB.out hk3 (by rw [World.size_alloc]; omega) fun k hk h => by have := (HO.out.lt h).2.2; omega
   have HG : Hid (Own acR w.heap.size 244 (fun x => False ∨ w.heap.size ≤ x) w3 v3 l) := by
     have := ho3.mono (F' := fun x => False ∨ w.heap.size ≤ x) fun k _ h => .inr (by rcases h with h | h <;> omega)
     exact this
   have HB3 := Lib.hid hb3; clear ho3 hb3; go_wp2_with fail; go_ret
   exact ⟨_, rfl, HG.out, HB3.out⟩
end Go.Proofs.YtphacfkcifpobaaGreatDoor
