/- Pushing one element onto an owned row. Nothing of the program is named here; no conditions. -/
import Derived.Test.YthggdacincfplaaGreatDoorKit
namespace Go.Proofs.YthggdacincfplaaGreatDoor
open Go.ChangeShapes Go.WideShapes Go.ChangeAt Go.RowKit

theorem wpList_push {P : Program} {ops : Array Oper} {rest : List Oper} {o : Oper} {a : Act} {Q : Exit → Act → World → Prop} (hgd : o.guard = none) (s x : Operand) {t : TypeId}
    (ho : o.op = .call { callee := .builtin .append, args := #[s, x], argTypes := #[t, t] }) {α : Type} {r : Rep α} {e : TypeId} {bytes : Nat} (hT : ElemTy P t e r.n bytes) {S T : Nat → Prop} {B : Nat} {w0 wr : World} {v : Value} {xs : List α} {es : List Value} {y : α}
    (hs : a.eval s = v) (hx : a.eval x = .slice (some ⟨wr.heap.size, 0, none⟩) 1 1)
    (hbr : Below B w0 wr) (hB : B ≤ wr.heap.size) (hor : Own r B e (fun x => S x ∨ B ≤ x) wr v xs) (hy : r.rel T wr es y) (hTS : ∀ k, T k → (S k ∨ B ≤ k) ∧ v.ownBlock ≠ some k)
    (h63 : xs.length + 1 ≤ maxLen) (hbytes : (xs.length + 1) * bytes ≤ 140737488355328)
    (hK : ∀ v' w', Own r B e (fun x => S x ∨ B ≤ x) w' v' (xs ++ [y]) → Below B w0 w' → wpList P ops Q rest (a.put o.dst v') w') :
    wpList P ops Q (o :: rest) a (wr.alloc (.cells es.toArray e)) := by
  have hbn := bnew (Below.refl wr.heap.size wr) (.cells es.toArray e)
  refine wpList_append_rel (ys := [y]) hgd s x ho hT hs hx (hor.keepB hbn) (Src.one (r.keepB hy hbn) (CellsAt.new wr es e)) (fun k _ hk => (hTS k hk).1) (fun k hk h => (hTS k h).2 hk) h63 hbytes (by simp; omega) fun v' w' ho' hk' _ => hK v' w' ?_ ?_
  · refine ho'.mono fun k _ h => ?_
    rcases h with h | h
    · exact h
    · simp at h; exact .inr (by omega)
  · exact Kept.behind (hbr.trans (hbn.mono hB)) hk' (by simp; omega) fun k hk h => by have := (hor.lt h).2.2; omega
end Go.Proofs.YthggdacincfplaaGreatDoor
