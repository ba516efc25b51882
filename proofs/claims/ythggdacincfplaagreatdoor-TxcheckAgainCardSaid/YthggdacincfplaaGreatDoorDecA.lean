/- Reading notes and witnesses: the data, the state of Decode, readNote. -/
import Derived.Test.YthggdacincfplaaGreatDoorRdList
namespace Go.Proofs.YthggdacincfplaaGreatDoor
open Go.ChangeShapes Go.WideShapes Go.ChangeAt Go.RowKit

def RdM.n1 (r : RdM) : RdM := (r.uint 4294967295).2
def RdM.n2 (r : RdM) : RdM := (r.n1.uint 18446744069414584320).2
def RdM.n3 (r : RdM) : RdM := (r.n2.uint 18446744069414584320).2
def RdM.n4 (r : RdM) : RdM := (r.n3.uint 18446744069414584320).2
def RdM.note (r : RdM) : NoteM := ⟨(r.uint 4294967295).1, (r.n1.uint 18446744069414584320).1, (r.n2.uint 18446744069414584320).1, (r.n3.uint 18446744069414584320).1⟩
def RdM.s1 (r : RdM) : RdM := (r.n4.uint 18446744069414584320).2
def RdM.s2 (r : RdM) : RdM := (r.s1.int 3).2
def RdM.s3 (r : RdM) : RdM := (r.s2.int 4095).2
def RdM.s4 (r : RdM) : RdM := (r.s3.list 12 18446744069414584321).2
def RdM.s5 (r : RdM) : RdM := (r.s4.int 1).2
def RdM.spent (r : RdM) : SpentM := ⟨r.note, (r.n4.uint 18446744069414584320).1, (r.s1.int 3).1, (r.s2.int 4095).1, (r.s3.list 12 18446744069414584321).1, (r.s4.int 1).1 == 1⟩
def RdM.spents : Nat → RdM → List SpentM → List SpentM × RdM
  | 0, r, acc => (acc, r)
  | k + 1, r, acc => RdM.spents k r.s5 (acc ++ [r.spent])
def RdM.notes : Nat → RdM → List NoteM → List NoteM × RdM
  | 0, r, acc => (acc, r)
  | k + 1, r, acc => RdM.notes k r.n4 (acc ++ [r.note])

set_option maxRecDepth 100000 in
set_option maxHeartbeats 1000000 in
theorem readNote_any (w : World) (p : Nat) (r : RdM) (h : RdAt p w r) : Calls Tryz.prog 41 #[.pointer (some ⟨p, 0, none⟩)] w
    fun e w' => e = .returned (.agg #[.int .u64 r.note.value, .int .u64 r.note.owner, .int .u64 r.note.rho, .int .u64 r.note.blind]) ∧ RdTo p w r.n4 w' ∧ NoteOk r.note := by
  have hlt := h.lt
  have hb0 := bnew (Below.refl w.heap.size w) (.cells #[.int .u64 0, .int .u64 0, .int .u64 0, .int .u64 0] 113)
  have HX := Lib.hid (box_new w (.cells #[.int .u64 0, .int .u64 0, .int .u64 0, .int .u64 0] 113))
  have H0 := Lib.hid (h.keep hb0)
  have HB0 := Lib.hid hb0
  clear hb0 h
  go_enter Tryz.func41, Tryz.ntmps41
  go_wp2_with fail
  refine (rdUint_any _ p r H0.out 4294967295 (by omega)).mono ?_
  rintro e w1 ⟨rfl, h1, a0, a1⟩
  go_wp2_with fail
  refine (rdUint_any w1 p r.n1 h1.1 18446744069414584320 (by omega)).mono ?_
  rintro e w2 ⟨rfl, h2, b0, b1⟩
  go_wp2_with fail
  refine (rdUint_any w2 p r.n2 h2.1 18446744069414584320 (by omega)).mono ?_
  rintro e w3 ⟨rfl, h3, c0, c1⟩
  go_wp2_with fail
  refine (rdUint_any w3 p r.n3 h3.1 18446744069414584320 (by omega)).mono ?_
  rintro e w4 ⟨rfl, h4, d0, d1⟩
  have hk := kept_next (kept_next h1.2 h2.2) (kept_next h3.2 h4.2)
  have hx4 := box_kept hk HX.out (by omega)
  obtain ⟨x0, x1⟩ := box_cells hx4
  have HN : Hid (NoteOk r.note) := ⟨okU_of a0 (Int.lt_of_le_of_lt a1 (by omega)), okU_of b0 (Int.lt_of_le_of_lt b1 (by omega)), okU_of c0 (Int.lt_of_le_of_lt c1 (by omega)), okU_of d0 (Int.lt_of_le_of_lt d1 (by omega))⟩
  have HT : Hid (RdAt p w4 r.n4) := h4.1
  have HK : Hid (Kept (fun k => k ≠ p) w w4) := kept_next (Kept.of_below HB0.out) hk
  have e1 : r.note.value = (r.uint 4294967295).1 := rfl
  have e2 : r.note.owner = (r.n1.uint 18446744069414584320).1 := rfl
  have e3 : r.note.rho = (r.n2.uint 18446744069414584320).1 := rfl
  have e4 : r.note.blind = (r.n3.uint 18446744069414584320).1 := rfl
  rw [← e1, ← e2, ← e3, ← e4]
  clear e1 e2 e3 e4 a0 a1 b0 b1 c0 c1 d0 d1 h1 h2 h3 h4 hk
  obtain ⟨n, hn⟩ : ∃ n, r.note = n := ⟨_, rfl⟩
  have HNE := Lib.hid hn
  rw [hn] at HN ⊢
  clear hn
  have hf4 := box_set (i := 3) (v := .int .u64 n.blind) (box_set (i := 2) (v := .int .u64 n.rho) (box_set (i := 1) (v := .int .u64 n.owner) (box_set (i := 0) (v := .int .u64 n.value) hx4)))
  obtain ⟨z0, -⟩ := box_cells hf4
  have k0 := z0 0
  have k1 := z0 1
  have k2 := z0 2
  have k3 := z0 3
  simp at k0 k1 k2 k3
  clear z0 hf4 hx4
  go_wp2_with fail
  refine bodyPost_ret (v := .agg #[.int .u64 n.value, .int .u64 n.owner, .int .u64 n.rho, .int .u64 n.blind]) (by simp [results, Tryz.results41, go_sem, k0, k1, k2, k3]) rfl ⟨by rw [HNE.out], ⟨?_, ?_⟩, by rw [HNE.out]; exact HN.out⟩
  · exact HT.out.kept (((((Kept.refl _ _).setCell (fun _ h => by have h' : w.heap.size ≤ p := h; omega) _).setCell (fun _ h => by have h' : w.heap.size ≤ p := h; omega) _).setCell (fun _ h => by have h' : w.heap.size ≤ p := h; omega) _).setCell (fun _ h => by have h' : w.heap.size ≤ p := h; omega) _)
  · exact ((((HK.out.setCell (fun h => absurd h (Nat.lt_irrefl _)) _).setCell (fun h => absurd h (Nat.lt_irrefl _)) _).setCell (fun h => absurd h (Nat.lt_irrefl _)) _).setCell (fun h => absurd h (Nat.lt_irrefl _)) _)

/-- The state of Decode: the witness' variable at q, the reader at p, the result at the first block; rows from B on. -/
structure DecAt (w : World) (p q B : Nat) (v1 v2 : Value) (sec : Int) (rd : RdM) (wr : World) : Prop where
  below : Below w.heap.size w wr
  rd : RdAt p wr rd
  box : wr.heap[q]? = some (.cells #[v1, v2, .int .u64 sec] 78 (0, 0))
  res : wr.heap[w.heap.size]? = some (.cells #[.slice none 0 0, .slice none 0 0, .int .u64 0] 78 (0, 0))
  base : B ≤ wr.heap.size
/-- How the blocks lie. -/
structure DecLay (w : World) (p q B : Nat) : Prop where
  wp : w.heap.size < p
  wq : w.heap.size < q
  pB : p < B
  qB : q < B
  pq : p < q
theorem DecAt.kept {w wr w2 : World} {p q B : Nat} {v1 v2 : Value} {sec : Int} {rd : RdM} (L : DecLay w p q B) (h : DecAt w p q B v1 v2 sec rd wr) (hk : Kept (fun k => k < B) wr w2) : DecAt w p q B v1 v2 sec rd w2 :=
  have := L.wp; have := L.wq; have := L.pB; have := L.qB
  ⟨Kept.behind h.below (hk.mono (S' := fun k => k < B) fun _ _ h => h) h.below.size (fun k hk => by omega), h.rd.kept (hk.mono fun k _ h => by omega), box_kept hk h.box L.qB, box_kept hk h.res (by omega), Nat.le_trans h.base hk.size⟩
theorem DecAt.keepB {w wr w2 : World} {p q B : Nat} {v1 v2 : Value} {sec : Int} {rd : RdM} (L : DecLay w p q B) (h : DecAt w p q B v1 v2 sec rd wr) (hb : Below wr.heap.size wr w2) : DecAt w p q B v1 v2 sec rd w2 := h.kept L (Kept.of_below hb)
theorem DecAt.read {w wr w2 : World} {p q B : Nat} {v1 v2 : Value} {sec : Int} {rd rd' : RdM} (L : DecLay w p q B) (h : DecAt w p q B v1 v2 sec rd wr) (hr : RdTo p wr rd' w2) : DecAt w p q B v1 v2 sec rd' w2 :=
  have := L.wp; have := L.wq; have := L.pB; have := L.qB; have := L.pq
  ⟨Kept.behind h.below hr.2 h.below.size (fun k hk => by omega), hr.1, box_kept hr.2 h.box (by omega), box_kept hr.2 h.res (by omega), Nat.le_trans h.base hr.2.size⟩
theorem DecAt.store {w wr : World} {p q B : Nat} {v1 v2 u1 u2 : Value} {sec usec : Int} {rd : RdM} (L : DecLay w p q B) (h : DecAt w p q B v1 v2 sec rd wr) (i : Nat) (v : Value) (hv : (#[v1, v2, .int .u64 sec] : Array Value).setIfInBounds i v = #[u1, u2, .int .u64 usec]) : DecAt w p q B u1 u2 usec rd (wr.setCell ⟨q, i, none⟩ v) :=
  have := L.wp; have := L.wq; have := L.pB; have := L.qB; have := L.pq
  have hk : Kept (fun k => k ≤ p) wr (wr.setCell ⟨q, i, none⟩ v) := (Kept.refl _ _).setCell (fun _ h => by have h' : q ≤ p := h; omega) _
  ⟨h.below.setCell (by show w.heap.size ≤ q; omega) _, h.rd.kept hk, hv ▸ box_set h.box, box_set_far h.res (show w.heap.size ≠ q by omega), by rw [World.size_setCell]; exact h.base⟩
theorem DecAt.drew {w wr : World} {p q B : Nat} {v1 v2 : Value} {sec : Int} {rd : RdM} (L : DecLay w p q B) (h : DecAt w p q B v1 v2 sec rd wr) : DecAt w p q B v1 v2 sec rd wr.drew := h.keepB L (Below.refl _ _).drew
theorem Tryz.etySpent : ElemTy Tryz.prog 75 118 9 88 := ElemTy.of Tryz.underlying75 (z := .agg #[.int .u64 0, .int .u64 0, .int .u64 0, .int .u64 0, .int .u64 0, .int .i64 0, .int .i64 0, .slice none 0 0, .bool false]) (by kernel_rfl) rfl (by omega)
theorem Tryz.etyNote : ElemTy Tryz.prog 76 113 4 32 := ElemTy.of Tryz.underlying76 (z := .agg #[.int .u64 0, .int .u64 0, .int .u64 0, .int .u64 0]) (by kernel_rfl) rfl (by omega)
end Go.Proofs.YthggdacincfplaaGreatDoor
