/- Reading notes and witnesses: the data, the state of Decode, readNote. -/
import Derived.Test.YtphacfkcifpobaaGreatDoorM05
import Derived.Deep.Cut
import Derived.Deep.CutRange
import Derived.Test.YtphacfkcifpobaaGreatDoorM01
import Derived.Test.YtphacfkcifpobaaGreatDoorM04
import Derived.Test.YtphacfkcifpobaaGreatDoorM03
import Derived.Laws.BytesArg
import Derived.MapKept
set_option maxRecDepth 100000
namespace Go.Proofs.YtphacfkcifpobaaGreatDoor
open Go.ChangeShapes Go.WideShapes Go.ChangeAt Go.RowKit
def RdM.n1 (r : RdM) : RdM := (r.uint 4294967295).2
def RdM.n2 (r : RdM) : RdM := (r.n1.uint 18446744069414584320).2
def RdM.n3 (r : RdM) : RdM := (r.n2.uint 18446744069414584320).2
def RdM.n4 (r : RdM) : RdM := (r.n3.uint 18446744069414584320).2
def RdM.note (r : RdM) : NoteM := ⟨(r.uint 4294967295).1, (r.n1.uint 18446744069414584320).1, (r.n2.uint 18446744069414584320).1, (r.n3.uint 18446744069414584320).1⟩
def RdM.s1 (r : RdM) : RdM := (r.n4.uint 18446744069414584320).2
def RdM.s2 (r : RdM) : RdM := (r.s1.int 3).2
def RdM.s3 (r : RdM) : RdM := (r.s2.int 4095).2
def RdM.s4 (r : RdM) : RdM := (r.s3.list 12 18446744069414584321).2
def RdM.s5 (r : RdM) : RdM := (r.s4.int 1).2
def RdM.spent (r : RdM) : SpentM := ⟨r.note, (r.n4.uint 18446744069414584320).1, (r.s1.int 3).1, (r.s2.int 4095).1, (r.s3.list 12 18446744069414584321).1, (r.s4.int 1).1 == 1⟩
def RdM.spents : Nat → RdM → List SpentM → List SpentM × RdM
 | 0, r, acc => (acc, r)
 | k + 1, r, acc => RdM.spents k r.s5 (acc ++ [r.spent])
def RdM.notes : Nat → RdM → List NoteM → List NoteM × RdM
 | 0, r, acc => (acc, r)
 | k + 1, r, acc => RdM.notes k r.n4 (acc ++ [r.note])
set_option maxHeartbeats 1000000 in
theorem readNote_any (w : World) (p : Nat) (r : RdM) (h : RdAt p w r) : Calls Tryz.prog 378 #[.pointer (some ⟨p, 0, none⟩)] w
   fun e w' => e = .returned (.agg #[.int .u64 r.note.value, .int .u64 r.note.owner, .int .u64 r.note.rho, .int .u64 r.note.blind]) ∧ RdTo p w r.n4 w' ∧ NoteOk r.note := by
 have hlt := h.lt; have hb0 := bnew (Below.refl w.heap.size w) (.cells #[.int .u64 0, .int .u64 0, .int .u64 0, .int .u64 0] 96); have HX := Lib.hid (box_new w (.cells #[.int .u64 0, .int .u64 0, .int .u64 0, .int .u64 0] 96)); have H0 := Lib.hid (h.keep hb0); have HB0 := Lib.hid hb0; clear hb0 h
 go_enter Tryz.func378, Tryz.ntmps378
 go_wp2_with fail
 refine (rdUint_any _ p r H0.out 4294967295 (by omega)).mono ?_
 rintro e w1 ⟨rfl, h1, a0, a1⟩; go_wp2_with fail
 refine (rdUint_any w1 p r.n1 h1.1 18446744069414584320 (by omega)).mono ?_
 rintro e w2 ⟨rfl, h2, b0, b1⟩; go_wp2_with fail
 refine (rdUint_any w2 p r.n2 h2.1 18446744069414584320 (by omega)).mono ?_
 rintro e w3 ⟨rfl, h3, c0, c1⟩; go_wp2_with fail
 refine (rdUint_any w3 p r.n3 h3.1 18446744069414584320 (by omega)).mono ?_
 rintro e w4 ⟨rfl, h4, d0, d1⟩; have hk := kept_next (kept_next h1.2 h2.2) (kept_next h3.2 h4.2)
 have hx4 := box_kept hk HX.out (by omega)
 obtain ⟨x0, x1⟩ := box_cells hx4
 have HN : Hid (NoteOk r.note) := ⟨okU_of a0 (Int.lt_of_le_of_lt a1 (by omega)), okU_of b0 (Int.lt_of_le_of_lt b1 (by omega)), okU_of c0 (Int.lt_of_le_of_lt c1 (by omega)), okU_of d0 (Int.lt_of_le_of_lt d1 (by omega))⟩
 have HT : Hid (RdAt p w4 r.n4) := h4.1
 have HK : Hid (Kept (fun k => k ≠ p) w w4) := kept_next (Kept.of_below HB0.out) hk
 have e1 : r.note.value = (r.uint 4294967295).1 := rfl; have e2 : r.note.owner = (r.n1.uint 18446744069414584320).1 := rfl; have e3 : r.note.rho = (r.n2.uint 18446744069414584320).1 := rfl; have e4 : r.note.blind = (r.n3.uint 18446744069414584320).1 := rfl; rw [← e1, ← e2, ← e3, ← e4]; clear e1 e2 e3 e4 a0 a1 b0 b1 c0 c1 d0 d1 h1 h2 h3 h4 hk; obtain ⟨n, hn⟩ : ∃ n, r.note = n := ⟨_, rfl⟩; have HNE := Lib.hid hn; rw [hn] at HN ⊢; clear hn; have hf4 := box_set (i := 3) (v := .int .u64 n.blind) (box_set (i := 2) (v := .int .u64 n.rho) (box_set (i := 1) (v := .int .u64 n.owner) (box_set (i := 0) (v := .int .u64 n.value) hx4))); obtain ⟨z0, -⟩ := box_cells hf4; have k0 := z0 0; have k1 := z0 1; have k2 := z0 2; have k3 := z0 3
 simp at k0 k1 k2 k3
 clear z0 hf4 hx4; go_wp2_with fail
 refine bodyPost_ret (v := .agg #[.int .u64 n.value, .int .u64 n.owner, .int .u64 n.rho, .int .u64 n.blind]) (by simp [results, Tryz.results378, go_sem, k0, k1, k2, k3]) rfl ⟨by rw [HNE.out], ⟨?_, ?_⟩, by rw [HNE.out]; exact HN.out⟩
 · exact HT.out.kept (((((Kept.refl _ _).setCell (fun _ h => by have h' : w.heap.size ≤ p := h; omega) _).setCell (fun _ h => by have h' : w.heap.size ≤ p := h; omega) _).setCell (fun _ h => by have h' : w.heap.size ≤ p := h; omega) _).setCell (fun _ h => by have h' : w.heap.size ≤ p := h; omega) _)
 · exact ((((HK.out.setCell (fun h => absurd h (Nat.lt_irrefl _)) _).setCell (fun h => absurd h (Nat.lt_irrefl _)) _).setCell (fun h => absurd h (Nat.lt_irrefl _)) _).setCell (fun h => absurd h (Nat.lt_irrefl _)) _)
structure DecAt (w : World) (p q B : Nat) (v1 v2 : Value) (sec : Int) (rd : RdM) (wr : World) : Prop where
 below : Below w.heap.size w wr
 rd : RdAt p wr rd
 box : wr.heap[q]? = some (.cells #[v1, v2, .int .u64 sec] 248 (0, 0))
 res : wr.heap[w.heap.size]? = some (.cells #[.slice none 0 0, .slice none 0 0, .int .u64 0] 248 (0, 0))
 base : B ≤ wr.heap.size
structure DecLay (w : World) (p q B : Nat) : Prop where
 wp : w.heap.size < p
 wq : w.heap.size < q
 pB : p < B
 qB : q < B
 pq : p < q
theorem DecAt.kept {w wr w2 : World} {p q B : Nat} {v1 v2 : Value} {sec : Int} {rd : RdM} (L : DecLay w p q B) (h : DecAt w p q B v1 v2 sec rd wr) (hk : Kept (fun k => k < B) wr w2) : DecAt w p q B v1 v2 sec rd w2 :=
 have := L.wp; have := L.wq; have := L.pB; have := L.qB
 ⟨Kept.behind h.below (hk.mono (S' := fun k => k < B) fun _ _ h => h) h.below.size (fun k hk => by omega), h.rd.kept (hk.mono fun k _ h => by omega), box_kept hk h.box L.qB, box_kept hk h.res (by omega), Nat.le_trans h.base hk.size⟩
theorem DecAt.keepB {w wr w2 : World} {p q B : Nat} {v1 v2 : Value} {sec : Int} {rd : RdM} (L : DecLay w p q B) (h : DecAt w p q B v1 v2 sec rd wr) (hb : Below wr.heap.size wr w2) : DecAt w p q B v1 v2 sec rd w2 := h.kept L (Kept.of_below hb)
theorem DecAt.read {w wr w2 : World} {p q B : Nat} {v1 v2 : Value} {sec : Int} {rd rd' : RdM} (L : DecLay w p q B) (h : DecAt w p q B v1 v2 sec rd wr) (hr : RdTo p wr rd' w2) : DecAt w p q B v1 v2 sec rd' w2 :=
 have := L.wp; have := L.wq; have := L.pB; have := L.qB; have := L.pq
 ⟨Kept.behind h.below hr.2 h.below.size (fun k hk => by omega), hr.1, box_kept hr.2 h.box (by omega), box_kept hr.2 h.res (by omega), Nat.le_trans h.base hr.2.size⟩
theorem DecAt.store {w wr : World} {p q B : Nat} {v1 v2 u1 u2 : Value} {sec usec : Int} {rd : RdM} (L : DecLay w p q B) (h : DecAt w p q B v1 v2 sec rd wr) (i : Nat) (v : Value) (hv : (#[v1, v2, .int .u64 sec] : Array Value).setIfInBounds i v = #[u1, u2, .int .u64 usec]) : DecAt w p q B u1 u2 usec rd (wr.setCell ⟨q, i, none⟩ v) :=
 have := L.wp; have := L.wq; have := L.pB; have := L.qB; have := L.pq
 have hk : Kept (fun k => k ≤ p) wr (wr.setCell ⟨q, i, none⟩ v) := (Kept.refl _ _).setCell (fun _ h => by have h' : q ≤ p := h; omega) _
 ⟨h.below.setCell (by show w.heap.size ≤ q; omega) _, h.rd.kept hk, hv ▸ box_set h.box, box_set_far h.res (show w.heap.size ≠ q by omega), by rw [World.size_setCell]; exact h.base⟩
theorem DecAt.drew {w wr : World} {p q B : Nat} {v1 v2 : Value} {sec : Int} {rd : RdM} (L : DecLay w p q B) (h : DecAt w p q B v1 v2 sec rd wr) : DecAt w p q B v1 v2 sec rd wr.drew := h.keepB L (Below.refl _ _).drew
theorem Tryz.etySpent : ElemTy Tryz.prog 196 266 9 88 := ElemTy.of Tryz.underlying196 (z := .agg #[.int .u64 0, .int .u64 0, .int .u64 0, .int .u64 0, .int .u64 0, .int .i64 0, .int .i64 0, .slice none 0 0, .bool false]) (by kernel_rfl) rfl (by omega)
theorem Tryz.etyNote : ElemTy Tryz.prog 246 96 4 32 := ElemTy.of Tryz.underlying246 (z := .agg #[.int .u64 0, .int .u64 0, .int .u64 0, .int .u64 0]) (by kernel_rfl) rfl (by omega)
end Go.Proofs.YtphacfkcifpobaaGreatDoor
/- Decode. -/
namespace Go.Proofs.YtphacfkcifpobaaGreatDoor
open Go.ChangeShapes Go.WideShapes Go.ChangeAt Go.RowKit
abbrev SpOwn (B : Nat) (w : World) (v : Value) (l : List SpentM) : Prop := Own spentR B 266 (fun x => False ∨ B ≤ x) w v l
abbrev NtOwn (B : Nat) (w : World) (v : Value) (l : List NoteM) : Prop := Own noteR B 96 (fun x => False ∨ B ≤ x) w v l
theorem SpOwn.read {B p : Nat} {w w2 : World} {v : Value} {l : List SpentM} {rd : RdM} (h : SpOwn B w v l) (hp : p < B) (hr : RdTo p w rd w2) : SpOwn B w2 v l := h.keep (hr.2.mono fun k _ h => by rcases h with h | h; exact h.elim; omega)
theorem NtOwn.read {B p : Nat} {w w2 : World} {v : Value} {l : List NoteM} {rd : RdM} (h : NtOwn B w v l) (hp : p < B) (hr : RdTo p w rd w2) : NtOwn B w2 v l := h.keep (hr.2.mono fun k _ h => by rcases h with h | h; exact h.elim; omega)
theorem SpOwn.store {B q : Nat} {w : World} {v : Value} {l : List SpentM} (h : SpOwn B w v l) (hq : q < B) (i : Nat) (u : Value) : SpOwn B (w.setCell ⟨q, i, none⟩ u) v l := h.keep ((Kept.refl _ _).setCell (fun _ h => by have h' : False ∨ B ≤ q := h; rcases h' with h' | h'; exact h'; omega) _)
theorem NtOwn.store {B q : Nat} {w : World} {v : Value} {l : List NoteM} (h : NtOwn B w v l) (hq : q < B) (i : Nat) (u : Value) : NtOwn B (w.setCell ⟨q, i, none⟩ u) v l := h.keep ((Kept.refl _ _).setCell (fun _ h => by have h' : False ∨ B ≤ q := h; rcases h' with h' | h'; exact h'; omega) _)
def decodeS (bs : List Int) : Option WitM :=
 match RdM.spents (RdM.int ⟨bs, 0, false⟩ 4).1.toNat (RdM.int ⟨bs, 0, false⟩ 4).2 [] with
 | (ins, r) => match RdM.notes (r.int 4).1.toNat (r.int 4).2 [] with
   | (outs, r') => if (r'.uint 18446744069414584320).2.done = true then some ⟨ins, outs, (r'.uint 18446744069414584320).1⟩ else none
def DecOut (bs : List Int) (w : World) (e : Ending) (w' : World) : Prop :=
 match decodeS bs with
 | none => e = .returned (.tuple #[.agg #[.slice none 0 0, .slice none 0 0, .int .u64 0], .int .i64 2]) ∧ Below w.heap.size w w'
 | some t => ∃ a1 c1 a2 c2, e = .returned (.tuple #[.agg #[.slice a1 t.ins.length c1, .slice a2 t.outs.length c2, .int .u64 t.secret], .int .i64 0]) ∧
     spentsR.rel (fun _ => True) w' [.slice a1 t.ins.length c1] t.ins ∧ notesR.rel (fun _ => True) w' [.slice a2 t.outs.length c2] t.outs ∧ okU t.secret ∧ Below w.heap.size w w'
set_option maxHeartbeats 8000000 in
theorem decode_any (w : World) (a : Option Addr) (cap : Nat) (bs : List Int) (S : Nat → Prop) (h : bytesR.rel S w [.slice a bs.length cap] bs) (hx : bs.length ≤ 1000000) :
   Calls Tryz.prog 320 #[.slice a bs.length cap] w (DecOut bs w) := by
 have hb0 := bnew (Below.refl w.heap.size w) (.cells #[.slice none 0 0, .slice none 0 0, .int .u64 0] 248); have HX := Lib.hid (box_new w (.cells #[.slice none 0 0, .slice none 0 0, .int .u64 0] 248)); have H := Lib.hid (bytesR.keepB h hb0); have HB0 := Lib.hid hb0; have hs0 : (w.alloc (.cells #[.slice none 0 0, .slice none 0 0, .int .u64 0] 248)).heap.size = w.heap.size + 1 := World.size_alloc ..; have HS0 := Lib.hid hs0; clear hb0 h hs0
 go_enter Tryz.func320, Tryz.ntmps320
 go_wp2_with fail
 refine (newReader_any S _ a cap bs H.out hx).mono ?_
 rintro e w1 ⟨p, rfl, hp1, hrd1, hb1⟩
 have hlay : DecLay w p w1.heap.size (w1.heap.size + 1) := by
   have h1 := HS0.out; have h2 := hrd1.lt; rw [h1] at hp1
   exact ⟨by omega, by omega, by omega, by omega, by omega⟩
 have hbq := bnew (Below.refl w1.heap.size w1) (.cells #[.slice none 0 0, .slice none 0 0, .int .u64 0] 248)
 have hd : DecAt w p w1.heap.size (w1.heap.size + 1) (.slice none 0 0) (.slice none 0 0) 0 ⟨bs, 0, false⟩ (w1.alloc (.cells #[.slice none 0 0, .slice none 0 0, .int .u64 0] 248)) :=
   ⟨bnext (bnext HB0.out hb1) hbq, hrd1.keep hbq, box_new _ _, box_old (box_after hb1 HX.out), by rw [World.size_alloc]; exact Nat.le_refl _⟩
 have HD := Lib.hid hd; have HL := Lib.hid hlay; clear hd hlay hbq hrd1 hb1 hp1 HX HB0 HS0 H; go_wp2_with fail; generalize w1.alloc (.cells #[.slice none 0 0, .slice none 0 0, .int .u64 0] 248) = W at HD ⊢; generalize hq : w1.heap.size = q at *; generalize hBq : q + 1 = B at *
 refine (rdInt_any W p _ HD.out.rd 4 (by omega) (by omega)).mono ?_
 rintro e w2 ⟨rfl, h2, n0, n1⟩; have HD2 := Lib.hid (HD.out.read HL.out h2); obtain ⟨N, hN⟩ := Int.eq_ofNat_of_zero_le n0; have HN := Lib.hid hN; rw [hN] at n1 ⊢; clear hN n0 h2 HD; obtain ⟨r1, hr1⟩ : ∃ r1, (RdM.int ⟨bs, 0, false⟩ 4).2 = r1 := ⟨_, rfl⟩; have HR1 := Lib.hid hr1; rw [hr1] at HD2; clear hr1
 have hN4 : N ≤ 4 := by omega
 go_wp2_with fail
 go_loopw [10] (fun vi wr => ∃ (k : Nat) (rd : RdM) (v : Value) (ins : List SpentM), k ≤ N ∧ vi = .int .i64 k ∧ ins.length = k ∧ DecAt w p q B v (.slice none 0 0) 0 rd wr ∧ SpOwn B wr v ins ∧ Hid (RdM.spents (N - k) rd ins = RdM.spents N r1 [])) (fun vi _ => N - (intOf vi).toNat)
 case atStart => exact ⟨0, r1, .slice none 0 0, [], Nat.zero_le _, rfl, rfl, HD2.out, Own.nil _ _ _ _ _, rfl⟩
 case round =>
   obtain ⟨k, rd, v, ins, hk, rfl, hil, hd, hown, hinv⟩ := hrel
   by_cases hks : k < N
   · obtain ⟨j, hj⟩ : ∃ j, N - k = j + 1 := ⟨N - k - 1, by omega⟩
     have hj2 : N - (k + 1) = j := by omega
     rw [hj] at hinv; have HI : Hid (RdM.spents j rd.s5 (ins ++ [rd.spent]) = RdM.spents N r1 []) := hinv; have HDr := Lib.hid (hd.drew HL.out); have HOr := Lib.hid (show SpOwn B wr.drew v ins from hown.keepB (Below.refl _ _).drew)
     have HLT := Lib.hid (fun k (hk : v.ownBlock = some k) => (hown.lt hk).1)
     obtain ⟨x0, x1⟩ := box_cells hd.box; clear hinv hd hown; go_wp2_with fail
     go_region_law (first
       | (refine step_append_rel (r := spentR) (base := B) (v := v) (u := .slice (some ⟨w7.heap.size, 0, none⟩) 1 1) rfl _ _ rfl Tryz.etySpent rfl rfl (Own.keepB O6.out (bnew (Below.refl _ _) _)) (Src.one (spentR.keepB SREL.out (bnew (Below.refl _ _) _)) (CellsAt.new w7 (spentCells rd.spent pa pc) 266)) (fun k _ h => .inr (Nat.le_trans HDr.out.base h)) (fun k hk h => absurd (HLT.out k hk) (Nat.not_lt.2 h)) (by unfold maxLen; simp; omega) (by simp; omega) (Nat.le_trans G6.out.base (by rw [World.size_alloc]; omega)) ?_
          intro v2 w8 ho8 hk8 hl8
          obtain ⟨a2, cap2, rfl, -, -⟩ := sliceR.form ho8.slice
          have G8 := Lib.hid (DecAt.kept HL.out (DecAt.keepB HL.out G6.out (bnew (Below.refl _ _) _)) (hk8.mono (S' := fun k => k < B) fun k _ hkB he => by have := (Own.lt O6.out he).2.2; omega))
          have O8 : Hid (SpOwn B w8 (.slice a2 (ins ++ [rd.spent]).length cap2) (ins ++ [rd.spent])) := ho8.mono fun k _ h => by
            rcases h with h | h
            · exact h
            · exact .inr (Nat.le_trans G6.out.base (Nat.le_trans (by rw [World.size_alloc]; omega) h))
          obtain ⟨t0, t1⟩ := box_cells G8.out.box)
       | (go_simp; first
         | (go_at_call 378; refine (readNote_any _ p rd HDr.out.rd).mono ?_; rintro e w2 ⟨rfl, g1, okn⟩
            have G1 := Lib.hid (DecAt.read HL.out HDr.out g1); have O1 := Lib.hid (SpOwn.read HOr.out HL.out.pB g1); obtain ⟨y0, y1⟩ := box_cells G1.out.box)
         | (go_at_call 303; refine (rdUint_any _ p rd.n4 G1.out.rd 18446744069414584320 (by omega)).mono ?_; rintro e w3 ⟨rfl, g2, a0, a1⟩
            have G2 : Hid (DecAt w p q B v (.slice none 0 0) 0 rd.s1 w3) := DecAt.read HL.out G1.out g2; have O2 := Lib.hid (SpOwn.read O1.out HL.out.pB g2); obtain ⟨z0, z1⟩ := box_cells G2.out.box)
         | (go_at_call_of 305 (Value.int IntKind.i64 3); refine (rdInt_any _ p rd.s1 G2.out.rd 3 (by omega) (by omega)).mono ?_; rintro e w4 ⟨rfl, g3, b0, b1⟩
            have G3 : Hid (DecAt w p q B v (.slice none 0 0) 0 rd.s2 w4) := DecAt.read HL.out G2.out g3; have O3 := Lib.hid (SpOwn.read O2.out HL.out.pB g3); obtain ⟨m0, m1⟩ := box_cells G3.out.box)
         | (go_at_call_of 305 (Value.int IntKind.i64 4095); refine (rdInt_any _ p rd.s2 G3.out.rd 4095 (by omega) (by omega)).mono ?_; rintro e w5 ⟨rfl, g4, c0, c1⟩
            have G4 : Hid (DecAt w p q B v (.slice none 0 0) 0 rd.s3 w5) := DecAt.read HL.out G3.out g4; have O4 := Lib.hid (SpOwn.read O3.out HL.out.pB g4); obtain ⟨l0, l1⟩ := box_cells G4.out.box)
         | (go_at_call 304; refine (rdList_any _ p rd.s3 G4.out.rd 12 18446744069414584321 (by omega) (by omega)).mono ?_; rintro e w6 ⟨pa, pc, rfl, hpath, g5⟩
            have G5 : Hid (DecAt w p q B v (.slice none 0 0) 0 rd.s4 w6) := DecAt.read HL.out G4.out g5; have O5 := Lib.hid (SpOwn.read O4.out HL.out.pB g5); obtain ⟨i0, i1⟩ := box_cells G5.out.box; have HPATH := Lib.hid hpath; clear hpath)
         | (go_at_call_of 305 (Value.int IntKind.i64 1); refine (rdInt_any _ p rd.s4 G5.out.rd 1 (by omega) (by omega)).mono ?_; rintro e w7 ⟨rfl, g6, d0, d1⟩
            have G6 : Hid (DecAt w p q B v (.slice none 0 0) 0 rd.s5 w7) := DecAt.read HL.out G5.out g6; have O6 := Lib.hid (SpOwn.read O5.out HL.out.pB g6); obtain ⟨k0, k1⟩ := box_cells G6.out.box; have kk := fun o' => (box_cells (box_old (o' := o') G6.out.box)).1
            have SREL : Hid (spentR.rel (fun k => wr.heap.size ≤ k) w7 (spentCells rd.spent pa pc) rd.spent) :=
              spentR.mk (s := rd.spent) ⟨okn, okU_of a0 (Int.lt_of_le_of_lt a1 (by omega)), okI_of (Int.le_trans (by omega) b0) (Int.lt_of_le_of_lt b1 (by omega)), okI_of (Int.le_trans (by omega) c0) (Int.lt_of_le_of_lt c1 (by omega))⟩
                (numsR.mono (numsR.keep HPATH.out (g6.2.mono fun k _ h => Nat.ne_of_gt (Nat.lt_of_lt_of_le HL.out.pB (Nat.le_trans G4.out.base h)))) fun k _ h => Nat.le_trans (Nat.le_trans (show wr.heap.size ≤ w2.heap.size from g1.2.size) (Nat.le_trans g2.2.size (Nat.le_trans g3.2.size g4.2.size))) h))))
     all_goals
       have HFIN := Lib.hid (DecAt.store HL.out G8.out 0 (.slice a2 (ins ++ [rd.spent]).length cap2) rfl); have O9 := Lib.hid (SpOwn.store O8.out HL.out.qB 0 (.slice a2 (ins ++ [rd.spent]).length cap2)); go_wp2_with fail
       go_roundw
       case rel => exact ⟨k + 1, rd.s5, .slice a2 (ins ++ [rd.spent]).length cap2, ins ++ [rd.spent], by omega, by go_num, by rw [List.length_append, hil]; rfl, by simpa [hil] using HFIN.out, by simpa [hil] using O9.out, by rw [hj2]; exact HI⟩
       case measure => simp [intOf]; omega
   · obtain rfl : k = N := by omega
     subst hil; rw [Nat.sub_self] at hinv; have HI1 : Hid (RdM.spents ins.length r1 [] = (ins, rd)) := hinv.out.symm; have hCB := hd.base; have HINS := Lib.hid (spentsR.bound hown.slice); obtain ⟨a1, c1, rfl, -, -⟩ := sliceR.form hown.slice; obtain ⟨C, hC⟩ : ∃ C, wr.heap.size = C := ⟨_, rfl⟩; rw [hC] at hCB
     have HINS2 : Hid (spentsR.rel (fun x => B ≤ x ∧ x < C) wr [.slice a1 ins.length c1] ins) := spentsR.mono HINS.out fun x _ h => ⟨h.1.resolve_left id, by rw [← hC]; exact h.2⟩
     have HDw := Lib.hid hd
     have hCw : C ≤ wr.heap.size := by omega
     clear hinv hd hown HINS hC HD2; go_wp2_with fail
     refine (rdInt_any wr p rd HDw.out.rd 4 (by omega) (by omega)).mono ?_
     rintro e w3 ⟨rfl, h3, n2, n3⟩; have HD3 := Lib.hid (HDw.out.read HL.out h3)
     have HI3 : Hid (spentsR.rel (fun x => B ≤ x ∧ x < C) w3 [.slice a1 ins.length c1] ins) := spentsR.keep HINS2.out (h3.2.mono fun x _ h => Nat.ne_of_gt (Nat.lt_of_lt_of_le HL.out.pB h.1))
     have hC3 : C ≤ w3.heap.size := Nat.le_trans hCw h3.2.size; obtain ⟨M, hM⟩ := Int.eq_ofNat_of_zero_le n2; have HM := Lib.hid hM; rw [hM] at n3 ⊢; clear hM n2 h3 HDw HINS2; obtain ⟨r2, hr2⟩ : ∃ r2, (rd.int 4).2 = r2 := ⟨_, rfl⟩; have HR2 := Lib.hid hr2; rw [hr2] at HD3; clear hr2
     have hM4 : M ≤ 4 := by omega
     go_wp2_with fail
     go_loopw [34] (fun vi wr => ∃ (k : Nat) (rd : RdM) (v : Value) (outs : List NoteM), k ≤ M ∧ vi = .int .i64 k ∧ outs.length = k ∧ DecAt w p q B (.slice a1 ins.length c1) v 0 rd wr ∧ NtOwn C wr v outs ∧ spentsR.rel (fun x => B ≤ x ∧ x < C) wr [.slice a1 ins.length c1] ins ∧ C ≤ wr.heap.size ∧ Hid (RdM.notes (M - k) rd outs = RdM.notes M r2 [])) (fun vi _ => M - (intOf vi).toNat)
     case atStart => exact ⟨0, r2, .slice none 0 0, [], Nat.zero_le _, rfl, rfl, HD3.out, Own.nil _ _ _ _ _, HI3.out, hC3, rfl⟩
     case round =>
       obtain ⟨k2, rd2, v, outs, hk2, rfl, hol, hd, hown, hins, hCr, hinv⟩ := hrel
       by_cases hks2 : k2 < M
       · obtain ⟨j, hj⟩ : ∃ j, M - k2 = j + 1 := ⟨M - k2 - 1, by omega⟩
         have hj2 : M - (k2 + 1) = j := by omega
         rw [hj] at hinv; have HI : Hid (RdM.notes j rd2.n4 (outs ++ [rd2.note]) = RdM.notes M r2 []) := hinv; have HDr := Lib.hid (hd.drew HL.out); have HOr := Lib.hid (show NtOwn C wr.drew v outs from hown.keepB (Below.refl _ _).drew); have HIr := Lib.hid (spentsR.keepB hins (Below.refl _ _).drew); obtain ⟨x0, x1⟩ := box_cells hd.box; clear hinv hd hown hins
         have HLT := Lib.hid (fun k (hk : v.ownBlock = some k) => (HOr.out.lt hk).1)
         go_wp2_with fail
         go_region_law (first
           | (refine step_append_rel (r := noteR) (base := C) (v := v) (u := .slice (some ⟨w4.heap.size, 0, none⟩) 1 1) (S := fun _ => False) rfl _ _ rfl Tryz.etyNote rfl rfl (Own.keepB O1.out (bnew (Below.refl _ _) _)) (Src.one (noteR.mk okn) (CellsAt.new w4 [.int .u64 rd2.note.value, .int .u64 rd2.note.owner, .int .u64 rd2.note.rho, .int .u64 rd2.note.blind] 96)) (fun k _ h => h.elim) (fun k hk h => h) (by unfold maxLen; simp; omega) (by simp; omega) (Nat.le_trans hC4 (by rw [World.size_alloc]; omega)) ?_
              intro v2 w8 ho8 hk8 hl8
              obtain ⟨a2, cap2, rfl, -, -⟩ := sliceR.form ho8.slice
              have hk9 : Kept (fun k => k < C) (w4.alloc (.cells #[.int .u64 rd2.note.value, .int .u64 rd2.note.owner, .int .u64 rd2.note.rho, .int .u64 rd2.note.blind] 96)) w8 := hk8.mono fun k _ hkC he => by have := (Own.lt O1.out he).2.2; omega
              have G8 := Lib.hid (DecAt.kept HL.out (DecAt.keepB HL.out G1.out (bnew (Below.refl _ _) _)) (hk9.mono (S' := fun k => k < B) fun k _ hkB => Nat.lt_of_lt_of_le hkB hCB))
              have I8 := Lib.hid (spentsR.keep (spentsR.keepB I1.out (bnew (Below.refl _ _) _)) (hk9.mono fun k _ h => h.2))
              have hC8 : C ≤ w8.heap.size := Nat.le_trans hC4 (Nat.le_trans (by rw [World.size_alloc]; omega) hk9.size)
              have O8 : Hid (NtOwn C w8 (.slice a2 (outs ++ [rd2.note]).length cap2) (outs ++ [rd2.note])) := ho8.mono fun k _ h => by
                rcases h with h | h
                · exact h
                · exact .inr (Nat.le_trans hC4 (Nat.le_trans (by rw [World.size_alloc]; omega) h))
              obtain ⟨t0, t1⟩ := box_cells G8.out.box)
           | (go_simp; go_at_call 378; refine (readNote_any _ p rd2 HDr.out.rd).mono ?_; rintro e w4 ⟨rfl, g1, okn⟩
              have G1 := Lib.hid (DecAt.read HL.out HDr.out g1); have O1 := Lib.hid (NtOwn.read HOr.out (Nat.lt_of_lt_of_le HL.out.pB hCB) g1); obtain ⟨y0, y1⟩ := box_cells G1.out.box; have yy := fun o' => (box_cells (box_old (o' := o') G1.out.box)).1
              have hC4 : C ≤ w4.heap.size := Nat.le_trans hCr g1.2.size
              have I1 := Lib.hid (spentsR.keep HIr.out (g1.2.mono fun x _ h => Nat.ne_of_gt (Nat.lt_of_lt_of_le HL.out.pB h.1)))))
         all_goals
           have HFIN := Lib.hid (DecAt.store HL.out G8.out 1 (.slice a2 (outs ++ [rd2.note]).length cap2) rfl); have O9 := Lib.hid (NtOwn.store O8.out (Nat.lt_of_lt_of_le HL.out.qB hCB) 1 (.slice a2 (outs ++ [rd2.note]).length cap2))
           have I9 := Lib.hid (spentsR.keep I8.out ((Kept.refl _ w8).setCell (p := ⟨q, 1, none⟩) (fun _ h => by have h' : B ≤ q ∧ q < C := h; have := HL.out.qB; omega) (.slice a2 (outs ++ [rd2.note]).length cap2)))
           have hC9 : C ≤ (w8.setCell ⟨q, 1, none⟩ (.slice a2 (outs ++ [rd2.note]).length cap2)).heap.size := by rw [World.size_setCell]; exact hC8
           go_wp2_with fail
           go_roundw
           case rel => exact ⟨k2 + 1, rd2.n4, .slice a2 (outs ++ [rd2.note]).length cap2, outs ++ [rd2.note], by omega, by go_num, by rw [List.length_append, hol]; rfl, by simpa [hol] using HFIN.out, by simpa [hol] using O9.out, by simpa [hol] using I9.out, by simpa [hol] using hC9, by rw [hj2]; exact HI⟩
           case measure => simp [intOf]; omega
       · obtain rfl : k2 = M := by omega
         subst hol; rw [Nat.sub_self] at hinv; have HI2 : Hid (RdM.notes outs.length r2 [] = (outs, rd2)) := hinv.out.symm; obtain ⟨a2, c2, rfl, -, -⟩ := sliceR.form hown.slice
         have HNT := Lib.hid (notesR.mono hown.slice (S' := fun k => C ≤ k) fun x _ h => h.resolve_left id)
         have HIN := Lib.hid hins; have HDw := Lib.hid hd
         have HDEC : Hid (decodeS bs = if (rd2.uint 18446744069414584320).2.done = true then some ⟨ins, outs, (rd2.uint 18446744069414584320).1⟩ else none) := by
           show _ = _
           unfold decodeS; rw [HN.out, HR1.out, Int.toNat_natCast, HI1.out]
           simp only
           rw [HM.out, HR2.out, Int.toNat_natCast, HI2.out]
         clear hinv hd hown hins HD3 HI3; go_wp2_with fail
         refine (rdUint_any _ p rd2 HDw.out.rd 18446744069414584320 (by omega)).mono ?_
         rintro e w5 ⟨rfl, h5, s0, s1⟩; have HD5 := Lib.hid (HDw.out.read HL.out h5)
         have HN5 := Lib.hid (notesR.keep HNT.out (h5.2.mono fun x _ h => Nat.ne_of_gt (Nat.lt_of_lt_of_le HL.out.pB (Nat.le_trans hCB h))))
         have HI5 := Lib.hid (spentsR.keep HIN.out (h5.2.mono fun x _ h => Nat.ne_of_gt (Nat.lt_of_lt_of_le HL.out.pB h.1)))
         generalize rd2.uint 18446744069414584320 = t at *; obtain ⟨sec, r5⟩ := t
         simp only at HD5 HDEC s0 s1 ⊢
         obtain ⟨t0, t1⟩ := box_cells HD5.out.box; have HD6 := Lib.hid (DecAt.store HL.out HD5.out 2 (.int .u64 sec) (u1 := .slice a1 ins.length c1) (u2 := .slice a2 outs.length c2) (usec := sec) rfl)
         have hk6 : Kept (fun k => B ≤ k) w5 (w5.setCell ⟨q, 2, none⟩ (.int .u64 sec)) := (Kept.refl _ _).setCell (fun _ h => by have h' : B ≤ q := h; have := HL.out.qB; omega) _
         have HN6 := Lib.hid (notesR.keep HN5.out (hk6.mono fun k _ h => Nat.le_trans hCB h))
         have HI6 := Lib.hid (spentsR.keep HI5.out (hk6.mono fun k _ h => h.1))
         clear hk6 h5; go_wp2_with fail; generalize w5.setCell ⟨q, 2, none⟩ (.int .u64 sec) = w6 at *
         refine (done_any _ p r5 HD6.out.rd).mono ?_
         rintro e w7 ⟨rfl, hb7⟩; have HD7 := Lib.hid (HD6.out.keepB HL.out hb7); have HN7 := Lib.hid (notesR.keepB HN6.out hb7); have HI7 := Lib.hid (spentsR.keepB HI6.out hb7); clear t0 t1; obtain ⟨t0, t1⟩ := box_cells HD7.out.box; obtain ⟨f0, f1⟩ := box_cells HD7.out.res; have HB7 := Lib.hid HD7.out.below
         cases hdn : r5.done with
         | true =>
           have HV : Hid (decodeS bs = some ⟨ins, outs, sec⟩) := by show _ = _; rw [HDEC.out, hdn]; rfl
           obtain ⟨r0, r1', r2'⟩ := read3 (x := .slice a1 ins.length c1) (y := .slice a2 outs.length c2) (z := .int .u64 sec) (f0 0) (f0 1) (f0 2); go_wp2_with fail
           refine bodyPost_ret (v := .tuple #[.agg #[.slice a1 ins.length c1, .slice a2 outs.length c2, .int .u64 sec], .int .i64 0]) (by simp [results, Tryz.results320, go_sem, r0, r1', r2']) rfl ?_
           have hkf : Kept (fun k => B ≤ k) w7 (((w7.setCell ⟨w.heap.size, 0, none⟩ (.slice a1 ins.length c1)).setCell ⟨w.heap.size, 1, none⟩ (.slice a2 outs.length c2)).setCell ⟨w.heap.size, 2, none⟩ (.int .u64 sec)) := by
             have hn : w.heap.size < w7.heap.size → ¬ B ≤ w.heap.size := fun _ h => by have := HL.out.wq; have := HL.out.qB; omega
             exact (((Kept.refl _ _).setCell hn _).setCell hn _).setCell hn _
           unfold DecOut; rw [HV.out]
           exact ⟨a1, c1, a2, c2, rfl, spentsR.mono (spentsR.keep HI7.out (hkf.mono fun k _ h => h.1)) fun _ _ _ => trivial, notesR.mono (notesR.keep HN7.out (hkf.mono fun k _ h => Nat.le_trans hCB h)) fun _ _ _ => trivial, okU_of s0 (Int.lt_of_le_of_lt s1 (by omega)),
             ((HB7.out.setCell (Nat.le_refl _) _).setCell (Nat.le_refl _) _).setCell (Nat.le_refl _) _⟩
         | false =>
           have HV : Hid (decodeS bs = none) := by show _ = _; rw [HDEC.out, hdn]; rfl
           obtain ⟨r0, r1', r2'⟩ := read3 (x := .slice none 0 0) (y := .slice none 0 0) (z := .int .u64 0) (f0 0) (f0 1) (f0 2); go_wp2_with fail
           refine bodyPost_ret (v := .tuple #[.agg #[.slice none 0 0, .slice none 0 0, .int .u64 0], .int .i64 2]) (by simp [results, Tryz.results320, go_sem, r0, r1', r2']) rfl ?_
           unfold DecOut; rw [HV.out]
           exact ⟨rfl, ((HB7.out.setCell (Nat.le_refl _) _).setCell (Nat.le_refl _) _).setCell (Nat.le_refl _) _⟩
end Go.Proofs.YtphacfkcifpobaaGreatDoor
/- Oracles: made and asked for their mode. -/
namespace Go.Proofs.YtphacfkcifpobaaGreatDoor
open Go.ChangeShapes Go.WideShapes Go.ChangeAt Go.RowKit
def OrAt (ideal : Bool) (st : Int) (p : Nat) (w : World) : Prop :=
 ∃ mk ms mp, w.heap[p]? = some (.cells #[.bool ideal, .int .u64 st, .int .i64 0, .slice none 0 0, .map (some mk), .map (some ms), .map (some mp)] 70 (0, 0)) ∧
   w.heap[mk]? = some (.map #[] 0) ∧ w.heap[ms]? = some (.map #[] 0) ∧ w.heap[mp]? = some (.map #[] 0)
theorem OrAt.keepB {ideal : Bool} {st : Int} {p : Nat} {w w' : World} (h : OrAt ideal st p w) (hb : Below w.heap.size w w') : OrAt ideal st p w' := by
 obtain ⟨mk, ms, mp, h1, h2, h3, h4⟩ := h
 exact ⟨mk, ms, mp, box_after hb h1, box_after hb h2, box_after hb h3, box_after hb h4⟩
def NewOr (ideal : Bool) (st : Int) (w : World) (e : Ending) (w' : World) : Prop :=
 ∃ p, e = .returned (.pointer (some ⟨p, 0, none⟩)) ∧ w.heap.size ≤ p ∧ OrAt ideal st p w' ∧ Below w.heap.size w w'
theorem four_new (w : World) (a b c d : Obj) : ((((w.alloc a).alloc b).alloc c).alloc d).heap[w.heap.size + 3]? = some d ∧ ((((w.alloc a).alloc b).alloc c).alloc d).heap[w.heap.size + 2]? = some c ∧
   ((((w.alloc a).alloc b).alloc c).alloc d).heap[w.heap.size + 1]? = some b ∧ ((((w.alloc a).alloc b).alloc c).alloc d).heap[w.heap.size]? = some a := by
 have e1 : (w.alloc a).heap.size = w.heap.size + 1 := World.size_alloc ..
 have e2 : ((w.alloc a).alloc b).heap.size = w.heap.size + 2 := by rw [World.size_alloc, e1]
 have e3 : (((w.alloc a).alloc b).alloc c).heap.size = w.heap.size + 3 := by rw [World.size_alloc, e2]
 exact ⟨e3 ▸ box_new _ d, box_old (e2 ▸ box_new _ c), box_old (box_old (e1 ▸ box_new _ b)), box_old (box_old (box_old (box_new _ a)))⟩
set_option maxHeartbeats 1000000 in
theorem newOracle_any (w : World) : Calls Tryz.prog 19 #[] w (NewOr false 0 w) := by
 have hmm := @run_makeMap Tryz.prog; obtain ⟨q1, q2, q3, q4⟩ := four_new w (.map #[] 0) (.map #[] 0) (.map #[] 0) (.cells #[.bool false, .int .u64 0, .int .i64 0, .slice none 0 0, .map (some w.heap.size), .map (some (w.heap.size + 1)), .map (some (w.heap.size + 2))] 70); have Q1 := Lib.hid q1; have Q2 := Lib.hid q2; have Q3 := Lib.hid q3; have Q4 := Lib.hid q4; clear q1 q2 q3 q4
 go_enter Tryz.func19, Tryz.ntmps19
 go_wp2
 go_ret
 exact ⟨w.heap.size + 3, by simp, by omega, ⟨_, _, _, Q1.out, Q4.out, Q3.out, Q2.out⟩, bnew (bnew (bnew (bnew (Below.refl _ _) _) _) _) _⟩
theorem real_any (w : World) : Calls Tryz.prog 5 #[] w (NewOr false 0 w) := by
 go_enter Tryz.func5, Tryz.ntmps5
 go_wp2_with fail
 refine (newOracle_any w).mono ?_
 rintro e w1 ⟨p, rfl, h1, h2, h3⟩
 go_wp2
 go_ret
 exact ⟨p, rfl, h1, h2, h3⟩
theorem isIdeal_any (w : World) (p : Nat) (ideal : Bool) (st : Int) (h : OrAt ideal st p w) : Calls Tryz.prog 21 #[.pointer (some ⟨p, 0, none⟩)] w fun e w' => e = .returned (.bool ideal) ∧ w = w' := by
 obtain ⟨mk, ms, mp, q1, q2, q3, q4⟩ := h; obtain ⟨c0, c1⟩ := box_cells q1; have k0 := c0 0
 simp at k0
 clear c0 q1 q2 q3 q4
 go_enter Tryz.func21, Tryz.ntmps21
 go_wp2
 go_ret
 exact ⟨rfl, rfl⟩
end Go.Proofs.YtphacfkcifpobaaGreatDoor
/- The oracle's answers without asking, where nothing is recorded. -/
namespace Go.Proofs.YtphacfkcifpobaaGreatDoor
open Go.ChangeShapes Go.WideShapes Go.ChangeAt Go.RowKit
set_option maxHeartbeats 1000000 in
theorem appendNumber_any (w0 w : World) (B : Nat) (hb : Below B w0 w) (hB0 : B ≤ w0.heap.size) (v : Value) (xs : List Int) (ho : Own u8R B 5 (fun x => False ∨ B ≤ x) w v xs) (n : Int) (n0 : 0 ≤ n) (n1 : n < 18446744073709551616)
   (hl : xs.length ≤ 1000000000) : Calls Tryz.prog 390 #[v, .int .u64 n] w (GrewTo B w0 (xs ++ digs 8 n)) := by
 go_enter Tryz.func390, Tryz.ntmps390
 go_wp2_with fail
 go_loopw [0, 1, 5] (fun vb vn vi wr => ∃ (k : Nat) (m : Int) (ys : List Int), k ≤ 8 ∧ vi = .int .i64 k ∧ vn = .int .u64 m ∧ 0 ≤ m ∧ m < 18446744073709551616 ∧ ys.length = xs.length + k ∧ Hid (ys ++ digs (8 - k) m = xs ++ digs 8 n) ∧
     Own u8R B 5 (fun x => False ∨ B ≤ x) wr vb ys ∧ Below B w0 wr ∧ B ≤ wr.heap.size) (fun _ _ vi _ => 8 - (intOf vi).toNat)
 case atStart => exact ⟨0, n, xs, Nat.zero_le _, rfl, rfl, n0, n1, rfl, rfl, ho, hb, Nat.le_trans hB0 hb.size⟩
 case round =>
   obtain ⟨k, m, ys, hk, rfl, rfl, m0, m1, hyl, hinv, hor, hbr, hBr⟩ := hrel; have HYL := Lib.hid hyl; clear hyl
   by_cases hlt : k < 8
   · have HI : Hid ((ys ++ [m % 256]) ++ digs (8 - (k + 1)) (m / 256) = xs ++ digs 8 n) := by
       show _ = _
       rw [← hinv.out, List.append_assoc, show 8 - k = (8 - (k + 1)) + 1 by omega]
       rfl
     have hwf : (Lit.int .u8 (m % 256)).wf = true := by
       simp [Lit.wf, IntKind.min, IntKind.max, IntKind.signed, IntKind.bits]; omega
     have hyR : u8R.rel (fun _ => False) wr [.int .u8 (m % 256)] (m % 256) := ⟨rfl, hwf⟩
     have HO := Lib.hid hor; have HY := Lib.hid hyR
     have e2 : 0 ≤ m / 256 := by omega
     have e3 : m / 256 < 18446744073709551616 := by omega
     clear hor hyR hwf
     go_wp2_with (at_builtin; refine wpList_push (r := u8R) (wr := wr) (es := [.int .u8 (m % 256)]) (v := u0) (w0 := w0) (B := B) rfl _ _ rfl Tryz.etyBytes rfl rfl hbr hBr HO.out HY.out (fun x hx => hx.elim) (by unfold maxLen; have := HYL.out; omega) (by have := HYL.out; omega) ?_)
     intro v2 w2 ho2 hb2
     have HZ := Lib.hid (Own.mono ho2 (F' := fun x => False ∨ B ≤ x) fun x _ h => by first | exact h | exact .inr h)
     have hB2 : B ≤ w2.heap.size := Nat.le_trans hB0 hb2.size; clear ho2; go_wp2_with fail
     go_roundw
     case rel => exact ⟨k + 1, m / 256, ys ++ [m % 256], by omega, by go_num, rfl, e2, e3, by rw [List.length_append, HYL.out]; simp; omega, HI, HZ.out, hb2, hB2⟩
     case measure => simp [intOf]; omega
   · obtain rfl : k = 8 := by omega
     have HF : Hid (ys = xs ++ digs 8 n) := by
       show _ = _
       rw [← hinv.out, Nat.sub_self]; simp [digs]
     go_wp2_with fail; go_ret
     exact ⟨_, rfl, by rw [← HF.out]; exact hor, hbr⟩
theorem bytes_string {S : Nat → Prop} {w : World} {v : Value} {ys : List Int} (h : bytesR.rel S w [v] ys) : ∃ s, (convert 49 9 v).run Tryz.prog w = .ok (.string s) w := by
 obtain ⟨a, cap, rfl, -⟩ := sliceR.form h
 cases ys with
 | nil =>
   cases a with
   | none => exact ⟨_, run_convert_bytes_nil (P := Tryz.prog) w 49 5 Tryz.underlying49 Tryz.underlying5 _ _ 9 Tryz.underlying9⟩
   | some ad =>
     refine ⟨(Conv.bytesToString (.slice (some ad) 0 cap)).run Tryz.prog w |> fun _ => ByteArray.empty, ?_⟩
     rw [run_convert_bytes_string (P := Tryz.prog) w 49 9 5 _ _ _ Tryz.underlying49 Tryz.underlying5 Tryz.underlying9]
     have hl : (loadCells ad 0).run Tryz.prog w = .ok #[] w := by simpa using run_loadCells_list (P := Tryz.prog) w ad [] (by simp)
     rw [List.length_nil, run_bytesToString (P := Tryz.prog) w ad 0 cap [] (by simpa using hl)]
     rfl
 | cons y ys =>
   obtain ⟨b, off, es, rfl, -, -, -, -⟩ := sliceR.at h 0 (by simp)
   refine ⟨_, run_convert_bytes_arg (P := Tryz.prog) w 49 5 Tryz.underlying49 Tryz.underlying5 b off (y :: ys).length cap (y :: ys) rfl (fun i hi => ?_) 9 Tryz.underlying9⟩
   obtain ⟨b', off', he, -, -, -, -, hc⟩ := bytes_at h i hi
   simp at he
   obtain ⟨rfl, rfl⟩ := he; rw [hc, getD_at _ _ i hi]
set_option maxHeartbeats 2000000 in
theorem key_any (S S' : Nat → Prop) (w : World) (a b : Option Addr) (ca cb : Nat) (l m : List Int) (h : numsR.rel S w [.slice a l.length ca] l) (h' : numsR.rel S' w [.slice b m.length cb] m) (hl : l.length ≤ 1000) (hm : m.length ≤ 1000) :
   Calls Tryz.prog 334 #[.slice a l.length ca, .slice b m.length cb] w fun e w' => (∃ s, e = .returned (.string s)) ∧ Below w.heap.size w w' := by
 have H := Lib.hid h; have H' := Lib.hid h'; clear h h'
 go_enter Tryz.func334, Tryz.ntmps334
 go_wp2_with (at_make; refine wpList_make_rel rfl _ _ rfl u8R w.heap.size Tryz.etyBytes rfl rfl (n := 8 * (m.length + l.length)) ?_ ?_ ?_ ?_ ?_)
 · go_num
 · omega
 · unfold maxLen; omega
 · exact Nat.le_refl _
 intro w1 ho1 hb1
 have HO1 := Lib.hid (Own.mono ho1 (F' := fun x => False ∨ w.heap.size ≤ x) fun x _ h => .inr (by omega))
 clear ho1; go_wp2_with fail
 go_loopw [5, 19] (fun vb vi wr => ∃ (k : Nat) (ys : List Int), k ≤ m.length ∧ vi = .int .i64 k ∧ ys.length = 8 * k ∧ Own u8R w.heap.size 5 (fun x => False ∨ w.heap.size ≤ x) wr vb ys ∧ Below w.heap.size w wr) (fun _ vi _ => m.length - (intOf vi).toNat)
 case atStart => exact ⟨0, [], Nat.zero_le _, rfl, rfl, HO1.out, hb1⟩
 case round =>
   obtain ⟨k, ys, hk, rfl, hyl, hor, hbr⟩ := hrel
   by_cases hlt : k < m.length
   · obtain ⟨bb, off, rfl, hbl, n0, n1, hc⟩ := nums_at (numsR.keepB H'.out hbr) k hlt
     generalize m[k] = n at *; go_wp2_with fail
     refine (appendNumber_any w wr w.heap.size hbr (Nat.le_refl _) _ ys hor n n0 n1 (by omega)).mono ?_
     rintro e w3 ⟨v3, rfl, ho3, hb3⟩; go_wp2_with fail
     go_roundw
     case rel => exact ⟨k + 1, ys ++ digs 8 n, by omega, by go_num, by rw [List.length_append, digs_len]; omega, ho3, hb3⟩
     case measure => simp [intOf]; omega
   · obtain rfl : k = m.length := by omega
     go_wp2_with fail
     go_loopw [5, 29] (fun vb vi wr => ∃ (k : Nat) (ys : List Int), k ≤ l.length ∧ vi = .int .i64 k ∧ ys.length = 8 * m.length + 8 * k ∧ Own u8R w.heap.size 5 (fun x => False ∨ w.heap.size ≤ x) wr vb ys ∧ Below w.heap.size w wr) (fun _ vi _ => l.length - (intOf vi).toNat)
     case atStart => exact ⟨0, ys, Nat.zero_le _, rfl, by omega, hor, hbr⟩
     case round =>
       clear hor hbr hyl; obtain ⟨k, ys, hk, rfl, hyl, hor, hbr⟩ := hrel
       by_cases hlt : k < l.length
       · obtain ⟨bb, off, rfl, hbl, n0, n1, hc⟩ := nums_at (numsR.keepB H.out hbr) k hlt
         generalize l[k] = n at *; go_wp2_with fail
         refine (appendNumber_any w _ w.heap.size hbr (Nat.le_refl _) _ ys hor n n0 n1 (by omega)).mono ?_
         rintro e w3 ⟨v3, rfl, ho3, hb3⟩; go_wp2_with fail
         go_roundw
         case rel => exact ⟨k + 1, ys ++ digs 8 n, by omega, by go_num, by rw [List.length_append, digs_len]; omega, ho3, hb3⟩
         case measure => simp [intOf]; omega
       · obtain rfl : k = l.length := by omega
         obtain ⟨s, hs⟩ := bytes_string hor.slice; go_wp2_with fail; go_ret
         exact ⟨⟨s, rfl⟩, hbr⟩
end Go.Proofs.YtphacfkcifpobaaGreatDoor
/- Peek. -/
namespace Go.Proofs.YtphacfkcifpobaaGreatDoor
open Go.ChangeShapes Go.WideShapes Go.ChangeAt Go.RowKit
theorem lookup_empty (w : World) (mk : Nat) (h : w.heap[mk]? = some (.map #[] 0)) (s : ByteArray) : (Instr.lookup 66 (.map (some mk)) (.string s) true).run Tryz.prog w = .ok (.tuple #[.int .i64 0, .bool false]) w := by
 have hz : (zeroValue 3).run Tryz.prog w = .ok (.int .i64 0) w := by
   have h0 : (Tryz.prog.info? 3).map (·.zero) = some (some (.int .i64 0)) := by kernel_rfl
   obtain ⟨i, hi, hz⟩ := Option.map_eq_some_iff.1 h0
   simp [zeroValue, typeInfo, hi, hz]
 have hck := MapKept.run_checkKey (P := Tryz.prog) (w := w) (k := .string s) Tryz.underlying9 (by simp [MapKept.IsKey]) true 9999
 have hfk := MapKept.run_findKey (P := Tryz.prog) (w := w) (k := .string s) (l := []) (a := none) Tryz.underlying9 rfl
 simp [Instr.lookup, run_underlying Tryz.underlying66, MapKept.run_getObj_map h, hck, hfk, hz]
theorem key_one (S S' : Nat → Prop) (w : World) (a b : Option Addr) (ca cb : Nat) (l : List Int) (x : Int) (h : numsR.rel S w [.slice a l.length ca] l) (h' : numsR.rel S' w [.slice b 1 cb] [x]) (hl : l.length ≤ 1000) :
   Calls Tryz.prog 334 #[.slice a l.length ca, .slice b 1 cb] w fun e w' => (∃ s, e = .returned (.string s)) ∧ Below w.heap.size w w' := key_any S S' w a b ca cb l [x] h h' hl (by simp)
abbrev PeekS (p mk : Nat) (w w' : World) : Prop := Below w.heap.size w w' ∧ w'.cell? ⟨p, 4, none⟩ = some (.map (some mk)) ∧ w'.heap[mk]? = some (.map #[] 0)
theorem PeekS.drew {p mk : Nat} {w w' : World} (h : PeekS p mk w w') : PeekS p mk w w'.drew := ⟨h.1.drew, h.2.1, h.2.2⟩
theorem PeekS.next {p mk : Nat} {w w1 w2 : World} (h : PeekS p mk w w1) (hb : Below w1.heap.size w1 w2) : PeekS p mk w w2 := ⟨bnext h.1 hb, (hb.cell (cell_lt h.2.1)).trans h.2.1, box_after hb h.2.2⟩
theorem PeekS.alloc {p mk : Nat} {w w1 : World} (h : PeekS p mk w w1) (o : Obj) : PeekS p mk w (w1.alloc o) := h.next (bnew (Below.refl _ _) o)
def peekS (label : Int) (l : List Int) : Int := if elemsB l = true then hashS label l else 0
set_option maxHeartbeats 2000000 in
theorem peek_any (S : Nat → Prop) (w : World) (p : Nat) (st : Int) (ho : OrAt false st p w) (label : Int) (l0 : 0 ≤ label) (l1 : label < 18446744073709551616) (a : Option Addr) (cap : Nat) (l : List Int) (h : numsR.rel S w [.slice a l.length cap] l) (hl : l.length ≤ 1000) :
   Calls Tryz.prog 299 #[.pointer (some ⟨p, 0, none⟩), .int .u64 label, .slice a l.length cap] w fun e w' => e = .returned (.tuple #[.int .u64 (peekS label l), .bool (elemsB l)]) ∧ Below w.heap.size w w' := by
 have H := Lib.hid h; have HO := Lib.hid ho; clear h ho
 go_enter Tryz.func299, Tryz.ntmps299
 go_wp2_with fail
 refine (oelements_any S w a cap l H.out).mono ?_
 rintro e w1 ⟨rfl, hb1⟩
 cases he : elemsB l with
 | false =>
   have HP : Hid (peekS label l = 0) := by show _ = _; unfold peekS; rw [he]; rfl
   go_wp2_with fail; go_ret2; rw [HP.out, he]
   exact ⟨rfl, hb1⟩
 | true =>
   have HP : Hid (peekS label l = hashS label l) := by show _ = _; unfold peekS; rw [he]; rfl
   have HO1 := Lib.hid (HO.out.keepB hb1); obtain ⟨mk, ms, mp, q1, q2, q3, q4⟩ := HO1.out; have hst : PeekS p mk w1 w1 := ⟨Below.refl _ _, (box_cells q1).1 4, q2⟩; have HST := Lib.hid hst; have hlk := @lookup_empty; clear hst q1 q2 q3 q4; have HL : Hid (okU label) := okU_of l0 l1; go_wp2_with fail
   go_cut [8, 9] from 10 (fun v8 v9 wc => v9 = .bool false ∧ Below w1.heap.size w1 wc)
   case first =>
     go_region_held3 (fun w' => Below w1.heap.size w1 w' ∧ w'.cell? ⟨p, 4, none⟩ = some (.map (some mk)) ∧ w'.heap[mk]? = some (.map #[] 0))
       (first
         | with_reducible exact PeekS.drew HST.out
         | with_reducible exact HK.out
         | with_reducible exact PeekS.drew (PeekS.alloc HST.out _))
       (first
         | (go_at_call 334
            refine (key_one S (fun _ => True) _ _ _ _ _ l label (numsR.keepB (numsR.keepB H.out hb1) (‹Below w1.heap.size w1 _ ∧ _›).1) (numsR.keepB (nums_new w1 _ [label] 1 (by intro x hx; simp at hx; subst hx; exact HL.out) (by simp) (by unfold maxLen; omega)) (Below.refl _ _).drew) hl).mono ?_
            rintro e w3 ⟨⟨s, rfl⟩, hbK⟩; have HK := Lib.hid (PeekS.next (‹Below w1.heap.size w1 _ ∧ _› : PeekS p mk w1 _) hbK)))
     go_wp2_with fail
     go_meet
     case rel => exact ⟨rfl, HK.out.1⟩
   case rest =>
     obtain ⟨rfl, hbc⟩ := hcut; have hbw := bnext hb1 hbc; obtain ⟨mk, ms, mp, q1, -⟩ := HO.out.keepB hbw; obtain ⟨c0, c1⟩ := box_cells q1; clear q1; go_wp2_with fail
     refine (Hash_big label l0 S wc a cap l (numsR.keepB H.out hbw) (by omega)).mono ?_
     rintro e w4 ⟨rfl, hb4⟩; go_wp2_with fail; go_ret2; rw [HP.out, he]
     exact ⟨rfl, bnext hbw hb4⟩
end Go.Proofs.YtphacfkcifpobaaGreatDoor
/- Notes: commitments, marks, paths. -/
namespace Go.Proofs.YtphacfkcifpobaaGreatDoor
open Go.ChangeShapes Go.WideShapes Go.ChangeAt Go.RowKit
theorem noteElems_any (w : World) (n : NoteM) (hn : NoteOk n) : Calls Tryz.prog 336 #[.agg #[.int .u64 n.value, .int .u64 n.owner, .int .u64 n.rho, .int .u64 n.blind]] w
   fun e w' => (∃ a cap, e = .returned (.slice a 4 cap) ∧ numsR.rel (fun _ => True) w' [.slice a 4 cap] [n.value, n.owner, n.rho, n.blind]) ∧ Below w.heap.size w w' := by
 have HX := Lib.hid (nums4 (w.alloc (.cells #[.int .u64 n.value, .int .u64 n.owner, .int .u64 n.rho, .int .u64 n.blind] 96)) 24 hn.value hn.owner hn.rho hn.blind); clear hn
 go_enter Tryz.func336, Tryz.ntmps336
 go_wp2_with fail; go_ret
 exact ⟨⟨_, _, rfl, by simpa using HX.out⟩, bnew (bnew (Below.refl _ _) _) _⟩
def commitV (n : NoteM) : Int := if noteB n = true then hashS 2 [n.value, n.owner, n.rho, n.blind] else 0
theorem noteB_elems {n : NoteM} (h : noteB n = true) : elemsB [n.value, n.owner, n.rho, n.blind] = true := by
 unfold noteB at h; rw [decide_eq_true_eq] at h
 simp [elemsB, allUp, elemB]
 omega
set_option maxHeartbeats 1000000 in
theorem commitment_any (w : World) (p : Nat) (st : Int) (ho : OrAt false st p w) (n : NoteM) (hn : NoteOk n) : Calls Tryz.prog 329 #[.pointer (some ⟨p, 0, none⟩), .agg #[.int .u64 n.value, .int .u64 n.owner, .int .u64 n.rho, .int .u64 n.blind]] w
   fun e w' => e = .returned (.tuple #[.int .u64 (commitV n), .bool (noteB n)]) ∧ Below w.heap.size w w' := by
 have hb0 := bnew (Below.refl w.heap.size w) (.cells #[.int .u64 n.value, .int .u64 n.owner, .int .u64 n.rho, .int .u64 n.blind] 96); have HX := Lib.hid (box_new w (.cells #[.int .u64 n.value, .int .u64 n.owner, .int .u64 n.rho, .int .u64 n.blind] 96)); have HO := Lib.hid (ho.keepB hb0); have HB := Lib.hid hb0; clear hb0 ho
 go_enter Tryz.func329, Tryz.ntmps329
 go_wp2_with fail
 refine (noteValid_any _ n).mono ?_
 rintro e w1 ⟨rfl, hb1⟩; obtain ⟨x0, x1⟩ := box_cells (box_after hb1 HX.out); have hw1 := bnext HB.out hb1
 cases hv : noteB n with
 | false =>
   have HV : Hid (commitV n = 0) := by show _ = _; unfold commitV; rw [hv]; rfl
   go_wp2_with fail; go_ret2; rw [HV.out, hv]
   exact ⟨rfl, hw1⟩
 | true =>
   have HV : Hid (commitV n = hashS 2 [n.value, n.owner, n.rho, n.blind]) := by show _ = _; unfold commitV; rw [hv]; rfl
   have HE := Lib.hid (noteB_elems hv); go_wp2_with fail
   refine (noteElems_any w1 n hn).mono ?_
   rintro e w2 ⟨⟨a, cap, rfl, hr⟩, hb2⟩; have hw2 := bnext hw1 hb2; go_wp2_with fail
   refine (peek_any (fun _ => True) w2 p st (HO.out.keepB (bnext hb1 hb2)) 2 (by omega) (by omega) a cap [n.value, n.owner, n.rho, n.blind] hr (by simp)).mono ?_
   rintro e w3 ⟨rfl, hb3⟩
   have hp : peekS 2 [n.value, n.owner, n.rho, n.blind] = hashS 2 [n.value, n.owner, n.rho, n.blind] := by unfold peekS; rw [HE.out]; rfl
   rw [HE.out, hp]; clear hp; go_wp2_with fail; go_ret2; rw [HV.out, hv]
   exact ⟨rfl, bnext hw2 hb3⟩
def markK (key rho : Int) : Bool := decide (key < 18446744069414584321 ∧ rho < 18446744069414584321)
def markV (key rho : Int) : Int := if markK key rho = true then hashS 3 [key, rho] else 0
set_option maxHeartbeats 1000000 in
theorem marked_any (w : World) (p : Nat) (st : Int) (ho : OrAt false st p w) (key rho : Int) (hk : okU key) (hr : okU rho) : Calls Tryz.prog 236 #[.pointer (some ⟨p, 0, none⟩), .int .u64 key, .int .u64 rho] w
   fun e w' => e = .returned (.tuple #[.int .u64 (markV key rho), .bool (markK key rho)]) ∧ Below w.heap.size w w' := by
 have HX := Lib.hid (nums2 w 24 hk hr); have hb0 := bnew (Below.refl w.heap.size w) (.cells #[.int .u64 key, .int .u64 rho] 24); have HO := Lib.hid (ho.keepB hb0); have HB := Lib.hid hb0; clear hb0 ho
 by_cases h1 : key < 18446744069414584321
 · by_cases h2 : rho < 18446744069414584321
   · have hv : markK key rho = true := decide_eq_true ⟨h1, h2⟩
     have HV : Hid (markV key rho = hashS 3 [key, rho]) := by show _ = _; unfold markV; rw [hv]; rfl
     have HK := Lib.hid hv
     have HE : Hid (elemsB [key, rho] = true) := by show _ = _; simp [elemsB, allUp, elemB]; omega
     clear hv
     go_enter Tryz.func236, Tryz.ntmps236
     go_wp2_with fail
     refine (peek_any (fun _ => True) _ p st HO.out 3 (by omega) (by omega) _ _ [key, rho] HX.out (by simp)).mono ?_
     rintro e w3 ⟨rfl, hb3⟩
     have hp : peekS 3 [key, rho] = hashS 3 [key, rho] := by unfold peekS; rw [HE.out]; rfl
     rw [HE.out, hp]; clear hp; go_wp2_with fail; go_ret2; rw [HV.out, HK.out]
     exact ⟨rfl, bnext HB.out hb3⟩
   · have hv : markK key rho = false := decide_eq_false (fun h => h2 h.2)
     have HV : Hid (markV key rho = 0) := by show _ = _; unfold markV; rw [hv]; rfl
     have HK := Lib.hid hv; clear hv
     go_enter Tryz.func236, Tryz.ntmps236
     go_wp2_with fail; go_ret2; rw [HV.out, HK.out]
     exact ⟨rfl, Below.refl _ _⟩
 · have hv : markK key rho = false := decide_eq_false (fun h => h1 h.1)
   have HV : Hid (markV key rho = 0) := by show _ = _; unfold markV; rw [hv]; rfl
   have HK := Lib.hid hv; clear hv
   go_enter Tryz.func236, Tryz.ntmps236
   go_wp2_with fail; go_ret2; rw [HV.out, HK.out]
   exact ⟨rfl, Below.refl _ _⟩
def climbTo (leaf pos : Int) (path : List Int) : Nat → Int
 | 0 => leaf
 | k + 1 => if (bits BinOp.and IntKind.i64 (pos / 2 ^ k) 1 == 0) = true then hashS 6 [climbTo leaf pos path k, path.getD k 0] else hashS 6 [path.getD k 0, climbTo leaf pos path k]
theorem climbTo_ok {leaf pos : Int} {path : List Int} (h : okU leaf) : ∀ k, okU (climbTo leaf pos path k)
 | 0 => h
 | k + 1 => by unfold climbTo; split <;> exact hashS_ok _ _
def climbS (leaf pos : Int) (path : List Int) : Int :=
 if path.length ≤ 12 ∧ 0 ≤ pos ∧ pos < 2 ^ path.length ∧ leaf < 18446744069414584321 ∧ elemsB path = true then climbTo leaf pos path path.length else 0
theorem pow12 : ∀ k : Fin 13, IntKind.i64.wrap (2 ^ k.val) = 2 ^ k.val ∧ (0 : Int) < 2 ^ k.val ∧ (2 : Int) ^ k.val ≤ 4096 := by decide +kernel
end Go.Proofs.YtphacfkcifpobaaGreatDoor
