/- Decode. -/
import Derived.Test.YtdjcdejapkkcmaaGreatDoorM05
import Derived.Deep.Cut
import Derived.Deep.CutRange
import Derived.Test.YtdjcdejapkkcmaaGreatDoorM01
import Derived.StringKeys
import Derived.Maps.OwnSet
import Derived.Maps.OwnOps
import Derived.Test.YtdjcdejapkkcmaaGreatDoorM04
import Derived.Test.YtdjcdejapkkcmaaGreatDoorM03
import Derived.Laws.BytesArg
namespace Go.Proofs.YtdjcdejapkkcmaaGreatDoor
open Go.ChangeShapes Go.WideShapes Go.ChangeAt Go.RowKit

abbrev SpOwn (B : Nat) (w : World) (v : Value) (l : List SpentM) : Prop := Own spentR B 58 (fun x => False ∨ B ≤ x) w v l
abbrev NtOwn (B : Nat) (w : World) (v : Value) (l : List NoteM) : Prop := Own noteR B 56 (fun x => False ∨ B ≤ x) w v l
theorem SpOwn.read {B p : Nat} {w w2 : World} {v : Value} {l : List SpentM} {rd : RdM} (h : SpOwn B w v l) (hp : p < B) (hr : RdTo p w rd w2) : SpOwn B w2 v l := h.keep (hr.2.mono fun k _ h => by rcases h with h | h; exact h.elim; omega)
theorem NtOwn.read {B p : Nat} {w w2 : World} {v : Value} {l : List NoteM} {rd : RdM} (h : NtOwn B w v l) (hp : p < B) (hr : RdTo p w rd w2) : NtOwn B w2 v l := h.keep (hr.2.mono fun k _ h => by rcases h with h | h; exact h.elim; omega)
theorem SpOwn.store {B q : Nat} {w : World} {v : Value} {l : List SpentM} (h : SpOwn B w v l) (hq : q < B) (i : Nat) (u : Value) : SpOwn B (w.setCell ⟨q, i, none⟩ u) v l := h.keep ((Kept.refl _ _).setCell (fun _ h => by have h' : False ∨ B ≤ q := h; rcases h' with h' | h'; exact h'; omega) _)
theorem NtOwn.store {B q : Nat} {w : World} {v : Value} {l : List NoteM} (h : NtOwn B w v l) (hq : q < B) (i : Nat) (u : Value) : NtOwn B (w.setCell ⟨q, i, none⟩ u) v l := h.keep ((Kept.refl _ _).setCell (fun _ h => by have h' : False ∨ B ≤ q := h; rcases h' with h' | h'; exact h'; omega) _)

def decodeS (bs : List Int) : Option WitM :=
  match RdM.spents (RdM.int ⟨bs, 0, false⟩ 4).1.toNat (RdM.int ⟨bs, 0, false⟩ 4).2 [] with
  | (ins, r) => match RdM.notes (r.int 4).1.toNat (r.int 4).2 [] with
    | (outs, r') => if (r'.uint 18446744069414584320).2.done = true then some ⟨ins, outs, (r'.uint 18446744069414584320).1⟩ else none
/-- What Decode hands back. -/
def DecOut (bs : List Int) (w : World) (e : Ending) (w' : World) : Prop :=
  match decodeS bs with
  | none => e = .returned (.tuple #[.agg #[.slice none 0 0, .slice none 0 0, .int .u64 0], .int .i64 2]) ∧ Below w.heap.size w w'
  | some t => ∃ a1 c1 a2 c2, e = .returned (.tuple #[.agg #[.slice a1 t.ins.length c1, .slice a2 t.outs.length c2, .int .u64 t.secret], .int .i64 0]) ∧
      spentsR.rel (fun _ => True) w' [.slice a1 t.ins.length c1] t.ins ∧ notesR.rel (fun _ => True) w' [.slice a2 t.outs.length c2] t.outs ∧ okU t.secret ∧ Below w.heap.size w w'

set_option maxRecDepth 100000 in
set_option maxHeartbeats 8000000 in
theorem decode_any (w : World) (a : Option Addr) (cap : Nat) (bs : List Int) (S : Nat → Prop) (h : bytesR.rel S w [.slice a bs.length cap] bs) (hx : bs.length ≤ 1000000) :
    Calls Tryz.prog 91 #[.slice a bs.length cap] w (DecOut bs w) := by
  have hb0 := bnew (Below.refl w.heap.size w) (.cells #[.slice none 0 0, .slice none 0 0, .int .u64 0] 48)
  have HX := Lib.hid (box_new w (.cells #[.slice none 0 0, .slice none 0 0, .int .u64 0] 48))
  have H := Lib.hid (bytesR.keepB h hb0)
  have HB0 := Lib.hid hb0
  have hs0 : (w.alloc (.cells #[.slice none 0 0, .slice none 0 0, .int .u64 0] 48)).heap.size = w.heap.size + 1 := World.size_alloc ..
  have HS0 := Lib.hid hs0
  clear hb0 h hs0
  go_enter Tryz.func91, Tryz.ntmps91
  go_wp2_with fail
  refine (newReader_any S _ a cap bs H.out hx).mono ?_
  rintro e w1 ⟨p, rfl, hp1, hrd1, hb1⟩
  have hlay : DecLay w p w1.heap.size (w1.heap.size + 1) := by
    have h1 := HS0.out
    have h2 := hrd1.lt
    rw [h1] at hp1
    exact ⟨by omega, by omega, by omega, by omega, by omega⟩
  have hbq := bnew (Below.refl w1.heap.size w1) (.cells #[.slice none 0 0, .slice none 0 0, .int .u64 0] 48)
  have hd : DecAt w p w1.heap.size (w1.heap.size + 1) (.slice none 0 0) (.slice none 0 0) 0 ⟨bs, 0, false⟩ (w1.alloc (.cells #[.slice none 0 0, .slice none 0 0, .int .u64 0] 48)) :=
    ⟨bnext (bnext HB0.out hb1) hbq, hrd1.keep hbq, box_new _ _, box_old (box_after hb1 HX.out), by rw [World.size_alloc]; exact Nat.le_refl _⟩
  have HD := Lib.hid hd
  have HL := Lib.hid hlay
  clear hd hlay hbq hrd1 hb1 hp1 HX HB0 HS0 H
  go_wp2_with fail
  generalize w1.alloc (.cells #[.slice none 0 0, .slice none 0 0, .int .u64 0] 48) = W at HD ⊢
  generalize hq : w1.heap.size = q at *
  generalize hBq : q + 1 = B at *
  refine (rdInt_any W p _ HD.out.rd 4 (by omega) (by omega)).mono ?_
  rintro e w2 ⟨rfl, h2, n0, n1⟩
  have HD2 := Lib.hid (HD.out.read HL.out h2)
  obtain ⟨N, hN⟩ := Int.eq_ofNat_of_zero_le n0
  have HN := Lib.hid hN
  rw [hN] at n1 ⊢
  clear hN n0 h2 HD
  obtain ⟨r1, hr1⟩ : ∃ r1, (RdM.int ⟨bs, 0, false⟩ 4).2 = r1 := ⟨_, rfl⟩
  have HR1 := Lib.hid hr1
  rw [hr1] at HD2
  clear hr1
  have hN4 : N ≤ 4 := by omega
  go_wp2_with fail
  go_loopw [10] (fun vi wr => ∃ (k : Nat) (rd : RdM) (v : Value) (ins : List SpentM), k ≤ N ∧ vi = .int .i64 k ∧ ins.length = k ∧ DecAt w p q B v (.slice none 0 0) 0 rd wr ∧ SpOwn B wr v ins ∧ Hid (RdM.spents (N - k) rd ins = RdM.spents N r1 [])) (fun vi _ => N - (intOf vi).toNat)
  case atStart => exact ⟨0, r1, .slice none 0 0, [], Nat.zero_le _, rfl, rfl, HD2.out, Own.nil _ _ _ _ _, rfl⟩
  case round =>
    obtain ⟨k, rd, v, ins, hk, rfl, hil, hd, hown, hinv⟩ := hrel
    by_cases hks : k < N
    · obtain ⟨j, hj⟩ : ∃ j, N - k = j + 1 := ⟨N - k - 1, by omega⟩
      have hj2 : N - (k + 1) = j := by omega
      rw [hj] at hinv
      have HI : Hid (RdM.spents j rd.s5 (ins ++ [rd.spent]) = RdM.spents N r1 []) := hinv
      have HDr := Lib.hid (hd.drew HL.out)
      have HOr := Lib.hid (show SpOwn B wr.drew v ins from hown.keepB (Below.refl _ _).drew)
      have HLT := Lib.hid (fun k (hk : v.ownBlock = some k) => (hown.lt hk).1)
      obtain ⟨x0, x1⟩ := box_cells hd.box
      clear hinv hd hown
      go_wp2_with fail
      go_region_law (first
        | (refine step_append_rel (r := spentR) (base := B) (v := v) (u := .slice (some ⟨w7.heap.size, 0, none⟩) 1 1) rfl _ _ rfl Tryz.etySpent rfl rfl (Own.keepB O6.out (bnew (Below.refl _ _) _)) (Src.one (spentR.keepB SREL.out (bnew (Below.refl _ _) _)) (CellsAt.new w7 (spentCells rd.spent pa pc) 58)) (fun k _ h => .inr (Nat.le_trans HDr.out.base h)) (fun k hk h => absurd (HLT.out k hk) (Nat.not_lt.2 h)) (by unfold maxLen; simp; omega) (by simp; omega) (Nat.le_trans G6.out.base (by rw [World.size_alloc]; omega)) ?_
           intro v2 w8 ho8 hk8 hl8
           obtain ⟨a2, cap2, rfl, -, -⟩ := sliceR.form ho8.slice
           have G8 := Lib.hid (DecAt.kept HL.out (DecAt.keepB HL.out G6.out (bnew (Below.refl _ _) _)) (hk8.mono (S' := fun k => k < B) fun k _ hkB he => by have := (Own.lt O6.out he).2.2; omega))
           have O8 : Hid (SpOwn B w8 (.slice a2 (ins ++ [rd.spent]).length cap2) (ins ++ [rd.spent])) := ho8.mono fun k _ h => by
             rcases h with h | h
             · exact h
             · exact .inr (Nat.le_trans G6.out.base (Nat.le_trans (by rw [World.size_alloc]; omega) h))
           obtain ⟨t0, t1⟩ := box_cells G8.out.box)
        | (go_simp; first
          | (go_at_call 145; refine (readNote_any _ p rd HDr.out.rd).mono ?_; rintro e w2 ⟨rfl, g1, okn⟩
             have G1 := Lib.hid (DecAt.read HL.out HDr.out g1); have O1 := Lib.hid (SpOwn.read HOr.out HL.out.pB g1); obtain ⟨y0, y1⟩ := box_cells G1.out.box)
          | (go_at_call 146; refine (rdUint_any _ p rd.n4 G1.out.rd 18446744069414584320 (by omega)).mono ?_; rintro e w3 ⟨rfl, g2, a0, a1⟩
             have G2 : Hid (DecAt w p q B v (.slice none 0 0) 0 rd.s1 w3) := DecAt.read HL.out G1.out g2; have O2 := Lib.hid (SpOwn.read O1.out HL.out.pB g2); obtain ⟨z0, z1⟩ := box_cells G2.out.box)
          | (go_at_call_of 144 (Value.int IntKind.i64 3); refine (rdInt_any _ p rd.s1 G2.out.rd 3 (by omega) (by omega)).mono ?_; rintro e w4 ⟨rfl, g3, b0, b1⟩
             have G3 : Hid (DecAt w p q B v (.slice none 0 0) 0 rd.s2 w4) := DecAt.read HL.out G2.out g3; have O3 := Lib.hid (SpOwn.read O2.out HL.out.pB g3); obtain ⟨m0, m1⟩ := box_cells G3.out.box)
          | (go_at_call_of 144 (Value.int IntKind.i64 4095); refine (rdInt_any _ p rd.s2 G3.out.rd 4095 (by omega) (by omega)).mono ?_; rintro e w5 ⟨rfl, g4, c0, c1⟩
             have G4 : Hid (DecAt w p q B v (.slice none 0 0) 0 rd.s3 w5) := DecAt.read HL.out G3.out g4; have O4 := Lib.hid (SpOwn.read O3.out HL.out.pB g4); obtain ⟨l0, l1⟩ := box_cells G4.out.box)
          | (go_at_call 147; refine (rdList_any _ p rd.s3 G4.out.rd 12 18446744069414584321 (by omega) (by omega)).mono ?_; rintro e w6 ⟨pa, pc, rfl, hpath, g5⟩
             have G5 : Hid (DecAt w p q B v (.slice none 0 0) 0 rd.s4 w6) := DecAt.read HL.out G4.out g5; have O5 := Lib.hid (SpOwn.read O4.out HL.out.pB g5); obtain ⟨i0, i1⟩ := box_cells G5.out.box; have HPATH := Lib.hid hpath; clear hpath)
          | (go_at_call_of 144 (Value.int IntKind.i64 1); refine (rdInt_any _ p rd.s4 G5.out.rd 1 (by omega) (by omega)).mono ?_; rintro e w7 ⟨rfl, g6, d0, d1⟩
             have G6 : Hid (DecAt w p q B v (.slice none 0 0) 0 rd.s5 w7) := DecAt.read HL.out G5.out g6; have O6 := Lib.hid (SpOwn.read O5.out HL.out.pB g6); obtain ⟨k0, k1⟩ := box_cells G6.out.box; have kk := fun o' => (box_cells (box_old (o' := o') G6.out.box)).1
             have SREL : Hid (spentR.rel (fun k => wr.heap.size ≤ k) w7 (spentCells rd.spent pa pc) rd.spent) :=
               spentR.mk (s := rd.spent) ⟨okn, okU_of a0 (Int.lt_of_le_of_lt a1 (by omega)), okI_of (Int.le_trans (by omega) b0) (Int.lt_of_le_of_lt b1 (by omega)), okI_of (Int.le_trans (by omega) c0) (Int.lt_of_le_of_lt c1 (by omega))⟩
                 (numsR.mono (numsR.keep HPATH.out (g6.2.mono fun k _ h => Nat.ne_of_gt (Nat.lt_of_lt_of_le HL.out.pB (Nat.le_trans G4.out.base h)))) fun k _ h => Nat.le_trans (Nat.le_trans (show wr.heap.size ≤ w2.heap.size from g1.2.size) (Nat.le_trans g2.2.size (Nat.le_trans g3.2.size g4.2.size))) h))))
      all_goals
        have HFIN := Lib.hid (DecAt.store HL.out G8.out 0 (.slice a2 (ins ++ [rd.spent]).length cap2) rfl)
        have O9 := Lib.hid (SpOwn.store O8.out HL.out.qB 0 (.slice a2 (ins ++ [rd.spent]).length cap2))
        go_wp2_with fail
        go_roundw
        case rel => exact ⟨k + 1, rd.s5, .slice a2 (ins ++ [rd.spent]).length cap2, ins ++ [rd.spent], by omega, by go_num, by rw [List.length_append, hil]; rfl, by simpa [hil] using HFIN.out, by simpa [hil] using O9.out, by rw [hj2]; exact HI⟩
        case measure => simp [intOf]; omega
    · obtain rfl : k = N := by omega
      subst hil
      rw [Nat.sub_self] at hinv
      have HI1 : Hid (RdM.spents ins.length r1 [] = (ins, rd)) := hinv.out.symm
      have hCB := hd.base
      have HINS := Lib.hid (spentsR.bound hown.slice)
      obtain ⟨a1, c1, rfl, -, -⟩ := sliceR.form hown.slice
      obtain ⟨C, hC⟩ : ∃ C, wr.heap.size = C := ⟨_, rfl⟩
      rw [hC] at hCB
      have HINS2 : Hid (spentsR.rel (fun x => B ≤ x ∧ x < C) wr [.slice a1 ins.length c1] ins) := spentsR.mono HINS.out fun x _ h => ⟨h.1.resolve_left id, by rw [← hC]; exact h.2⟩
      have HDw := Lib.hid hd
      have hCw : C ≤ wr.heap.size := by omega
      clear hinv hd hown HINS hC HD2
      go_wp2_with fail
      refine (rdInt_any wr p rd HDw.out.rd 4 (by omega) (by omega)).mono ?_
      rintro e w3 ⟨rfl, h3, n2, n3⟩
      have HD3 := Lib.hid (HDw.out.read HL.out h3)
      have HI3 : Hid (spentsR.rel (fun x => B ≤ x ∧ x < C) w3 [.slice a1 ins.length c1] ins) := spentsR.keep HINS2.out (h3.2.mono fun x _ h => Nat.ne_of_gt (Nat.lt_of_lt_of_le HL.out.pB h.1))
      have hC3 : C ≤ w3.heap.size := Nat.le_trans hCw h3.2.size
      obtain ⟨M, hM⟩ := Int.eq_ofNat_of_zero_le n2
      have HM := Lib.hid hM
      rw [hM] at n3 ⊢
      clear hM n2 h3 HDw HINS2
      obtain ⟨r2, hr2⟩ : ∃ r2, (rd.int 4).2 = r2 := ⟨_, rfl⟩
      have HR2 := Lib.hid hr2
      rw [hr2] at HD3
      clear hr2
      have hM4 : M ≤ 4 := by omega
      go_wp2_with fail
      go_loopw [34] (fun vi wr => ∃ (k : Nat) (rd : RdM) (v : Value) (outs : List NoteM), k ≤ M ∧ vi = .int .i64 k ∧ outs.length = k ∧ DecAt w p q B (.slice a1 ins.length c1) v 0 rd wr ∧ NtOwn C wr v outs ∧ spentsR.rel (fun x => B ≤ x ∧ x < C) wr [.slice a1 ins.length c1] ins ∧ C ≤ wr.heap.size ∧ Hid (RdM.notes (M - k) rd outs = RdM.notes M r2 [])) (fun vi _ => M - (intOf vi).toNat)
      case atStart => exact ⟨0, r2, .slice none 0 0, [], Nat.zero_le _, rfl, rfl, HD3.out, Own.nil _ _ _ _ _, HI3.out, hC3, rfl⟩
      case round =>
        obtain ⟨k2, rd2, v, outs, hk2, rfl, hol, hd, hown, hins, hCr, hinv⟩ := hrel
        by_cases hks2 : k2 < M
        · obtain ⟨j, hj⟩ : ∃ j, M - k2 = j + 1 := ⟨M - k2 - 1, by omega⟩
          have hj2 : M - (k2 + 1) = j := by omega
          rw [hj] at hinv
          have HI : Hid (RdM.notes j rd2.n4 (outs ++ [rd2.note]) = RdM.notes M r2 []) := hinv
          have HDr := Lib.hid (hd.drew HL.out)
          have HOr := Lib.hid (show NtOwn C wr.drew v outs from hown.keepB (Below.refl _ _).drew)
          have HIr := Lib.hid (spentsR.keepB hins (Below.refl _ _).drew)
          obtain ⟨x0, x1⟩ := box_cells hd.box
          clear hinv hd hown hins
          have HLT := Lib.hid (fun k (hk : v.ownBlock = some k) => (HOr.out.lt hk).1)
          go_wp2_with fail
          go_region_law (first
            | (refine step_append_rel (r := noteR) (base := C) (v := v) (u := .slice (some ⟨w4.heap.size, 0, none⟩) 1 1) (S := fun _ => False) rfl _ _ rfl Tryz.etyNote rfl rfl (Own.keepB O1.out (bnew (Below.refl _ _) _)) (Src.one (noteR.mk okn) (CellsAt.new w4 [.int .u64 rd2.note.value, .int .u64 rd2.note.owner, .int .u64 rd2.note.rho, .int .u64 rd2.note.blind] 56)) (fun k _ h => h.elim) (fun k hk h => h) (by unfold maxLen; simp; omega) (by simp; omega) (Nat.le_trans hC4 (by rw [World.size_alloc]; omega)) ?_
               intro v2 w8 ho8 hk8 hl8
               obtain ⟨a2, cap2, rfl, -, -⟩ := sliceR.form ho8.slice
               have hk9 : Kept (fun k => k < C) (w4.alloc (.cells #[.int .u64 rd2.note.value, .int .u64 rd2.note.owner, .int .u64 rd2.note.rho, .int .u64 rd2.note.blind] 56)) w8 := hk8.mono fun k _ hkC he => by have := (Own.lt O1.out he).2.2; omega
               have G8 := Lib.hid (DecAt.kept HL.out (DecAt.keepB HL.out G1.out (bnew (Below.refl _ _) _)) (hk9.mono (S' := fun k => k < B) fun k _ hkB => Nat.lt_of_lt_of_le hkB hCB))
               have I8 := Lib.hid (spentsR.keep (spentsR.keepB I1.out (bnew (Below.refl _ _) _)) (hk9.mono fun k _ h => h.2))
               have hC8 : C ≤ w8.heap.size := Nat.le_trans hC4 (Nat.le_trans (by rw [World.size_alloc]; omega) hk9.size)
               have O8 : Hid (NtOwn C w8 (.slice a2 (outs ++ [rd2.note]).length cap2) (outs ++ [rd2.note])) := ho8.mono fun k _ h => by
                 rcases h with h | h
                 · exact h
                 · exact .inr (Nat.le_trans hC4 (Nat.le_trans (by rw [World.size_alloc]; omega) h))
               obtain ⟨t0, t1⟩ := box_cells G8.out.box)
            | (go_simp; go_at_call 145; refine (readNote_any _ p rd2 HDr.out.rd).mono ?_; rintro e w4 ⟨rfl, g1, okn⟩
               have G1 := Lib.hid (DecAt.read HL.out HDr.out g1); have O1 := Lib.hid (NtOwn.read HOr.out (Nat.lt_of_lt_of_le HL.out.pB hCB) g1); obtain ⟨y0, y1⟩ := box_cells G1.out.box; have yy := fun o' => (box_cells (box_old (o' := o') G1.out.box)).1
               have hC4 : C ≤ w4.heap.size := Nat.le_trans hCr g1.2.size
               have I1 := Lib.hid (spentsR.keep HIr.out (g1.2.mono fun x _ h => Nat.ne_of_gt (Nat.lt_of_lt_of_le HL.out.pB h.1)))))
          all_goals
            have HFIN := Lib.hid (DecAt.store HL.out G8.out 1 (.slice a2 (outs ++ [rd2.note]).length cap2) rfl)
            have O9 := Lib.hid (NtOwn.store O8.out (Nat.lt_of_lt_of_le HL.out.qB hCB) 1 (.slice a2 (outs ++ [rd2.note]).length cap2))
            have I9 := Lib.hid (spentsR.keep I8.out ((Kept.refl _ w8).setCell (p := ⟨q, 1, none⟩) (fun _ h => by have h' : B ≤ q ∧ q < C := h; have := HL.out.qB; omega) (.slice a2 (outs ++ [rd2.note]).length cap2)))
            have hC9 : C ≤ (w8.setCell ⟨q, 1, none⟩ (.slice a2 (outs ++ [rd2.note]).length cap2)).heap.size := by rw [World.size_setCell]; exact hC8
            go_wp2_with fail
            go_roundw
            case rel => exact ⟨k2 + 1, rd2.n4, .slice a2 (outs ++ [rd2.note]).length cap2, outs ++ [rd2.note], by omega, by go_num, by rw [List.length_append, hol]; rfl, by simpa [hol] using HFIN.out, by simpa [hol] using O9.out, by simpa [hol] using I9.out, by simpa [hol] using hC9, by rw [hj2]; exact HI⟩
            case measure => simp [intOf]; omega
        · obtain rfl : k2 = M := by omega
          subst hol
          rw [Nat.sub_self] at hinv
          have HI2 : Hid (RdM.notes outs.length r2 [] = (outs, rd2)) := hinv.out.symm
          obtain ⟨a2, c2, rfl, -, -⟩ := sliceR.form hown.slice
          have HNT := Lib.hid (notesR.mono hown.slice (S' := fun k => C ≤ k) fun x _ h => h.resolve_left id)
          have HIN := Lib.hid hins
          have HDw := Lib.hid hd
          have HDEC : Hid (decodeS bs = if (rd2.uint 18446744069414584320).2.done = true then some ⟨ins, outs, (rd2.uint 18446744069414584320).1⟩ else none) := by
            show _ = _
            unfold decodeS
            rw [HN.out, HR1.out, Int.toNat_natCast, HI1.out]
            simp only
            rw [HM.out, HR2.out, Int.toNat_natCast, HI2.out]
          clear hinv hd hown hins HD3 HI3
          go_wp2_with fail
          refine (rdUint_any _ p rd2 HDw.out.rd 18446744069414584320 (by omega)).mono ?_
          rintro e w5 ⟨rfl, h5, s0, s1⟩
          have HD5 := Lib.hid (HDw.out.read HL.out h5)
          have HN5 := Lib.hid (notesR.keep HNT.out (h5.2.mono fun x _ h => Nat.ne_of_gt (Nat.lt_of_lt_of_le HL.out.pB (Nat.le_trans hCB h))))
          have HI5 := Lib.hid (spentsR.keep HIN.out (h5.2.mono fun x _ h => Nat.ne_of_gt (Nat.lt_of_lt_of_le HL.out.pB h.1)))
          generalize rd2.uint 18446744069414584320 = t at *
          obtain ⟨sec, r5⟩ := t
          simp only at HD5 HDEC s0 s1 ⊢
          obtain ⟨t0, t1⟩ := box_cells HD5.out.box
          have HD6 := Lib.hid (DecAt.store HL.out HD5.out 2 (.int .u64 sec) (u1 := .slice a1 ins.length c1) (u2 := .slice a2 outs.length c2) (usec := sec) rfl)
          have hk6 : Kept (fun k => B ≤ k) w5 (w5.setCell ⟨q, 2, none⟩ (.int .u64 sec)) := (Kept.refl _ _).setCell (fun _ h => by have h' : B ≤ q := h; have := HL.out.qB; omega) _
          have HN6 := Lib.hid (notesR.keep HN5.out (hk6.mono fun k _ h => Nat.le_trans hCB h))
          have HI6 := Lib.hid (spentsR.keep HI5.out (hk6.mono fun k _ h => h.1))
          clear hk6 h5
          go_wp2_with fail
          generalize w5.setCell ⟨q, 2, none⟩ (.int .u64 sec) = w6 at *
          refine (done_any _ p r5 HD6.out.rd).mono ?_
          rintro e w7 ⟨rfl, hb7⟩
          have HD7 := Lib.hid (HD6.out.keepB HL.out hb7)
          have HN7 := Lib.hid (notesR.keepB HN6.out hb7)
          have HI7 := Lib.hid (spentsR.keepB HI6.out hb7)
          clear t0 t1
          obtain ⟨t0, t1⟩ := box_cells HD7.out.box
          obtain ⟨f0, f1⟩ := box_cells HD7.out.res
          have HB7 := Lib.hid HD7.out.below
          cases hdn : r5.done with
          | true =>
            have HV : Hid (decodeS bs = some ⟨ins, outs, sec⟩) := by show _ = _; rw [HDEC.out, hdn]; rfl
            obtain ⟨r0, r1', r2'⟩ := read3 (x := .slice a1 ins.length c1) (y := .slice a2 outs.length c2) (z := .int .u64 sec) (f0 0) (f0 1) (f0 2)
            go_wp2_with fail
            refine bodyPost_ret (v := .tuple #[.agg #[.slice a1 ins.length c1, .slice a2 outs.length c2, .int .u64 sec], .int .i64 0]) (by simp [results, Tryz.results91, go_sem, r0, r1', r2']) rfl ?_
            have hkf : Kept (fun k => B ≤ k) w7 (((w7.setCell ⟨w.heap.size, 0, none⟩ (.slice a1 ins.length c1)).setCell ⟨w.heap.size, 1, none⟩ (.slice a2 outs.length c2)).setCell ⟨w.heap.size, 2, none⟩ (.int .u64 sec)) := by
              have hn : w.heap.size < w7.heap.size → ¬ B ≤ w.heap.size := fun _ h => by have := HL.out.wq; have := HL.out.qB; omega
              exact (((Kept.refl _ _).setCell hn _).setCell hn _).setCell hn _
            unfold DecOut
            rw [HV.out]
            exact ⟨a1, c1, a2, c2, rfl, spentsR.mono (spentsR.keep HI7.out (hkf.mono fun k _ h => h.1)) fun _ _ _ => trivial, notesR.mono (notesR.keep HN7.out (hkf.mono fun k _ h => Nat.le_trans hCB h)) fun _ _ _ => trivial, okU_of s0 (Int.lt_of_le_of_lt s1 (by omega)),
              ((HB7.out.setCell (Nat.le_refl _) _).setCell (Nat.le_refl _) _).setCell (Nat.le_refl _) _⟩
          | false =>
            have HV : Hid (decodeS bs = none) := by show _ = _; rw [HDEC.out, hdn]; rfl
            obtain ⟨r0, r1', r2'⟩ := read3 (x := .slice none 0 0) (y := .slice none 0 0) (z := .int .u64 0) (f0 0) (f0 1) (f0 2)
            go_wp2_with fail
            refine bodyPost_ret (v := .tuple #[.agg #[.slice none 0 0, .slice none 0 0, .int .u64 0], .int .i64 2]) (by simp [results, Tryz.results91, go_sem, r0, r1', r2']) rfl ?_
            unfold DecOut
            rw [HV.out]
            exact ⟨rfl, ((HB7.out.setCell (Nat.le_refl _) _).setCell (Nat.le_refl _) _).setCell (Nat.le_refl _) _⟩
end Go.Proofs.YtdjcdejapkkcmaaGreatDoor
/- Maps whose keys are strings: what a block holds, as a list of pairs; look-up, store. -/
namespace Go.Proofs.YtdjcdejapkkcmaaGreatDoor
open Go.ChangeShapes Go.WideShapes Go.ChangeAt Go.RowKit Go.Maps

/-- Each value reads as itself. -/
def heldR (v : Value) : Option (DataW Value × List MemPlace) := some (.held v, [])
/-- Only block b has turned. -/
def OnlyAt (b : Nat) (w w' : World) : Prop := Kept (fun k => k ≠ b) w w'
theorem only_of_turned {w w' : World} {b : Nat} (h : w.mapTurned w' b) : OnlyAt b w w' ∧ w'.heap.size = w.heap.size := by
  have hg := h.grown
  refine ⟨⟨hg.os, hg.tape, hg.output, hg.size, fun k hk hne => hg.block k hk fun e => hne (Option.some.inj e)⟩, ?_⟩
  obtain ⟨es, clock, es', clock', _, rfl⟩ := h
  simp [ChangeMaps.setBlock]
theorem lawS : Keyed Tryz.prog 9 := string_keyed Tryz.underlying9
abbrev SKey := List UInt8
abbrev SMap := List (SKey × Value)
def smEnc (m : SMap) : DataW Value := .map (m.map fun p => (.string p.1, .held p.2))
def smGet (m : SMap) (x : SKey) : Option Value := (m.find? fun p => p.1 == x).map (·.2)
def smIns (p : SKey × Value) : SMap → SMap
  | [] => [p]
  | q :: r => if (Lit.string p.1).before (.string q.1) = true then p :: q :: r else q :: smIns p r
def smDel (m : SMap) (x : SKey) : SMap := m.filter fun p => p.1 != x
def smPut (m : SMap) (x : SKey) (v : Value) : SMap := smIns (x, v) (smDel m x)
theorem sameKey_str (a b : SKey) : (Lit.string a).sameKey (.string b) = (a == b) := rfl
theorem smEnc_ins (p : SKey × Value) : ∀ m : SMap, DataW.insert (Lit.string p.1, DataW.held p.2) (m.map fun p => (Lit.string p.1, DataW.held p.2)) = (smIns p m).map fun p => (Lit.string p.1, DataW.held p.2)
  | [] => rfl
  | q :: r => by
    by_cases h : (Lit.string p.1).before (.string q.1) = true
    · simp [DataW.insert, smIns, h]
    · simp [DataW.insert, smIns, h, smEnc_ins p r]
theorem smEnc_put (m : SMap) (x : SKey) (v : Value) : (smEnc m).put (.string x) (.held v) = smEnc (smPut m x v) := by
  unfold smEnc smPut
  rw [← smEnc_ins (x, v) (smDel m x)]
  show DataW.map (DataW.insert (Lit.string x, DataW.held v) (List.filter _ _)) = _
  have h' : (List.map (fun p : SKey × Value => (Lit.string p.1, (DataW.held p.2 : DataW Value))) m).filter (fun p => !p.1.sameKey (.string x)) = (smDel m x).map fun p => (Lit.string p.1, DataW.held p.2) := by
    unfold smDel
    rw [List.filter_map]
    congr 1
  rw [h']
theorem smEnc_at (m : SMap) (x : SKey) (z : Value) : (smEnc m).atKey (.string x) (.held z) = .held ((smGet m x).getD z) := by
  unfold smEnc smGet
  simp only [DataW.atKey]
  rw [List.find?_map]
  have e : ((fun p : Lit × DataW Value => p.1.sameKey (.string x)) ∘ fun p : SKey × Value => (Lit.string p.1, DataW.held p.2)) = fun p => p.1 == x := by funext p; exact sameKey_str p.1 x
  rw [e]
  cases m.find? fun p => p.1 == x <;> rfl
theorem smEnc_has (m : SMap) (x : SKey) : Maps.has (smEnc m) (.string x) = (smGet m x).isSome := by
  unfold smEnc smGet
  rw [has_eq, List.any_map, Option.isSome_map]
  have e : ((fun p : Lit × DataW Value => p.1.sameKey (.string x)) ∘ fun p : SKey × Value => (Lit.string p.1, DataW.held p.2)) = fun p => p.1 == x := by funext p; exact sameKey_str p.1 x
  rw [e]
  induction m with
  | nil => rfl
  | cons q r ih =>
    rw [List.any_cons, List.find?_cons, ih]
    cases q.1 == x <;> rfl
theorem smEnc_size (m : SMap) : Maps.size (smEnc m) = m.length := by
  unfold smEnc; rw [size_eq, List.length_map]
theorem smIns_len (p : SKey × Value) : ∀ m : SMap, (smIns p m).length = m.length + 1
  | [] => rfl
  | q :: r => by
    unfold smIns
    split
    · rfl
    · simp [smIns_len p r]
theorem smPut_len (m : SMap) (x : SKey) (v : Value) : (smPut m x v).length ≤ m.length + 1 := by
  unfold smPut smDel; rw [smIns_len]; have := List.length_filter_le (fun p : SKey × Value => p.1 != x) m; omega
theorem smIns_mem (p q : SKey × Value) : ∀ m : SMap, q ∈ smIns p m → q = p ∨ q ∈ m
  | [], h => by simp [smIns] at h; exact .inl h
  | r :: m, h => by
    unfold smIns at h
    split at h
    · simpa using h
    · rcases List.mem_cons.1 h with h | h
      · exact .inr (by simp [h])
      · exact (smIns_mem p q m h).imp id fun h => by simp [h]
theorem smPut_mem {m : SMap} {x : SKey} {v : Value} {q : SKey × Value} (h : q ∈ smPut m x v) : q = (x, v) ∨ q ∈ m :=
  (smIns_mem _ _ _ h).imp id fun h => (List.mem_filter.1 h).1
theorem smGet_mem {m : SMap} {x : SKey} {v : Value} (h : smGet m x = some v) : (x, v) ∈ m := by
  unfold smGet at h
  obtain ⟨p, hp, rfl⟩ := Option.map_eq_some_iff.1 h
  have h1 := List.mem_of_find?_eq_some hp
  have h2 := List.find?_some hp
  have : p.1 = x := by simpa using h2
  rw [← this]
  exact h1

theorem smGet_ins_ne {p : SKey × Value} {y : SKey} (h : p.1 ≠ y) : ∀ m : SMap, smGet (smIns p m) y = smGet m y
  | [] => by
    have : (p.1 == y) = false := by rw [beq_eq_false_iff_ne]; exact h
    unfold smGet smIns; rw [List.find?_cons, this]
  | q :: r => by
    have hp : (p.1 == y) = false := by rw [beq_eq_false_iff_ne]; exact h
    unfold smIns
    split
    · unfold smGet; rw [List.find?_cons, hp]
    · have ih := smGet_ins_ne h r
      unfold smGet at ih ⊢
      rw [List.find?_cons, List.find?_cons]
      cases q.1 == y <;> simp [ih]
theorem smGet_ins_eq {p : SKey × Value} : ∀ m : SMap, (∀ q ∈ m, q.1 ≠ p.1) → smGet (smIns p m) p.1 = some p.2
  | [], _ => by unfold smGet smIns; rw [List.find?_cons, beq_self_eq_true]; rfl
  | q :: r, h => by
    unfold smIns
    split
    · unfold smGet; rw [List.find?_cons, beq_self_eq_true]; rfl
    · have ih := smGet_ins_eq r fun q hq => h q (List.mem_cons_of_mem _ hq)
      have hq : (q.1 == p.1) = false := by rw [beq_eq_false_iff_ne]; exact h q (by simp)
      unfold smGet at ih ⊢
      rw [List.find?_cons, hq]
      exact ih
theorem smGet_put_eq (m : SMap) (x : SKey) (v : Value) : smGet (smPut m x v) x = some v :=
  smGet_ins_eq (p := (x, v)) (smDel m x) fun q hq => by
    have := (List.mem_filter.1 hq).2
    simpa using this
theorem smGet_put_ne (m : SMap) {x y : SKey} (v : Value) (h : x ≠ y) : smGet (smPut m x v) y = smGet m y := by
  unfold smPut
  rw [smGet_ins_ne (p := (x, v)) h]
  unfold smGet smDel
  rw [List.find?_filter]
  congr 2
  funext a
  by_cases ha : a.1 = y
  · have : a.1 ≠ x := fun e => h (e.symm.trans ha)
    simp [ha, Ne.symm h]
  · have : (a.1 == y) = false := by rw [beq_eq_false_iff_ne]; exact ha
    simp [this]

/-- Block b is a map from strings that holds just the pairs m. -/
def SMapAt (w : World) (b : Nat) (m : SMap) : Prop := w.ownsMap Tryz.prog 9 heldR b m.length (smEnc m)
theorem SMapAt.of {w : World} {b n : Nat} {m : SMap} (h : w.ownsMap Tryz.prog 9 heldR b n (smEnc m)) : SMapAt w b m := by
  obtain ⟨es, clock, hb, F, _, hD⟩ := h
  refine ⟨es, clock, hb, F, ?_, hD⟩
  have := congrArg Maps.size hD
  rw [smEnc_size] at this
  simp [Maps.size, length_sorted] at this
  omega
theorem SMapAt.lt {w : World} {b : Nat} {m : SMap} (h : SMapAt w b m) : b < w.heap.size := World.ownsMap.lt h
theorem SMapAt.at' {w w' : World} {b : Nat} {m : SMap} (h : SMapAt w b m) (hb : w'.heap[b]? = w.heap[b]?) : SMapAt w' b m := by
  obtain ⟨es, clock, h1, h2⟩ := h
  exact ⟨es, clock, hb.trans h1, h2⟩
theorem SMapAt.keep {S : Nat → Prop} {w w' : World} {b : Nat} {m : SMap} (h : SMapAt w b m) (hk : Kept S w w') (hS : S b) : SMapAt w' b m := h.at' (hk.block b h.lt hS)
theorem SMapAt.keepB {w w' : World} {b : Nat} {m : SMap} (h : SMapAt w b m) (hk : Below w.heap.size w w') : SMapAt w' b m := h.keep (S := fun k => k < w.heap.size) (Kept.of_below hk) h.lt
theorem sMapAt_made (w : World) : SMapAt (w.alloc (.map #[] 0)) w.heap.size [] := World.ownsMap_made w _ _ _
theorem sMapAt_empty {w : World} {b : Nat} (h : w.heap[b]? = some (.map #[] 0)) : SMapAt w b [] := by
  obtain ⟨es, clock, hb, F⟩ := sMapAt_made w
  rw [box_new] at hb
  cases hb
  exact ⟨#[], 0, h, F⟩
theorem SMapAt.look {w : World} {b : Nat} {m : SMap} (h : SMapAt w b m) {t e : TypeId} (ht : Tryz.prog.underlying t = some (.map 9 e)) {z : Value} (hz : (zeroValue e).run Tryz.prog w = .ok z w) (s : ByteArray) (hs : s.size ≤ maxLen) :
    (Instr.lookup t (.map (some b)) (.string s) false).run Tryz.prog w = .ok ((smGet m s.data.toList).getD z) w := by
  obtain ⟨v, ps, hrun, hv⟩ := World.ownsMap.lookup h lawS ht hz (zd := .held z) (zp := []) rfl (key := .string s) (kl := .string s.data.toList) (Go.WideMaps.keyOf_string_mk Tryz.underlying9 hs)
  rw [smEnc_at] at hv
  obtain rfl : v = (smGet m s.data.toList).getD z := by simpa [heldR] using congrArg (Option.map Prod.fst) hv
  exact hrun
theorem SMapAt.look_ok {w : World} {b : Nat} {m : SMap} (h : SMapAt w b m) {t e : TypeId} (ht : Tryz.prog.underlying t = some (.map 9 e)) {z : Value} (hz : (zeroValue e).run Tryz.prog w = .ok z w) (s : ByteArray) (hs : s.size ≤ maxLen) :
    (Instr.lookup t (.map (some b)) (.string s) true).run Tryz.prog w = .ok (.tuple #[(smGet m s.data.toList).getD z, .bool (smGet m s.data.toList).isSome]) w := by
  obtain ⟨v, ps, hrun, hv⟩ := World.ownsMap.look_ok h lawS ht hz (zd := .held z) (zp := []) rfl (key := .string s) (kl := .string s.data.toList) (Go.WideMaps.keyOf_string_mk Tryz.underlying9 hs)
  rw [smEnc_at] at hv
  rw [smEnc_has] at hrun
  obtain rfl : v = (smGet m s.data.toList).getD z := by simpa [heldR] using congrArg (Option.map Prod.fst) hv
  exact hrun
/-- 'm[s] = v' at the operation. -/
theorem wpList_putS {P : Program} (hP : P = Tryz.prog) (w : World) {ops : Array Oper} {rest : List Oper} {o : Oper} {a : Act} {Q : Exit → Act → World → Prop}
    (hg : o.guard = none) (m x v : Operand) (t : TypeId) (hop : o.op = Op.mapUpdate t m x v) (e : TypeId) (ht : Tryz.prog.underlying t = some (.map 9 e)) (b : Nat) (l : SMap)
    (hm : a.eval m = .map (some b)) (hown : SMapAt w b l) (hn : l.length < maxLen) (s : ByteArray) (val : Value) (hx : a.eval x = .string s) (hs : s.size ≤ maxLen) (hv : a.eval v = val)
    (hK : ∀ w', SMapAt w' b (smPut l s.data.toList val) → OnlyAt b w w' → w'.heap.size = w.heap.size → wpList P ops Q rest (a.put o.dst undef) w') :
    wpList P ops Q (o :: rest) a w := by
  subst hP
  refine wpList_mapUpdate_in w hg m x v t hop 9 e lawS ht heldR b l.length (smEnc l) hm hown hn (.string s) val (.string s.data.toList) hx hv (Go.WideMaps.keyOf_string_mk Tryz.underlying9 hs) (.held val) [] rfl fun w' h1 h2 => ?_
  rw [smEnc_put] at h1
  exact hK w' (SMapAt.of h1) (only_of_turned h2).1 (only_of_turned h2).2
end Go.Proofs.YtdjcdejapkkcmaaGreatDoor
/- The oracle's answers without asking, where nothing is recorded. -/
namespace Go.Proofs.YtdjcdejapkkcmaaGreatDoor
open Go.ChangeShapes Go.WideShapes Go.ChangeAt Go.RowKit

set_option maxRecDepth 100000 in
set_option maxHeartbeats 1000000 in
theorem appendNumber_any (w0 w : World) (B : Nat) (hb : Below B w0 w) (hB0 : B ≤ w0.heap.size) (v : Value) (xs : List Int) (ho : Own u8R B 5 (fun x => False ∨ B ≤ x) w v xs) (n : Int) (n0 : 0 ≤ n) (n1 : n < 18446744073709551616)
    (hl : xs.length ≤ 1000000000) : Calls Tryz.prog 150 #[v, .int .u64 n] w (GrewTo B w0 (xs ++ digs 8 n)) := by
  go_enter Tryz.func150, Tryz.ntmps150
  go_wp2_with fail
  go_loopw [0, 1, 5] (fun vb vn vi wr => ∃ (k : Nat) (m : Int) (ys : List Int), k ≤ 8 ∧ vi = .int .i64 k ∧ vn = .int .u64 m ∧ 0 ≤ m ∧ m < 18446744073709551616 ∧ ys.length = xs.length + k ∧ Hid (ys ++ digs (8 - k) m = xs ++ digs 8 n) ∧
      Own u8R B 5 (fun x => False ∨ B ≤ x) wr vb ys ∧ Below B w0 wr ∧ B ≤ wr.heap.size) (fun _ _ vi _ => 8 - (intOf vi).toNat)
  case atStart => exact ⟨0, n, xs, Nat.zero_le _, rfl, rfl, n0, n1, rfl, rfl, ho, hb, Nat.le_trans hB0 hb.size⟩
  case round =>
    obtain ⟨k, m, ys, hk, rfl, rfl, m0, m1, hyl, hinv, hor, hbr, hBr⟩ := hrel
    have HYL := Lib.hid hyl
    clear hyl
    by_cases hlt : k < 8
    · have HI : Hid ((ys ++ [m % 256]) ++ digs (8 - (k + 1)) (m / 256) = xs ++ digs 8 n) := by
        show _ = _
        rw [← hinv.out, List.append_assoc, show 8 - k = (8 - (k + 1)) + 1 by omega]
        rfl
      have hwf : (Lit.int .u8 (m % 256)).wf = true := by
        simp [Lit.wf, IntKind.min, IntKind.max, IntKind.signed, IntKind.bits]; omega
      have hyR : u8R.rel (fun _ => False) wr [.int .u8 (m % 256)] (m % 256) := ⟨rfl, hwf⟩
      have HO := Lib.hid hor
      have HY := Lib.hid hyR
      have e2 : 0 ≤ m / 256 := by omega
      have e3 : m / 256 < 18446744073709551616 := by omega
      clear hor hyR hwf
      go_wp2_with (at_builtin; refine wpList_push (r := u8R) (wr := wr) (es := [.int .u8 (m % 256)]) (v := u0) (w0 := w0) (B := B) rfl _ _ rfl Tryz.etyBytes rfl rfl hbr hBr HO.out HY.out (fun x hx => hx.elim) (by unfold maxLen; have := HYL.out; omega) (by have := HYL.out; omega) ?_)
      intro v2 w2 ho2 hb2
      have HZ := Lib.hid (Own.mono ho2 (F' := fun x => False ∨ B ≤ x) fun x _ h => by first | exact h | exact .inr h)
      have hB2 : B ≤ w2.heap.size := Nat.le_trans hB0 hb2.size
      clear ho2
      go_wp2_with fail
      go_roundw
      case rel => exact ⟨k + 1, m / 256, ys ++ [m % 256], by omega, by go_num, rfl, e2, e3, by rw [List.length_append, HYL.out]; simp; omega, HI, HZ.out, hb2, hB2⟩
      case measure => simp [intOf]; omega
    · obtain rfl : k = 8 := by omega
      have HF : Hid (ys = xs ++ digs 8 n) := by
        show _ = _
        rw [← hinv.out, Nat.sub_self]; simp [digs]
      go_wp2_with fail
      go_ret
      exact ⟨_, rfl, by rw [← HF.out]; exact hor, hbr⟩

end Go.Proofs.YtdjcdejapkkcmaaGreatDoor
/- The key of numbers, exact. -/
namespace Go.Proofs.YtdjcdejapkkcmaaGreatDoor
open Go.ChangeShapes Go.WideShapes Go.ChangeAt Go.RowKit

theorem bytes_stringX {S : Nat → Prop} {w : World} {v : Value} {ys : List Int} (h : bytesR.rel S w [v] ys) : (convert 28 9 v).run Tryz.prog w = .ok (.string (strOfNums ys)) w := by
  obtain ⟨a, cap, rfl, -⟩ := sliceR.form h
  cases ys with
  | nil =>
    have hE : strOfNums [] = ByteArray.empty := rfl
    rw [hE]
    cases a with
    | none => exact run_convert_bytes_nil (P := Tryz.prog) w 28 5 Tryz.underlying28 Tryz.underlying5 _ _ 9 Tryz.underlying9
    | some ad =>
      rw [run_convert_bytes_string (P := Tryz.prog) w 28 9 5 _ _ _ Tryz.underlying28 Tryz.underlying5 Tryz.underlying9]
      have hl : (loadCells ad 0).run Tryz.prog w = .ok #[] w := by simpa using run_loadCells_list (P := Tryz.prog) w ad [] (by simp)
      rw [List.length_nil, run_bytesToString (P := Tryz.prog) w ad 0 cap [] (by simpa using hl)]
      rfl
  | cons y ys =>
    obtain ⟨b, off, es, rfl, -, -, -, -⟩ := sliceR.at h 0 (by simp)
    refine run_convert_bytes_arg (P := Tryz.prog) w 28 5 Tryz.underlying28 Tryz.underlying5 b off (y :: ys).length cap (y :: ys) rfl (fun i hi => ?_) 9 Tryz.underlying9
    obtain ⟨b', off', he, -, -, -, -, hc⟩ := bytes_at h i hi
    simp at he
    obtain ⟨rfl, rfl⟩ := he
    rw [hc, getD_at _ _ i hi]

/-- The name of some numbers and a list. -/
def keyS (m l : List Int) : ByteArray := strOfNums (digsAll m ++ digsAll l)
set_option maxRecDepth 100000 in
set_option maxHeartbeats 2000000 in
theorem keyX_any (S S' : Nat → Prop) (w : World) (a b : Option Addr) (ca cb : Nat) (l m : List Int) (h : numsR.rel S w [.slice a l.length ca] l) (h' : numsR.rel S' w [.slice b m.length cb] m) (hl : l.length ≤ 1000) (hm : m.length ≤ 1000) :
    Calls Tryz.prog 95 #[.slice a l.length ca, .slice b m.length cb] w fun e w' => e = .returned (.string (keyS m l)) ∧ Below w.heap.size w w' := by
  have H := Lib.hid h
  have H' := Lib.hid h'
  clear h h'
  go_enter Tryz.func95, Tryz.ntmps95
  go_wp2_with (at_make; refine wpList_make_rel rfl _ _ rfl u8R w.heap.size Tryz.etyBytes rfl rfl (n := 8 * (m.length + l.length)) ?_ ?_ ?_ ?_ ?_)
  · go_num
  · omega
  · unfold maxLen; omega
  · exact Nat.le_refl _
  intro w1 ho1 hb1
  have HO1 := Lib.hid (Own.mono ho1 (F' := fun x => False ∨ w.heap.size ≤ x) fun x _ h => .inr (by omega))
  clear ho1
  go_wp2_with fail
  go_loopw [5, 19] (fun vb vi wr => ∃ (k : Nat) (ys : List Int), k ≤ m.length ∧ vi = .int .i64 k ∧ ys.length = 8 * k ∧ Hid (ys = digsAll (m.take k)) ∧ Own u8R w.heap.size 5 (fun x => False ∨ w.heap.size ≤ x) wr vb ys ∧ Below w.heap.size w wr) (fun _ vi _ => m.length - (intOf vi).toNat)
  case atStart => exact ⟨0, [], Nat.zero_le _, rfl, rfl, rfl, HO1.out, hb1⟩
  case round =>
    obtain ⟨k, ys, hk, rfl, hyl, hye, hor, hbr⟩ := hrel
    by_cases hlt : k < m.length
    · obtain ⟨bb, off, rfl, hbl, n0, n1, hc⟩ := nums_at (numsR.keepB H'.out hbr) k hlt
      have HT : Hid (ys ++ digs 8 m[k] = digsAll (m.take (k + 1))) := by show _ = _; rw [List.take_succ_eq_append_getElem hlt, digsAll_snoc, hye.out]
      generalize m[k] = n at *
      go_wp2_with fail
      refine (appendNumber_any w wr w.heap.size hbr (Nat.le_refl _) _ ys hor n n0 n1 (by omega)).mono ?_
      rintro e w3 ⟨v3, rfl, ho3, hb3⟩
      go_wp2_with fail
      go_roundw
      case rel => exact ⟨k + 1, ys ++ digs 8 n, by omega, by go_num, by rw [List.length_append, digs_len]; omega, HT, ho3, hb3⟩
      case measure => simp [intOf]; omega
    · obtain rfl : k = m.length := by omega
      go_wp2_with fail
      go_loopw [5, 29] (fun vb vi wr => ∃ (k : Nat) (ys : List Int), k ≤ l.length ∧ vi = .int .i64 k ∧ ys.length = 8 * m.length + 8 * k ∧ Hid (ys = digsAll m ++ digsAll (l.take k)) ∧ Own u8R w.heap.size 5 (fun x => False ∨ w.heap.size ≤ x) wr vb ys ∧ Below w.heap.size w wr) (fun _ vi _ => l.length - (intOf vi).toNat)
      case atStart => exact ⟨0, ys, Nat.zero_le _, rfl, by omega, by show _ = _; rw [hye.out]; simp [digsAll], hor, hbr⟩
      case round =>
        clear hor hbr hyl hye
        obtain ⟨k, ys, hk, rfl, hyl, hye, hor, hbr⟩ := hrel
        by_cases hlt : k < l.length
        · obtain ⟨bb, off, rfl, hbl, n0, n1, hc⟩ := nums_at (numsR.keepB H.out hbr) k hlt
          have HT : Hid (ys ++ digs 8 l[k] = digsAll m ++ digsAll (l.take (k + 1))) := by show _ = _; rw [List.take_succ_eq_append_getElem hlt, digsAll_snoc, hye.out, List.append_assoc]
          generalize l[k] = n at *
          go_wp2_with fail
          refine (appendNumber_any w _ w.heap.size hbr (Nat.le_refl _) _ ys hor n n0 n1 (by omega)).mono ?_
          rintro e w3 ⟨v3, rfl, ho3, hb3⟩
          go_wp2_with fail
          go_roundw
          case rel => exact ⟨k + 1, ys ++ digs 8 n, by omega, by go_num, by rw [List.length_append, digs_len]; omega, HT, ho3, hb3⟩
          case measure => simp [intOf]; omega
        · obtain rfl : k = l.length := by omega
          have hs := bytes_stringX hor.slice
          have HK : Hid (strOfNums ys = keyS m l) := by show _ = _; rw [hye.out, List.take_length]; rfl
          rw [HK.out] at hs
          go_wp2_with fail
          go_ret
          exact ⟨rfl, hbr⟩
theorem keyX_one (S S' : Nat → Prop) (w : World) (a b : Option Addr) (ca cb : Nat) (l : List Int) (x : Int) (h : numsR.rel S w [.slice a l.length ca] l) (h' : numsR.rel S' w [.slice b 1 cb] [x]) (hl : l.length ≤ 1000) :
    Calls Tryz.prog 95 #[.slice a l.length ca, .slice b 1 cb] w fun e w' => e = .returned (.string (keyS [x] l)) ∧ Below w.heap.size w w' := keyX_any S S' w a b ca cb l [x] h h' hl (by simp)
theorem keyX_len (S S' : Nat → Prop) (w : World) (a b : Option Addr) (len ca cb : Nat) (l : List Int) (x : Int) (hlen : l.length = len) (h : numsR.rel S w [.slice a len ca] l) (h' : numsR.rel S' w [.slice b 1 cb] [x]) (hl : len ≤ 1000) :
    Calls Tryz.prog 95 #[.slice a len ca, .slice b 1 cb] w fun e w' => e = .returned (.string (keyS [x] l)) ∧ Below w.heap.size w w' := by
  subst hlen
  exact keyX_one S S' w a b ca cb l x h h' hl

/-- Numbers below 2^64 with the same digits are the same. -/
theorem digs_bytej : ∀ (k : Nat) {a b : Int}, 0 ≤ a → 0 ≤ b → a < 256 ^ k → b < 256 ^ k → digs k a = digs k b → a = b
  | 0, a, b, a0, b0, a1, b1, _ => by simp at a1 b1; omega
  | k + 1, a, b, a0, b0, a1, b1, h => by
    simp only [digs, List.cons.injEq] at h
    have h1 : a / 256 < 256 ^ k := by
      rw [Int.pow_succ] at a1; exact Int.ediv_lt_of_lt_mul (by omega) a1
    have h2 : b / 256 < 256 ^ k := by
      rw [Int.pow_succ] at b1; exact Int.ediv_lt_of_lt_mul (by omega) b1
    have := digs_bytej k (by omega) (by omega) h1 h2 h.2
    omega
theorem digsAll_inj : ∀ {l m : List Int}, (∀ x ∈ l, okU x) → (∀ x ∈ m, okU x) → digsAll l = digsAll m → l = m
  | [], [], _, _, _ => rfl
  | [], y :: m, _, _, h => by simp [digsAll, digs] at h
  | x :: l, [], _, _, h => by simp [digsAll, digs] at h
  | x :: l, y :: m, hl, hm, h => by
    simp only [digsAll] at h
    obtain ⟨h1, h2⟩ := List.append_inj h (by rw [digs_len, digs_len])
    have bx := okU_in (hl x (by simp))
    have by' := okU_in (hm y (by simp))
    rw [digs_bytej 8 bx.1 by'.1 (by have := bx.2; omega) (by have := by'.2; omega) h1, digsAll_inj (fun z hz => hl z (by simp [hz])) (fun z hz => hm z (by simp [hz])) h2]
theorem digsAll_app : ∀ (l m : List Int), digsAll (l ++ m) = digsAll l ++ digsAll m
  | [], m => rfl
  | x :: l, m => by simp [digsAll, digsAll_app l m]
theorem digs_byte : ∀ (k : Nat) (a : Int), ∀ d ∈ digs k a, 0 ≤ d ∧ d < 256
  | 0, _, d, h => by simp [digs] at h
  | k + 1, a, d, h => by
    simp only [digs, List.mem_cons] at h
    rcases h with rfl | h
    · omega
    · exact digs_byte k _ d h
theorem digsAll_in : ∀ (l : List Int), ∀ d ∈ digsAll l, 0 ≤ d ∧ d < 256
  | [], d, h => by simp [digsAll] at h
  | x :: l, d, h => by
    simp only [digsAll, List.mem_append] at h
    rcases h with h | h
    · exact digs_byte 8 x d h
    · exact digsAll_in l d h
theorem strOfNums_inj : ∀ {l m : List Int}, (∀ d ∈ l, 0 ≤ d ∧ d < 256) → (∀ d ∈ m, 0 ≤ d ∧ d < 256) → (l.map fun n => UInt8.ofNat n.toNat) = (m.map fun n => UInt8.ofNat n.toNat) → l = m
  | [], [], _, _, _ => rfl
  | [], y :: m, _, _, h => by simp at h
  | x :: l, [], _, _, h => by simp at h
  | x :: l, y :: m, hl, hm, h => by
    simp only [List.map_cons, List.cons.injEq] at h
    have bx := hl x (by simp)
    have by' := hm y (by simp)
    have e : x.toNat = y.toNat := by
      have := congrArg UInt8.toNat h.1
      rw [UInt8.toNat_ofNat', UInt8.toNat_ofNat'] at this
      omega
    rw [strOfNums_inj (fun z hz => hl z (by simp [hz])) (fun z hz => hm z (by simp [hz])) h.2]
    congr 1
    omega
theorem keyS_inj {x y : Int} {l m : List Int} (hx : okU x) (hy : okU y) (hl : ∀ z ∈ l, okU z) (hm : ∀ z ∈ m, okU z) (h : keyS [x] l = keyS [y] m) : x = y ∧ l = m := by
  unfold keyS at h
  rw [← digsAll_app, ← digsAll_app] at h
  have h2 := congrArg (fun b : ByteArray => b.data.toList) h
  simp only [strOfNums_data] at h2
  have h3 := strOfNums_inj (digsAll_in _) (digsAll_in _) h2
  have h4 := digsAll_inj (l := [x] ++ l) (m := [y] ++ m) (by simpa using ⟨hx, hl⟩) (by simpa using ⟨hy, hm⟩) h3
  simpa using h4

end Go.Proofs.YtdjcdejapkkcmaaGreatDoor
/- Oracles: what they have recorded; made and asked for their mode. -/
namespace Go.Proofs.YtdjcdejapkkcmaaGreatDoor
open Go.ChangeShapes Go.WideShapes Go.ChangeAt Go.RowKit

/-- A question that was asked, with its answer. -/
structure QuM where
  label : Int
  elems : List Int
  ans : Int
def quR : Rep QuM := mapR (fun q => (q.label, q.elems, q.ans)) (pairR u64R (pairR numsR u64R))
theorem quR.n : quR.n = 3 := rfl
theorem quR.inv {S : Nat → Prop} {w : World} {cs : List Value} {q : QuM} (h : quR.rel S w cs q) :
    ∃ a cap, cs = [.int .u64 q.label, .slice a q.elems.length cap, .int .u64 q.ans] ∧ okU q.label ∧ okU q.ans ∧ numsR.rel S w [.slice a q.elems.length cap] q.elems := by
  obtain ⟨c1, c2, rfl, ⟨rfl, w1⟩, d1, d2, rfl, h2, ⟨rfl, w3⟩⟩ := h
  obtain ⟨a, cap, rfl⟩ := one_form h2
  exact ⟨a, cap, rfl, w1, w3, h2⟩
theorem quR.mk {S : Nat → Prop} {w : World} {q : QuM} {a : Option Addr} {len cap : Nat} (h1 : okU q.label) (h2 : numsR.rel S w [.slice a len cap] q.elems) (h3 : okU q.ans) : quR.rel S w [.int .u64 q.label, .slice a len cap, .int .u64 q.ans] q :=
  ⟨[_], [_, _], rfl, ⟨rfl, h1⟩, [_], [_], rfl, h2, rfl, h3⟩
/-- What an oracle knows: its mode, its state, the number of draws, the questions. -/
structure OrM where
  ideal : Bool
  st : Int
  n : Nat
  qs : List QuM
/-- The answers are elements; those of the real oracle are hashes. -/
structure OrOk (m : OrM) : Prop where
  st : okU m.st
  ans : ∀ q ∈ m.qs, 0 ≤ q.ans ∧ q.ans < 18446744069414584321
  ask : ∀ q ∈ m.qs, okU q.label ∧ (∀ x ∈ q.elems, okU x) ∧ q.elems.length ≤ 1000
  real : m.ideal = false → ∀ q ∈ m.qs, q.ans = hashS q.label q.elems
  lim : m.n + m.qs.length ≤ 100000
/-- The map of what is known leads to the questions. -/
def KnOK (m : OrM) (km : SMap) : Prop :=
  km.length ≤ m.qs.length ∧ (∀ e ∈ km, ∃ (i : Nat) (q : QuM), m.qs[i]? = some q ∧ e.2 = .int .i64 i ∧ e.1 = (keyS [q.label] q.elems).data.toList) ∧
  ∀ (i : Nat) (q : QuM), m.qs[i]? = some q → smGet km (keyS [q.label] q.elems).data.toList = some (.int .i64 i)
structure OrMem (p mk ms mp : Nat) (va : Value) (F : Nat → Prop) (km sm pm : SMap) (w : World) (m : OrM) : Prop where
  box : w.heap[p]? = some (.cells #[.bool m.ideal, .int .u64 m.st, .int .i64 m.n, va, .map (some mk), .map (some ms), .map (some mp)] 91 (0, 0))
  row : Own quR 0 118 (fun k => F k ∧ k ≠ p ∧ k ≠ mk ∧ k ≠ ms ∧ k ≠ mp) w va m.qs
  known : SMapAt w mk km
  kn : KnOK m km
  sealed : SMapAt w ms sm
  proofs : SMapAt w mp pm
  lim : sm.length + pm.length ≤ m.n
  fp : F p
  fk : F mk
  fs : F ms
  fm : F mp
  nkp : mk ≠ p
  nsp : ms ≠ p
  nmp : mp ≠ p
  nks : mk ≠ ms
  nkm : mk ≠ mp
  nsm : ms ≠ mp
/-- At block p lies an oracle; all of its memory lies in F. -/
def OrG (F : Nat → Prop) (p : Nat) (w : World) (m : OrM) : Prop := OrOk m ∧ ∃ mk ms mp va km sm pm, OrMem p mk ms mp va F km sm pm w m
theorem OrMem.keep {p mk ms mp : Nat} {va : Value} {F : Nat → Prop} {km sm pm : SMap} {w w' : World} {m : OrM} (h : OrMem p mk ms mp va F km sm pm w m) (hk : Kept F w w') : OrMem p mk ms mp va F km sm pm w' m :=
  ⟨box_kept hk h.box h.fp, h.row.keep (hk.mono fun _ _ h => h.1), h.known.keep hk h.fk, h.kn, h.sealed.keep hk h.fs, h.proofs.keep hk h.fm, h.lim, h.fp, h.fk, h.fs, h.fm, h.nkp, h.nsp, h.nmp, h.nks, h.nkm, h.nsm⟩
theorem OrG.keep {F : Nat → Prop} {p : Nat} {w w' : World} {m : OrM} (h : OrG F p w m) (hk : Kept F w w') : OrG F p w' m := by
  obtain ⟨ok, mk, ms, mp, va, km, sm, pm, h⟩ := h
  exact ⟨ok, mk, ms, mp, va, km, sm, pm, h.keep hk⟩
theorem OrG.keepB {F : Nat → Prop} {p : Nat} {w w' : World} {m : OrM} (h : OrG F p w m) (hb : Below w.heap.size w w') : OrG F p w' m := h.keep (Kept.of_below hb)
theorem OrMem.mono {p mk ms mp : Nat} {va : Value} {F F' : Nat → Prop} {km sm pm : SMap} {w : World} {m : OrM} (h : OrMem p mk ms mp va F km sm pm w m) (hF : ∀ k, k < w.heap.size → F k → F' k) : OrMem p mk ms mp va F' km sm pm w m :=
  ⟨h.box, h.row.mono fun k hk h => ⟨hF k hk h.1, h.2⟩, h.known, h.kn, h.sealed, h.proofs, h.lim, hF _ (box_lt h.box) h.fp, hF _ h.known.lt h.fk, hF _ h.sealed.lt h.fs, hF _ h.proofs.lt h.fm, h.nkp, h.nsp, h.nmp, h.nks, h.nkm, h.nsm⟩
theorem OrMem.bound {p mk ms mp : Nat} {va : Value} {F : Nat → Prop} {km sm pm : SMap} {w : World} {m : OrM} (h : OrMem p mk ms mp va F km sm pm w m) : OrMem p mk ms mp va (fun k => F k ∧ k < w.heap.size) km sm pm w m := h.mono fun _ hk h => ⟨h, hk⟩
theorem OrG.mono {F F' : Nat → Prop} {p : Nat} {w : World} {m : OrM} (h : OrG F p w m) (hF : ∀ k, k < w.heap.size → F k → F' k) : OrG F' p w m := by
  obtain ⟨ok, mk, ms, mp, va, km, sm, pm, h⟩ := h
  exact ⟨ok, mk, ms, mp, va, km, sm, pm, h.mono hF⟩
theorem OrG.lt {F : Nat → Prop} {p : Nat} {w : World} {m : OrM} (h : OrG F p w m) : p < w.heap.size := by
  obtain ⟨ok, mk, ms, mp, va, km, sm, pm, h⟩ := h
  exact box_lt h.box
/-- At block p: some oracle of this mode. -/
def OrAt (ideal : Bool) (st : Int) (p : Nat) (w : World) : Prop := ∃ F m, OrG F p w m ∧ m.ideal = ideal ∧ m.st = st
theorem OrAt.keepB {ideal : Bool} {st : Int} {p : Nat} {w w' : World} (h : OrAt ideal st p w) (hb : Below w.heap.size w w') : OrAt ideal st p w' := by
  obtain ⟨F, m, h1, h2⟩ := h
  exact ⟨F, m, h1.keepB hb, h2⟩
theorem OrG.at {F : Nat → Prop} {p : Nat} {w : World} {m : OrM} (h : OrG F p w m) : OrAt m.ideal m.st p w := ⟨F, m, h, rfl, rfl⟩
/-- A new oracle was returned; nothing that was there has changed. -/
def NewOr (ideal : Bool) (st : Int) (w : World) (e : Ending) (w' : World) : Prop :=
  ∃ p, e = .returned (.pointer (some ⟨p, 0, none⟩)) ∧ w.heap.size ≤ p ∧ OrG (fun k => w.heap.size ≤ k) p w' ⟨ideal, st, 0, []⟩ ∧ Below w.heap.size w w'

theorem four_new (w : World) (a b c d : Obj) : ((((w.alloc a).alloc b).alloc c).alloc d).heap[w.heap.size + 3]? = some d ∧ ((((w.alloc a).alloc b).alloc c).alloc d).heap[w.heap.size + 2]? = some c ∧
    ((((w.alloc a).alloc b).alloc c).alloc d).heap[w.heap.size + 1]? = some b ∧ ((((w.alloc a).alloc b).alloc c).alloc d).heap[w.heap.size]? = some a := by
  have e1 : (w.alloc a).heap.size = w.heap.size + 1 := World.size_alloc ..
  have e2 : ((w.alloc a).alloc b).heap.size = w.heap.size + 2 := by rw [World.size_alloc, e1]
  have e3 : (((w.alloc a).alloc b).alloc c).heap.size = w.heap.size + 3 := by rw [World.size_alloc, e2]
  exact ⟨e3 ▸ box_new _ d, box_old (e2 ▸ box_new _ c), box_old (box_old (e1 ▸ box_new _ b)), box_old (box_old (box_old (box_new _ a)))⟩
theorem orNew_ok {ideal : Bool} {st : Int} (h : okU st) : OrOk ⟨ideal, st, 0, []⟩ := ⟨h, by simp, by simp, by simp, by simp⟩
theorem orMem_new {w : World} {B p mk ms mp : Nat} {ideal : Bool} {st : Int} (h : w.heap[p]? = some (.cells #[.bool ideal, .int .u64 st, .int .i64 0, .slice none 0 0, .map (some mk), .map (some ms), .map (some mp)] 91 (0, 0)))
    (hk : w.heap[mk]? = some (.map #[] 0)) (hs : w.heap[ms]? = some (.map #[] 0)) (hm : w.heap[mp]? = some (.map #[] 0)) (b0 : B ≤ p) (b1 : B ≤ mk) (b2 : B ≤ ms) (b3 : B ≤ mp) (n1 : mk ≠ ms) (n2 : mk ≠ mp) (n3 : ms ≠ mp) :
    OrMem p mk ms mp (.slice none 0 0) (fun k => B ≤ k) [] [] [] w ⟨ideal, st, 0, []⟩ := by
  have hno : ∀ b, w.heap[b]? = some (.map #[] 0) → b ≠ p := fun b hb e => by rw [e, h] at hb; cases hb
  exact ⟨h, Own.nil _ _ _ _ _, sMapAt_empty hk, ⟨Nat.le_refl _, by simp, by simp⟩, sMapAt_empty hs, sMapAt_empty hm, Nat.le_refl _, b0, b1, b2, b3, hno _ hk, hno _ hs, hno _ hm, n1, n2, n3⟩
set_option maxHeartbeats 1000000 in
theorem newOracle_any (w : World) : Calls Tryz.prog 45 #[] w fun e w' => e = .returned (.pointer (some ⟨w.heap.size + 3, 0, none⟩)) ∧ OrMem (w.heap.size + 3) w.heap.size (w.heap.size + 1) (w.heap.size + 2) (.slice none 0 0) (fun k => w.heap.size ≤ k) [] [] [] w' ⟨false, 0, 0, []⟩ ∧ Below w.heap.size w w' := by
  have hmm := @run_makeMap Tryz.prog
  obtain ⟨q1, q2, q3, q4⟩ := four_new w (.map #[] 0) (.map #[] 0) (.map #[] 0) (.cells #[.bool false, .int .u64 0, .int .i64 0, .slice none 0 0, .map (some w.heap.size), .map (some (w.heap.size + 1)), .map (some (w.heap.size + 2))] 91)
  have HM := Lib.hid (orMem_new (B := w.heap.size) q1 q4 q3 q2 (by omega) (Nat.le_refl _) (by omega) (by omega) (by omega) (by omega) (by omega))
  clear q1 q2 q3 q4
  go_enter Tryz.func45, Tryz.ntmps45
  go_wp2
  go_ret
  exact ⟨rfl, HM.out, bnew (bnew (bnew (bnew (Below.refl _ _) _) _) _) _⟩
theorem real_any (w : World) : Calls Tryz.prog 17 #[] w (NewOr false 0 w) := by
  go_enter Tryz.func17, Tryz.ntmps17
  go_wp2_with fail
  refine (newOracle_any w).mono ?_
  rintro e w1 ⟨rfl, h2, h3⟩
  go_wp2
  go_ret
  exact ⟨_, rfl, by omega, ⟨orNew_ok (okU_of (by omega) (by omega)), _, _, _, _, _, _, _, h2⟩, h3⟩
set_option maxHeartbeats 1000000 in
theorem ideal_any (w : World) (st : Int) (hst : okU st) : Calls Tryz.prog 20 #[.int .u64 st] w (NewOr true st w) := by
  have HS := Lib.hid hst
  clear hst
  go_enter Tryz.func20, Tryz.ntmps20
  go_wp2_with fail
  refine (newOracle_any w).mono ?_
  rintro e w1 ⟨rfl, hm, h3⟩
  obtain ⟨c0, c1⟩ := box_cells hm.box
  obtain ⟨G, hG⟩ : ∃ G, w.heap.size + 3 = G := ⟨_, rfl⟩
  have HG := Lib.hid hG
  rw [hG] at hm c0 c1 ⊢
  have HM := Lib.hid hm
  clear hm hG
  go_wp2
  go_ret
  have m := HM.out
  have k : Kept (fun k => k ≠ G) w1 ((w1.setCell ⟨G, 0, none⟩ (.bool true)).setCell ⟨G, 1, none⟩ (.int .u64 st)) := ((Kept.refl _ _).setCell (fun _ h => h rfl) _).setCell (fun _ h => h rfl) _
  have gb : w.heap.size ≤ G := by have := HG.out; omega
  refine ⟨G, rfl, gb, ⟨orNew_ok HS.out, _, _, _, _, _, _, _, ⟨box_set (box_set m.box), Own.nil _ _ _ _ _, m.known.keep k m.nkp, ⟨Nat.le_refl _, by simp⟩, m.sealed.keep k m.nsp, m.proofs.keep k m.nmp, Nat.le_refl _, gb, m.fk, m.fs, m.fm, m.nkp, m.nsp, m.nmp, m.nks, m.nkm, m.nsm⟩⟩, (h3.setCell gb _).setCell gb _⟩
theorem isIdeal_any (w : World) (p : Nat) (ideal : Bool) (st : Int) (h : OrAt ideal st p w) : Calls Tryz.prog 47 #[.pointer (some ⟨p, 0, none⟩)] w fun e w' => e = .returned (.bool ideal) ∧ w = w' := by
  obtain ⟨F, m, ⟨-, mk, ms, mp, va, km, sm, pm, h⟩, rfl, -⟩ := h
  obtain ⟨c0, c1⟩ := box_cells h.box
  have k0 := c0 0
  simp at k0
  clear c0 h
  go_enter Tryz.func47, Tryz.ntmps47
  go_wp2
  go_ret
  exact ⟨rfl, rfl⟩
end Go.Proofs.YtdjcdejapkkcmaaGreatDoor
