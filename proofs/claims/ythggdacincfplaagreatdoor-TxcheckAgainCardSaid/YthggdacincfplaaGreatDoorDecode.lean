/- Decode. -/
import Derived.Test.YthggdacincfplaaGreatDoorDecA
import Derived.Deep.Cut
import Derived.Deep.CutRange
namespace Go.Proofs.YthggdacincfplaaGreatDoor
open Go.ChangeShapes Go.WideShapes Go.ChangeAt Go.RowKit

abbrev SpOwn (B : Nat) (w : World) (v : Value) (l : List SpentM) : Prop := Own spentR B 118 (fun x => False ∨ B ≤ x) w v l
abbrev NtOwn (B : Nat) (w : World) (v : Value) (l : List NoteM) : Prop := Own noteR B 113 (fun x => False ∨ B ≤ x) w v l
theorem SpOwn.read {B p : Nat} {w w2 : World} {v : Value} {l : List SpentM} {rd : RdM} (h : SpOwn B w v l) (hp : p < B) (hr : RdTo p w rd w2) : SpOwn B w2 v l := h.keep (hr.2.mono fun k _ h => by rcases h with h | h; exact h.elim; omega)
theorem NtOwn.read {B p : Nat} {w w2 : World} {v : Value} {l : List NoteM} {rd : RdM} (h : NtOwn B w v l) (hp : p < B) (hr : RdTo p w rd w2) : NtOwn B w2 v l := h.keep (hr.2.mono fun k _ h => by rcases h with h | h; exact h.elim; omega)
theorem SpOwn.store {B q : Nat} {w : World} {v : Value} {l : List SpentM} (h : SpOwn B w v l) (hq : q < B) (i : Nat) (u : Value) : SpOwn B (w.setCell ⟨q, i, none⟩ u) v l := h.keep ((Kept.refl _ _).setCell (fun _ h => by have h' : False ∨ B ≤ q := h; rcases h' with h' | h'; exact h'; omega) _)
theorem NtOwn.store {B q : Nat} {w : World} {v : Value} {l : List NoteM} (h : NtOwn B w v l) (hq : q < B) (i : Nat) (u : Value) : NtOwn B (w.setCell ⟨q, i, none⟩ u) v l := h.keep ((Kept.refl _ _).setCell (fun _ h => by have h' : False ∨ B ≤ q := h; rcases h' with h' | h'; exact h'; omega) _)

def decodeS (bs : List Int) : Option WitM :=
  match RdM.spents (RdM.int ⟨bs, 0, false⟩ 4).1.toNat (RdM.int ⟨bs, 0, false⟩ 4).2 [] with
  | (ins, r) => match RdM.notes (r.int 4).1.toNat (r.int 4).2 [] with
    | (outs, r') => if (r'.uint 18446744069414584320).2.done = true then some ⟨ins, outs, (r'.uint 18446744069414584320).1⟩ else none
/-- What Decode hands back. -/
def DecOut (bs : List Int) (w : World) (e : Ending) (w' : World) : Prop :=
  match decodeS bs with
  | none => e = .returned (.tuple #[.agg #[.slice none 0 0, .slice none 0 0, .int .u64 0], .int .i64 2]) ∧ Below w.heap.size w w'
  | some t => ∃ a1 c1 a2 c2, e = .returned (.tuple #[.agg #[.slice a1 t.ins.length c1, .slice a2 t.outs.length c2, .int .u64 t.secret], .int .i64 0]) ∧
      spentsR.rel (fun _ => True) w' [.slice a1 t.ins.length c1] t.ins ∧ notesR.rel (fun _ => True) w' [.slice a2 t.outs.length c2] t.outs ∧ okU t.secret ∧ Below w.heap.size w w'

set_option maxRecDepth 100000 in
set_option maxHeartbeats 8000000 in
theorem decode_any (w : World) (a : Option Addr) (cap : Nat) (bs : List Int) (S : Nat → Prop) (h : bytesR.rel S w [.slice a bs.length cap] bs) (hx : bs.length ≤ 1000000) :
    Calls Tryz.prog 24 #[.slice a bs.length cap] w (DecOut bs w) := by
  have hb0 := bnew (Below.refl w.heap.size w) (.cells #[.slice none 0 0, .slice none 0 0, .int .u64 0] 78)
  have HX := Lib.hid (box_new w (.cells #[.slice none 0 0, .slice none 0 0, .int .u64 0] 78))
  have H := Lib.hid (bytesR.keepB h hb0)
  have HB0 := Lib.hid hb0
  have hs0 : (w.alloc (.cells #[.slice none 0 0, .slice none 0 0, .int .u64 0] 78)).heap.size = w.heap.size + 1 := World.size_alloc ..
  have HS0 := Lib.hid hs0
  clear hb0 h hs0
  go_enter Tryz.func24, Tryz.ntmps24
  go_wp2_with fail
  refine (newReader_any S _ a cap bs H.out hx).mono ?_
  rintro e w1 ⟨p, rfl, hp1, hrd1, hb1⟩
  have hlay : DecLay w p w1.heap.size (w1.heap.size + 1) := by
    have h1 := HS0.out
    have h2 := hrd1.lt
    rw [h1] at hp1
    exact ⟨by omega, by omega, by omega, by omega, by omega⟩
  have hbq := bnew (Below.refl w1.heap.size w1) (.cells #[.slice none 0 0, .slice none 0 0, .int .u64 0] 78)
  have hd : DecAt w p w1.heap.size (w1.heap.size + 1) (.slice none 0 0) (.slice none 0 0) 0 ⟨bs, 0, false⟩ (w1.alloc (.cells #[.slice none 0 0, .slice none 0 0, .int .u64 0] 78)) :=
    ⟨bnext (bnext HB0.out hb1) hbq, hrd1.keep hbq, box_new _ _, box_old (box_after hb1 HX.out), by rw [World.size_alloc]; exact Nat.le_refl _⟩
  have HD := Lib.hid hd
  have HL := Lib.hid hlay
  clear hd hlay hbq hrd1 hb1 hp1 HX HB0 HS0 H
  go_wp2_with fail
  generalize w1.alloc (.cells #[.slice none 0 0, .slice none 0 0, .int .u64 0] 78) = W at HD ⊢
  generalize hq : w1.heap.size = q at *
  generalize hBq : q + 1 = B at *
  refine (rdInt_any W p _ HD.out.rd 4 (by omega) (by omega)).mono ?_
  rintro e w2 ⟨rfl, h2, n0, n1⟩
  have HD2 := Lib.hid (HD.out.read HL.out h2)
  obtain ⟨N, hN⟩ := Int.eq_ofNat_of_zero_le n0
  have HN := Lib.hid hN
  rw [hN] at n1 ⊢
  clear hN n0 h2 HD
  obtain ⟨r1, hr1⟩ : ∃ r1, (RdM.int ⟨bs, 0, false⟩ 4).2 = r1 := ⟨_, rfl⟩
  have HR1 := Lib.hid hr1
  rw [hr1] at HD2
  clear hr1
  have hN4 : N ≤ 4 := by omega
  go_wp2_with fail
  go_loopw [10] (fun vi wr => ∃ (k : Nat) (rd : RdM) (v : Value) (ins : List SpentM), k ≤ N ∧ vi = .int .i64 k ∧ ins.length = k ∧ DecAt w p q B v (.slice none 0 0) 0 rd wr ∧ SpOwn B wr v ins ∧ Hid (RdM.spents (N - k) rd ins = RdM.spents N r1 [])) (fun vi _ => N - (intOf vi).toNat)
  case atStart => exact ⟨0, r1, .slice none 0 0, [], Nat.zero_le _, rfl, rfl, HD2.out, Own.nil _ _ _ _ _, rfl⟩
  case round =>
    obtain ⟨k, rd, v, ins, hk, rfl, hil, hd, hown, hinv⟩ := hrel
    by_cases hks : k < N
    · obtain ⟨j, hj⟩ : ∃ j, N - k = j + 1 := ⟨N - k - 1, by omega⟩
      have hj2 : N - (k + 1) = j := by omega
      rw [hj] at hinv
      have HI : Hid (RdM.spents j rd.s5 (ins ++ [rd.spent]) = RdM.spents N r1 []) := hinv
      have HDr := Lib.hid (hd.drew HL.out)
      have HOr := Lib.hid (show SpOwn B wr.drew v ins from hown.keepB (Below.refl _ _).drew)
      have HLT := Lib.hid (fun k (hk : v.ownBlock = some k) => (hown.lt hk).1)
      obtain ⟨x0, x1⟩ := box_cells hd.box
      clear hinv hd hown
      go_wp2_with fail
      go_region_law (first
        | (refine step_append_rel (r := spentR) (base := B) (v := v) (u := .slice (some ⟨w7.heap.size, 0, none⟩) 1 1) rfl _ _ rfl Tryz.etySpent rfl rfl (Own.keepB O6.out (bnew (Below.refl _ _) _)) (Src.one (spentR.keepB SREL.out (bnew (Below.refl _ _) _)) (CellsAt.new w7 (spentCells rd.spent pa pc) 118)) (fun k _ h => .inr (Nat.le_trans HDr.out.base h)) (fun k hk h => absurd (HLT.out k hk) (Nat.not_lt.2 h)) (by unfold maxLen; simp; omega) (by simp; omega) (Nat.le_trans G6.out.base (by rw [World.size_alloc]; omega)) ?_
           intro v2 w8 ho8 hk8 hl8
           obtain ⟨a2, cap2, rfl, -, -⟩ := sliceR.form ho8.slice
           have G8 := Lib.hid (DecAt.kept HL.out (DecAt.keepB HL.out G6.out (bnew (Below.refl _ _) _)) (hk8.mono (S' := fun k => k < B) fun k _ hkB he => by have := (Own.lt O6.out he).2.2; omega))
           have O8 : Hid (SpOwn B w8 (.slice a2 (ins ++ [rd.spent]).length cap2) (ins ++ [rd.spent])) := ho8.mono fun k _ h => by
             rcases h with h | h
             · exact h
             · exact .inr (Nat.le_trans G6.out.base (Nat.le_trans (by rw [World.size_alloc]; omega) h))
           obtain ⟨t0, t1⟩ := box_cells G8.out.box)
        | (go_simp; first
          | (go_at_call 41; refine (readNote_any _ p rd HDr.out.rd).mono ?_; rintro e w2 ⟨rfl, g1, okn⟩
             have G1 := Lib.hid (DecAt.read HL.out HDr.out g1); have O1 := Lib.hid (SpOwn.read HOr.out HL.out.pB g1); obtain ⟨y0, y1⟩ := box_cells G1.out.box)
          | (go_at_call 42; refine (rdUint_any _ p rd.n4 G1.out.rd 18446744069414584320 (by omega)).mono ?_; rintro e w3 ⟨rfl, g2, a0, a1⟩
             have G2 : Hid (DecAt w p q B v (.slice none 0 0) 0 rd.s1 w3) := DecAt.read HL.out G1.out g2; have O2 := Lib.hid (SpOwn.read O1.out HL.out.pB g2); obtain ⟨z0, z1⟩ := box_cells G2.out.box)
          | (go_at_call_of 40 (Value.int IntKind.i64 3); refine (rdInt_any _ p rd.s1 G2.out.rd 3 (by omega) (by omega)).mono ?_; rintro e w4 ⟨rfl, g3, b0, b1⟩
             have G3 : Hid (DecAt w p q B v (.slice none 0 0) 0 rd.s2 w4) := DecAt.read HL.out G2.out g3; have O3 := Lib.hid (SpOwn.read O2.out HL.out.pB g3); obtain ⟨m0, m1⟩ := box_cells G3.out.box)
          | (go_at_call_of 40 (Value.int IntKind.i64 4095); refine (rdInt_any _ p rd.s2 G3.out.rd 4095 (by omega) (by omega)).mono ?_; rintro e w5 ⟨rfl, g4, c0, c1⟩
             have G4 : Hid (DecAt w p q B v (.slice none 0 0) 0 rd.s3 w5) := DecAt.read HL.out G3.out g4; have O4 := Lib.hid (SpOwn.read O3.out HL.out.pB g4); obtain ⟨l0, l1⟩ := box_cells G4.out.box)
          | (go_at_call 43; refine (rdList_any _ p rd.s3 G4.out.rd 12 18446744069414584321 (by omega) (by omega)).mono ?_; rintro e w6 ⟨pa, pc, rfl, hpath, g5⟩
             have G5 : Hid (DecAt w p q B v (.slice none 0 0) 0 rd.s4 w6) := DecAt.read HL.out G4.out g5; have O5 := Lib.hid (SpOwn.read O4.out HL.out.pB g5); obtain ⟨i0, i1⟩ := box_cells G5.out.box; have HPATH := Lib.hid hpath; clear hpath)
          | (go_at_call_of 40 (Value.int IntKind.i64 1); refine (rdInt_any _ p rd.s4 G5.out.rd 1 (by omega) (by omega)).mono ?_; rintro e w7 ⟨rfl, g6, d0, d1⟩
             have G6 : Hid (DecAt w p q B v (.slice none 0 0) 0 rd.s5 w7) := DecAt.read HL.out G5.out g6; have O6 := Lib.hid (SpOwn.read O5.out HL.out.pB g6); obtain ⟨k0, k1⟩ := box_cells G6.out.box; have kk := fun o' => (box_cells (box_old (o' := o') G6.out.box)).1
             have SREL : Hid (spentR.rel (fun k => wr.heap.size ≤ k) w7 (spentCells rd.spent pa pc) rd.spent) :=
               spentR.mk (s := rd.spent) ⟨okn, okU_of a0 (Int.lt_of_le_of_lt a1 (by omega)), okI_of (Int.le_trans (by omega) b0) (Int.lt_of_le_of_lt b1 (by omega)), okI_of (Int.le_trans (by omega) c0) (Int.lt_of_le_of_lt c1 (by omega))⟩
                 (numsR.mono (numsR.keep HPATH.out (g6.2.mono fun k _ h => Nat.ne_of_gt (Nat.lt_of_lt_of_le HL.out.pB (Nat.le_trans G4.out.base h)))) fun k _ h => Nat.le_trans (Nat.le_trans (show wr.heap.size ≤ w2.heap.size from g1.2.size) (Nat.le_trans g2.2.size (Nat.le_trans g3.2.size g4.2.size))) h))))
      all_goals
        have HFIN := Lib.hid (DecAt.store HL.out G8.out 0 (.slice a2 (ins ++ [rd.spent]).length cap2) rfl)
        have O9 := Lib.hid (SpOwn.store O8.out HL.out.qB 0 (.slice a2 (ins ++ [rd.spent]).length cap2))
        go_wp2_with fail
        go_roundw
        case rel => exact ⟨k + 1, rd.s5, .slice a2 (ins ++ [rd.spent]).length cap2, ins ++ [rd.spent], by omega, by go_num, by rw [List.length_append, hil]; rfl, by simpa [hil] using HFIN.out, by simpa [hil] using O9.out, by rw [hj2]; exact HI⟩
        case measure => simp [intOf]; omega
    · obtain rfl : k = N := by omega
      subst hil
      rw [Nat.sub_self] at hinv
      have HI1 : Hid (RdM.spents ins.length r1 [] = (ins, rd)) := hinv.out.symm
      have hCB := hd.base
      have HINS := Lib.hid (spentsR.bound hown.slice)
      obtain ⟨a1, c1, rfl, -, -⟩ := sliceR.form hown.slice
      obtain ⟨C, hC⟩ : ∃ C, wr.heap.size = C := ⟨_, rfl⟩
      rw [hC] at hCB
      have HINS2 : Hid (spentsR.rel (fun x => B ≤ x ∧ x < C) wr [.slice a1 ins.length c1] ins) := spentsR.mono HINS.out fun x _ h => ⟨h.1.resolve_left id, by rw [← hC]; exact h.2⟩
      have HDw := Lib.hid hd
      have hCw : C ≤ wr.heap.size := by omega
      clear hinv hd hown HINS hC HD2
      go_wp2_with fail
      refine (rdInt_any wr p rd HDw.out.rd 4 (by omega) (by omega)).mono ?_
      rintro e w3 ⟨rfl, h3, n2, n3⟩
      have HD3 := Lib.hid (HDw.out.read HL.out h3)
      have HI3 : Hid (spentsR.rel (fun x => B ≤ x ∧ x < C) w3 [.slice a1 ins.length c1] ins) := spentsR.keep HINS2.out (h3.2.mono fun x _ h => Nat.ne_of_gt (Nat.lt_of_lt_of_le HL.out.pB h.1))
      have hC3 : C ≤ w3.heap.size := Nat.le_trans hCw h3.2.size
      obtain ⟨M, hM⟩ := Int.eq_ofNat_of_zero_le n2
      have HM := Lib.hid hM
      rw [hM] at n3 ⊢
      clear hM n2 h3 HDw HINS2
      obtain ⟨r2, hr2⟩ : ∃ r2, (rd.int 4).2 = r2 := ⟨_, rfl⟩
      have HR2 := Lib.hid hr2
      rw [hr2] at HD3
      clear hr2
      have hM4 : M ≤ 4 := by omega
      go_wp2_with fail
      go_loopw [34] (fun vi wr => ∃ (k : Nat) (rd : RdM) (v : Value) (outs : List NoteM), k ≤ M ∧ vi = .int .i64 k ∧ outs.length = k ∧ DecAt w p q B (.slice a1 ins.length c1) v 0 rd wr ∧ NtOwn C wr v outs ∧ spentsR.rel (fun x => B ≤ x ∧ x < C) wr [.slice a1 ins.length c1] ins ∧ C ≤ wr.heap.size ∧ Hid (RdM.notes (M - k) rd outs = RdM.notes M r2 [])) (fun vi _ => M - (intOf vi).toNat)
      case atStart => exact ⟨0, r2, .slice none 0 0, [], Nat.zero_le _, rfl, rfl, HD3.out, Own.nil _ _ _ _ _, HI3.out, hC3, rfl⟩
      case round =>
        obtain ⟨k2, rd2, v, outs, hk2, rfl, hol, hd, hown, hins, hCr, hinv⟩ := hrel
        by_cases hks2 : k2 < M
        · obtain ⟨j, hj⟩ : ∃ j, M - k2 = j + 1 := ⟨M - k2 - 1, by omega⟩
          have hj2 : M - (k2 + 1) = j := by omega
          rw [hj] at hinv
          have HI : Hid (RdM.notes j rd2.n4 (outs ++ [rd2.note]) = RdM.notes M r2 []) := hinv
          have HDr := Lib.hid (hd.drew HL.out)
          have HOr := Lib.hid (show NtOwn C wr.drew v outs from hown.keepB (Below.refl _ _).drew)
          have HIr := Lib.hid (spentsR.keepB hins (Below.refl _ _).drew)
          obtain ⟨x0, x1⟩ := box_cells hd.box
          clear hinv hd hown hins
          have HLT := Lib.hid (fun k (hk : v.ownBlock = some k) => (HOr.out.lt hk).1)
          go_wp2_with fail
          go_region_law (first
            | (refine step_append_rel (r := noteR) (base := C) (v := v) (u := .slice (some ⟨w4.heap.size, 0, none⟩) 1 1) (S := fun _ => False) rfl _ _ rfl Tryz.etyNote rfl rfl (Own.keepB O1.out (bnew (Below.refl _ _) _)) (Src.one (noteR.mk okn) (CellsAt.new w4 [.int .u64 rd2.note.value, .int .u64 rd2.note.owner, .int .u64 rd2.note.rho, .int .u64 rd2.note.blind] 113)) (fun k _ h => h.elim) (fun k hk h => h) (by unfold maxLen; simp; omega) (by simp; omega) (Nat.le_trans hC4 (by rw [World.size_alloc]; omega)) ?_
               intro v2 w8 ho8 hk8 hl8
               obtain ⟨a2, cap2, rfl, -, -⟩ := sliceR.form ho8.slice
               have hk9 : Kept (fun k => k < C) (w4.alloc (.cells #[.int .u64 rd2.note.value, .int .u64 rd2.note.owner, .int .u64 rd2.note.rho, .int .u64 rd2.note.blind] 113)) w8 := hk8.mono fun k _ hkC he => by have := (Own.lt O1.out he).2.2; omega
               have G8 := Lib.hid (DecAt.kept HL.out (DecAt.keepB HL.out G1.out (bnew (Below.refl _ _) _)) (hk9.mono (S' := fun k => k < B) fun k _ hkB => Nat.lt_of_lt_of_le hkB hCB))
               have I8 := Lib.hid (spentsR.keep (spentsR.keepB I1.out (bnew (Below.refl _ _) _)) (hk9.mono fun k _ h => h.2))
               have hC8 : C ≤ w8.heap.size := Nat.le_trans hC4 (Nat.le_trans (by rw [World.size_alloc]; omega) hk9.size)
               have O8 : Hid (NtOwn C w8 (.slice a2 (outs ++ [rd2.note]).length cap2) (outs ++ [rd2.note])) := ho8.mono fun k _ h => by
                 rcases h with h | h
                 · exact h
                 · exact .inr (Nat.le_trans hC4 (Nat.le_trans (by rw [World.size_alloc]; omega) h))
               obtain ⟨t0, t1⟩ := box_cells G8.out.box)
            | (go_simp; go_at_call 41; refine (readNote_any _ p rd2 HDr.out.rd).mono ?_; rintro e w4 ⟨rfl, g1, okn⟩
               have G1 := Lib.hid (DecAt.read HL.out HDr.out g1); have O1 := Lib.hid (NtOwn.read HOr.out (Nat.lt_of_lt_of_le HL.out.pB hCB) g1); obtain ⟨y0, y1⟩ := box_cells G1.out.box; have yy := fun o' => (box_cells (box_old (o' := o') G1.out.box)).1
               have hC4 : C ≤ w4.heap.size := Nat.le_trans hCr g1.2.size
               have I1 := Lib.hid (spentsR.keep HIr.out (g1.2.mono fun x _ h => Nat.ne_of_gt (Nat.lt_of_lt_of_le HL.out.pB h.1)))))
          all_goals
            have HFIN := Lib.hid (DecAt.store HL.out G8.out 1 (.slice a2 (outs ++ [rd2.note]).length cap2) rfl)
            have O9 := Lib.hid (NtOwn.store O8.out (Nat.lt_of_lt_of_le HL.out.qB hCB) 1 (.slice a2 (outs ++ [rd2.note]).length cap2))
            have I9 := Lib.hid (spentsR.keep I8.out ((Kept.refl _ w8).setCell (p := ⟨q, 1, none⟩) (fun _ h => by have h' : B ≤ q ∧ q < C := h; have := HL.out.qB; omega) (.slice a2 (outs ++ [rd2.note]).length cap2)))
            have hC9 : C ≤ (w8.setCell ⟨q, 1, none⟩ (.slice a2 (outs ++ [rd2.note]).length cap2)).heap.size := by rw [World.size_setCell]; exact hC8
            go_wp2_with fail
            go_roundw
            case rel => exact ⟨k2 + 1, rd2.n4, .slice a2 (outs ++ [rd2.note]).length cap2, outs ++ [rd2.note], by omega, by go_num, by rw [List.length_append, hol]; rfl, by simpa [hol] using HFIN.out, by simpa [hol] using O9.out, by simpa [hol] using I9.out, by simpa [hol] using hC9, by rw [hj2]; exact HI⟩
            case measure => simp [intOf]; omega
        · obtain rfl : k2 = M := by omega
          subst hol
          rw [Nat.sub_self] at hinv
          have HI2 : Hid (RdM.notes outs.length r2 [] = (outs, rd2)) := hinv.out.symm
          obtain ⟨a2, c2, rfl, -, -⟩ := sliceR.form hown.slice
          have HNT := Lib.hid (notesR.mono hown.slice (S' := fun k => C ≤ k) fun x _ h => h.resolve_left id)
          have HIN := Lib.hid hins
          have HDw := Lib.hid hd
          have HDEC : Hid (decodeS bs = if (rd2.uint 18446744069414584320).2.done = true then some ⟨ins, outs, (rd2.uint 18446744069414584320).1⟩ else none) := by
            show _ = _
            unfold decodeS
            rw [HN.out, HR1.out, Int.toNat_natCast, HI1.out]
            simp only
            rw [HM.out, HR2.out, Int.toNat_natCast, HI2.out]
          clear hinv hd hown hins HD3 HI3
          go_wp2_with fail
          refine (rdUint_any _ p rd2 HDw.out.rd 18446744069414584320 (by omega)).mono ?_
          rintro e w5 ⟨rfl, h5, s0, s1⟩
          have HD5 := Lib.hid (HDw.out.read HL.out h5)
          have HN5 := Lib.hid (notesR.keep HNT.out (h5.2.mono fun x _ h => Nat.ne_of_gt (Nat.lt_of_lt_of_le HL.out.pB (Nat.le_trans hCB h))))
          have HI5 := Lib.hid (spentsR.keep HIN.out (h5.2.mono fun x _ h => Nat.ne_of_gt (Nat.lt_of_lt_of_le HL.out.pB h.1)))
          generalize rd2.uint 18446744069414584320 = t at *
          obtain ⟨sec, r5⟩ := t
          simp only at HD5 HDEC s0 s1 ⊢
          obtain ⟨t0, t1⟩ := box_cells HD5.out.box
          have HD6 := Lib.hid (DecAt.store HL.out HD5.out 2 (.int .u64 sec) (u1 := .slice a1 ins.length c1) (u2 := .slice a2 outs.length c2) (usec := sec) rfl)
          have hk6 : Kept (fun k => B ≤ k) w5 (w5.setCell ⟨q, 2, none⟩ (.int .u64 sec)) := (Kept.refl _ _).setCell (fun _ h => by have h' : B ≤ q := h; have := HL.out.qB; omega) _
          have HN6 := Lib.hid (notesR.keep HN5.out (hk6.mono fun k _ h => Nat.le_trans hCB h))
          have HI6 := Lib.hid (spentsR.keep HI5.out (hk6.mono fun k _ h => h.1))
          clear hk6 h5
          go_wp2_with fail
          generalize w5.setCell ⟨q, 2, none⟩ (.int .u64 sec) = w6 at *
          refine (done_any _ p r5 HD6.out.rd).mono ?_
          rintro e w7 ⟨rfl, hb7⟩
          have HD7 := Lib.hid (HD6.out.keepB HL.out hb7)
          have HN7 := Lib.hid (notesR.keepB HN6.out hb7)
          have HI7 := Lib.hid (spentsR.keepB HI6.out hb7)
          clear t0 t1
          obtain ⟨t0, t1⟩ := box_cells HD7.out.box
          obtain ⟨f0, f1⟩ := box_cells HD7.out.res
          have HB7 := Lib.hid HD7.out.below
          cases hdn : r5.done with
          | true =>
            have HV : Hid (decodeS bs = some ⟨ins, outs, sec⟩) := by show _ = _; rw [HDEC.out, hdn]; rfl
            obtain ⟨r0, r1', r2'⟩ := read3 (x := .slice a1 ins.length c1) (y := .slice a2 outs.length c2) (z := .int .u64 sec) (f0 0) (f0 1) (f0 2)
            go_wp2_with fail
            refine bodyPost_ret (v := .tuple #[.agg #[.slice a1 ins.length c1, .slice a2 outs.length c2, .int .u64 sec], .int .i64 0]) (by simp [results, Tryz.results24, go_sem, r0, r1', r2']) rfl ?_
            have hkf : Kept (fun k => B ≤ k) w7 (((w7.setCell ⟨w.heap.size, 0, none⟩ (.slice a1 ins.length c1)).setCell ⟨w.heap.size, 1, none⟩ (.slice a2 outs.length c2)).setCell ⟨w.heap.size, 2, none⟩ (.int .u64 sec)) := by
              have hn : w.heap.size < w7.heap.size → ¬ B ≤ w.heap.size := fun _ h => by have := HL.out.wq; have := HL.out.qB; omega
              exact (((Kept.refl _ _).setCell hn _).setCell hn _).setCell hn _
            unfold DecOut
            rw [HV.out]
            exact ⟨a1, c1, a2, c2, rfl, spentsR.mono (spentsR.keep HI7.out (hkf.mono fun k _ h => h.1)) fun _ _ _ => trivial, notesR.mono (notesR.keep HN7.out (hkf.mono fun k _ h => Nat.le_trans hCB h)) fun _ _ _ => trivial, okU_of s0 (Int.lt_of_le_of_lt s1 (by omega)),
              ((HB7.out.setCell (Nat.le_refl _) _).setCell (Nat.le_refl _) _).setCell (Nat.le_refl _) _⟩
          | false =>
            have HV : Hid (decodeS bs = none) := by show _ = _; rw [HDEC.out, hdn]; rfl
            obtain ⟨r0, r1', r2'⟩ := read3 (x := .slice none 0 0) (y := .slice none 0 0) (z := .int .u64 0) (f0 0) (f0 1) (f0 2)
            go_wp2_with fail
            refine bodyPost_ret (v := .tuple #[.agg #[.slice none 0 0, .slice none 0 0, .int .u64 0], .int .i64 2]) (by simp [results, Tryz.results24, go_sem, r0, r1', r2']) rfl ?_
            unfold DecOut
            rw [HV.out]
            exact ⟨rfl, ((HB7.out.setCell (Nat.le_refl _) _).setCell (Nat.le_refl _) _).setCell (Nat.le_refl _) _⟩
end Go.Proofs.YthggdacincfplaaGreatDoor
