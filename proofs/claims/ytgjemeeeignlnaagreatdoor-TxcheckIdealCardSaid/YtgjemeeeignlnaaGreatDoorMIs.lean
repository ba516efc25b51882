/- The program's check that a proof was issued: its walk. -/
import Derived.Test.YtgjemeeeignlnaaGreatDoorMOr
import Derived.Test.YtgjemeeeignlnaaGreatDoorMFld
import Derived.Test.YtgjemeeeignlnaaGreatDoorMSp
import Derived.Test.YtgjemeeeignlnaaGreatDoorMEx
import Derived.Test.YtgjemeeeignlnaaGreatDoorMTx
namespace Go.Proofs.YtgjemeeeignlnaaGreatDoor
open Go.ChangeShapes Go.WideShapes Go.ChangeAt Go.RowKit Go.Sort

def RdM.reads : Nat → RdM → List Int → List Int × RdM
  | 0, r, acc => (acc, r)
  | k + 1, r, acc => RdM.reads k (r.uint 18446744069414584320).2 (acc ++ [(r.uint 18446744069414584320).1])
def issB (pr : Option ByteArray) (s : StM) (proof : List Int) : Bool :=
  decide (proof.length = 64 + 32 * (s.marks.length + s.commits.length)) && ((RdM.reads (proof.length / 8) ⟨proof, 0, false⟩ []).2.done && decide (pr = some (keyS [hashS 24 (digestL s)] (RdM.reads (proof.length / 8) ⟨proof, 0, false⟩ []).1)))
theorem reads_len : ∀ (k : Nat) (r : RdM) (acc : List Int), (RdM.reads k r acc).1.length = acc.length + k
  | 0, _, _ => rfl
  | k + 1, r, acc => by unfold RdM.reads; rw [reads_len k]; simp; omega
set_option maxRecDepth 100000 in
set_option maxHeartbeats 4000000 in
theorem issued_any (S S' : Nat → Prop) (w : World) (st n : Int) (pr : Option ByteArray) (p mk ms mp : Nat) (ho : OrX st n pr p mk ms mp w) (s : StM) (ma ca ra : Option Addr) (mc cc rc : Nat) (hs : StIn S w s ma ca ra mc cc rc) (b1 : s.marks.length ≤ 100) (b2 : s.commits.length ≤ 100) (b3 : s.rhos.length ≤ 100) (hd : s.depth < 9223372036854775808)
    (pa : Option Addr) (pc : Nat) (proof : List Int) (hp : bytesR.rel S' w [.slice pa proof.length pc] proof) (hpl : proof.length ≤ 1000000) :
    Calls Tryz.prog 57 #[.pointer (some ⟨p, 0, none⟩), .agg #[.int .i64 s.depth, .int .u64 s.anchor, .slice ma s.marks.length mc, .slice ca s.commits.length cc, .slice ra s.rhos.length rc, .int .u64 s.dep, .int .u64 s.wd, .int .u64 s.fee, .int .u64 s.acc, .int .u64 s.bind], .slice pa proof.length pc] w fun e w' => e = .returned (.bool (issB pr s proof)) ∧ Below w.heap.size w w' := by
  have hbA := bnew (Below.refl w.heap.size w) (.cells #[.int .i64 s.depth, .int .u64 s.anchor, .slice ma s.marks.length mc, .slice ca s.commits.length cc, .slice ra s.rhos.length rc, .int .u64 s.dep, .int .u64 s.wd, .int .u64 s.fee, .int .u64 s.acc, .int .u64 s.bind] 46)
  have HX := Lib.hid (box_new w (.cells #[.int .i64 s.depth, .int .u64 s.anchor, .slice ma s.marks.length mc, .slice ca s.commits.length cc, .slice ra s.rhos.length rc, .int .u64 s.dep, .int .u64 s.wd, .int .u64 s.fee, .int .u64 s.acc, .int .u64 s.bind] 46))
  have HS := Lib.hid (hs.keepB hbA)
  have HO := Lib.hid (ho.keepB hbA)
  have HP := Lib.hid (bytesR.keepB hp hbA)
  have HBA := Lib.hid hbA
  have HI : Hid (issB pr s proof = (decide (proof.length = 64 + 32 * (s.marks.length + s.commits.length)) && ((RdM.reads (proof.length / 8) ⟨proof, 0, false⟩ []).2.done && decide (pr = some (keyS [hashS 24 (digestL s)] (RdM.reads (proof.length / 8) ⟨proof, 0, false⟩ []).1))))) := rfl
  clear hbA hs ho hp
  go_enter Tryz.func57, Tryz.ntmps57
  go_upto_region 1 with (fail)
  generalize w.alloc (.cells #[.int .i64 s.depth, .int .u64 s.anchor, .slice ma s.marks.length mc, .slice ca s.commits.length cc, .slice ra s.rhos.length rc, .int .u64 s.dep, .int .u64 s.wd, .int .u64 s.fee, .int .u64 s.acc, .int .u64 s.bind] 46) = W at *
  obtain ⟨x0, x1⟩ := box_cells HX.out
  go_wp2_with fail
  refine (size_any _ _ _ _ _ _ _ _ _ _ _ _ _ _ _ _ _ (by omega)).mono ?_
  rintro e w1 ⟨rfl, hb1⟩
  clear x0 x1
  by_cases hsz : proof.length = 64 + 32 * (s.marks.length + s.commits.length)
  · have HV : Hid (issB pr s proof = ((RdM.reads (proof.length / 8) ⟨proof, 0, false⟩ []).2.done && decide (pr = some (keyS [hashS 24 (digestL s)] (RdM.reads (proof.length / 8) ⟨proof, 0, false⟩ []).1)))) := by show _ = _; rw [HI.out, decide_eq_true hsz]; rfl
    have z1 : ((proof.length : Int) == 64 + 32 * ((s.marks.length + s.commits.length : Nat) : Int)) = true := by rw [beq_iff_eq]; omega
    have z2 : ((proof.length : Int) != 64 + 32 * ((s.marks.length + s.commits.length : Nat) : Int)) = false := by rw [bne_eq_false_iff_eq]; omega
    obtain ⟨N, hN⟩ : ∃ N, proof.length / 8 = N := ⟨_, rfl⟩
    have hN8 : proof.length = 8 * N := by omega
    have hNq : (proof.length : Int).tdiv 8 = N := by rw [Int.tdiv_eq_ediv_of_nonneg (by omega)]; omega
    have HN8 := Lib.hid hN8
    have hN1 : N ≤ 1000 := by omega
    rw [hN] at HV
    clear HI hsz hN8 hN
    go_wp2_with fail
    refine (newReader_any S' w1 pa pc proof (bytesR.keepB HP.out hb1) hpl).mono ?_
    rintro e w2 ⟨q, rfl, hq, hr, hb2⟩
    have hb2d := bnext hb1 hb2
    have HR := Lib.hid hr
    have HQ := Lib.hid (show W.heap.size ≤ q from Nat.le_trans hb1.size hq)
    clear hr hq
    go_wp2_with (at_make; go_loud (refine wpList_make_cells rfl _ _ rfl Tryz.etyNums (z := .int .u64 0) (by kernel_rfl) (n := N) rfl rfl (by first | rfl | exact hNq) (by first | rfl | exact hNq) ?_ ?_ ?_))
    · omega
    · unfold maxLen; omega
    rw [madeRow]
    have hg3 := box_new w2 (.cells (rowS [] N).toArray 24)
    have hb3 := bnew (Below.refl w2.heap.size w2) (.cells (rowS [] N).toArray 24)
    have HG3 := Lib.hid hg3
    have HK3 := Lib.hid (bnext hb2d hb3)
    have HR3 := Lib.hid (HR.out.keep hb3)
    have HQ2 := Lib.hid HR.out.lt
    have HWG := Lib.hid hb2d.size
    generalize w2.alloc (.cells (rowS [] N).toArray 24) = w3 at *
    obtain ⟨G, hG⟩ : ∃ G, w2.heap.size = G := ⟨_, rfl⟩
    rw [hG] at HG3 HQ2 HWG ⊢
    clear hg3 hb3 hb2d hb2 hb1 hG hNq z1 z2
    go_wp2_with fail
    go_loopw [23] (fun vi wr => ∃ (k : Nat) (rd : RdM) (acc : List Int), k ≤ N ∧ vi = .int .i64 k ∧ acc.length = k ∧ (∀ x ∈ acc, okU x) ∧ RdAt q wr rd ∧ Kept (fun i => i < W.heap.size) W wr ∧ wr.heap[G]? = some (.cells (rowS acc (N - k)).toArray 24 (0, 0)) ∧ Hid (RdM.reads (N - k) rd acc = RdM.reads N ⟨proof, 0, false⟩ [])) (fun vi _ => N - (intOf vi).toNat)
    case atStart => exact ⟨0, ⟨proof, 0, false⟩, [], Nat.zero_le _, rfl, rfl, fun x h => by simp at h, HR3.out, Kept.of_below HK3.out, HG3.out, rfl⟩
    case round =>
      obtain ⟨k, rd, acc, hk, rfl, hacc, hok, hrd, hkr, hrow, hinv⟩ := hrel
      by_cases hks : k < N
      · obtain ⟨j, hj⟩ : ∃ j, N - k = j + 1 := ⟨N - k - 1, by omega⟩
        have hj2 : N - (k + 1) = j := by omega
        rw [hj] at hrow hinv
        have HROW := Lib.hid hrow
        have HKR := Lib.hid hkr
        have HJ := Lib.hid hj2
        have HU : Hid (RdM.reads (j + 1) rd acc = RdM.reads j (rd.uint 18446744069414584320).2 (acc ++ [(rd.uint 18446744069414584320).1])) := rfl
        clear hrow hkr hj hj2
        go_wp2_with fail
        refine (rdUint_any wr q rd hrd 18446744069414584320 (by omega)).mono ?_
        rintro e w4 ⟨rfl, hr4, x0, x1⟩
        generalize rd.uint 18446744069414584320 = t at *
        obtain ⟨x, r4⟩ := t
        simp only at hr4 x0 x1 HU ⊢
        have hrow4 := box_kept hr4.2 HROW.out (show G ≠ q by have := HQ2.out; omega)
        obtain ⟨d0, d1⟩ := box_cells hrow4
        have HSET := Lib.hid (rowS_set acc j x)
        rw [hacc] at HSET
        have hnew := box_set (i := k) (v := .int .u64 x) hrow4
        rw [HSET.out] at hnew
        have HNEW := Lib.hid hnew
        have hck : w4.cell? ⟨G, k, none⟩ = some (.int .u64 0) := by rw [d0]; simp [rowS, hacc]
        have hgk := World.cell?_setCell_same w4 ⟨G, k, none⟩ (.int .u64 x) hck
        have R5 : Hid (RdAt q (w4.setCell ⟨G, k, none⟩ (.int .u64 x)) r4) := hr4.1.kept ((Kept.refl _ _).setCell (fun _ h => by have h' : G ≤ q := h; have := HQ2.out; omega) _)
        have K5 : Hid (Kept (fun i => i < W.heap.size) W (w4.setCell ⟨G, k, none⟩ (.int .u64 x))) := (HKR.out.trans (hr4.2.mono (S' := fun i => i < W.heap.size) fun i _ h => by have h' : i < W.heap.size := h; have := HQ.out; omega) (fun _ _ h => h)).setCell (fun h => by have h' : G < W.heap.size := h; have := HWG.out; omega) _
        have HI5 : Hid (RdM.reads j r4 (acc ++ [x]) = RdM.reads N ⟨proof, 0, false⟩ []) := by show _ = _; rw [← hinv.out, HU.out]
        clear hnew hrow4 d0 hrd hr4
        go_wp2_with fail
        go_roundw
        case rel => exact ⟨k + 1, r4, acc ++ [x], by omega, by go_num, by simp [hacc], fun y hy => by rcases List.mem_append.1 hy with h | h; exact hok y h; simp at h; subst h; exact okU_of x0 (by omega), R5.out, K5.out, by rw [HJ.out]; exact HNEW.out, by rw [HJ.out]; exact HI5⟩
        case measure => simp [intOf]; omega
      · obtain rfl : k = N := by omega
        rw [Nat.sub_self] at hrow hinv
        rw [rowS_zero] at hrow
        have HE : Hid (RdM.reads k ⟨proof, 0, false⟩ [] = (acc, rd)) := by show _ = _; rw [← hinv.out]; rfl
        have HV2 : Hid (issB pr s proof = (rd.done && decide (pr = some (keyS [hashS 24 (digestL s)] acc)))) := by show _ = _; rw [HV.out, HE.out]
        have hown : Own (intR .u64) w.heap.size 24 (fun x => False ∨ w.heap.size ≤ x) wr (.slice (some ⟨G, 0, none⟩) acc.length acc.length) acc :=
          own_ints (cur := acc.map (Value.int .u64)) hrow (by rw [List.length_map]) (List.take_of_length_le (by rw [List.length_map]; exact Nat.le_refl _)) hok (Nat.le_refl _) (by unfold maxLen; omega) (by have := HWG.out; have := HBA.out.size; omega)
        have hsl := numsR.mono hown.slice (S' := fun _ => True) fun _ _ _ => trivial
        rw [hacc] at hsl
        have HSL := Lib.hid hsl
        have HBK : Hid (Below W.heap.size W wr) := hkr.below (Nat.le_refl _)
        have HACC := Lib.hid hacc
        have HRD := Lib.hid hrd
        clear hown hrow hinv hsl hrd hkr hacc HV
        go_wp2_with fail
        refine (done_any wr q rd HRD.out).mono ?_
        rintro e w5 ⟨rfl, hb5⟩
        have hb5d := bnext HBK.out hb5
        obtain ⟨y0, y1⟩ := box_cells (box_after hb5d HX.out)
        cases hdn : rd.done with
        | false =>
          rw [hdn] at HV2
          go_wp2_with fail
          go_ret
          exact ⟨ret_bool (by rw [HV2.out]; rfl), bnext HBA.out hb5d⟩
        | true =>
          rw [hdn] at HV2
          go_wp2_with fail
          refine (digest_any S w5 s ma ca ra mc cc rc (HS.out.keepB hb5d) (by omega) (by omega) (by omega) hd).mono ?_
          rintro e w6 ⟨rfl, hb6⟩
          have hb6d := bnext hb5d hb6
          have hok6 := hashS_ok 24 (digestL s)
          generalize hashS 24 (digestL s) = dg at *
          have HSL6 := Lib.hid (numsR.keepB HSL.out (bnext hb5 hb6))
          clear y0 y1
          go_wp2_with fail
          refine (proved_any (fun _ => True) w6 st n pr p mk ms mp (HO.out.keepB hb6d) dg hok6 (some ⟨G, 0, none⟩) k k acc HACC.out HSL6.out (by omega)).mono ?_
          rintro e w7 ⟨rfl, hb7⟩
          go_wp2_with fail
          go_ret
          exact ⟨ret_bool (by rw [HV2.out]; rfl), bnext HBA.out (bnext hb6d hb7)⟩
  · have HV : Hid (issB pr s proof = false) := by show _ = _; rw [HI.out, decide_eq_false hsz]; rfl
    have z1 : ((proof.length : Int) == 64 + 32 * ((s.marks.length + s.commits.length : Nat) : Int)) = false := by rw [beq_eq_false_iff_ne]; omega
    have z2 : ((proof.length : Int) != 64 + 32 * ((s.marks.length + s.commits.length : Nat) : Int)) = true := by rw [bne_iff_ne]; omega
    clear HI hsz
    go_wp2_with fail
    go_ret
    exact ⟨ret_bool HV.out.symm, bnext HBA.out hb1⟩
end Go.Proofs.YtgjemeeeignlnaaGreatDoor
/- The program's Check in the ideal mode. -/
namespace Go.Proofs.YtgjemeeeignlnaaGreatDoor
open Go.ChangeShapes Go.WideShapes Go.ChangeAt Go.RowKit

def checkI (pr : Option ByteArray) (d bl bu qu rew win fin work : Int) (t : TxM) : Int :=
  if rulesE 3 d bl bu qu rew win fin work = 0 then (if validE t = 0 then (if issB pr (stOf d.toNat t (bindS t)) t.proof = true then 0 else 10) else validE t) else rulesE 3 d bl bu qu rew win fin work
set_option maxRecDepth 100000 in
set_option maxHeartbeats 4000000 in
theorem accepted_ideal (S S' : Nat → Prop) (w : World) (st n : Int) (pr : Option ByteArray) (p mk ms mp : Nat) (ho : OrX st n pr p mk ms mp w) (D bl bu qu rew win fin work : Int) (s : StM) (ma ca ra : Option Addr) (mc cc rc : Nat) (hs : StIn S w s ma ca ra mc cc rc) (b1 : s.marks.length ≤ 100) (b2 : s.commits.length ≤ 100) (b3 : s.rhos.length ≤ 100) (hd : s.depth < 9223372036854775808) (pa : Option Addr) (pc : Nat) (proof : List Int) (hp : bytesR.rel S' w [.slice pa proof.length pc] proof) (hpl : proof.length ≤ 1000000) :
    Calls Tryz.prog 33 #[.pointer (some ⟨p, 0, none⟩), .agg #[.int .i64 3, .int .i64 D, .int .i64 bl, .int .i64 bu, .int .i64 qu, .int .u64 rew, .int .i64 win, .int .i64 fin, .int .u64 work], .agg #[.int .i64 s.depth, .int .u64 s.anchor, .slice ma s.marks.length mc, .slice ca s.commits.length cc, .slice ra s.rhos.length rc, .int .u64 s.dep, .int .u64 s.wd, .int .u64 s.fee, .int .u64 s.acc, .int .u64 s.bind], .slice pa proof.length pc] w fun e w' => e = .returned (.bool (issB pr s proof)) ∧ Below w.heap.size w w' := by
  have hbA := bnew (Below.refl w.heap.size w) (.cells #[.int .i64 3, .int .i64 D, .int .i64 bl, .int .i64 bu, .int .i64 qu, .int .u64 rew, .int .i64 win, .int .i64 fin, .int .u64 work] 26)
  have hbB := bnew hbA (.cells #[.int .i64 s.depth, .int .u64 s.anchor, .slice ma s.marks.length mc, .slice ca s.commits.length cc, .slice ra s.rhos.length rc, .int .u64 s.dep, .int .u64 s.wd, .int .u64 s.fee, .int .u64 s.acc, .int .u64 s.bind] 46)
  have HS := Lib.hid (hs.keepB hbB)
  have HP := Lib.hid (bytesR.keepB hp hbB)
  have HO := Lib.hid (ho.keepB hbB)
  have HBel := Lib.hid hbB
  clear hbA hbB hs hp ho
  go_enter Tryz.func33, Tryz.ntmps33
  go_wp2_with fail
  generalize (w.alloc (.cells #[.int .i64 3, .int .i64 D, .int .i64 bl, .int .i64 bu, .int .i64 qu, .int .u64 rew, .int .i64 win, .int .i64 fin, .int .u64 work] 26)).alloc (.cells #[.int .i64 s.depth, .int .u64 s.anchor, .slice ma s.marks.length mc, .slice ca s.commits.length cc, .slice ra s.rhos.length rc, .int .u64 s.dep, .int .u64 s.wd, .int .u64 s.fee, .int .u64 s.acc, .int .u64 s.bind] 46) = W at *
  refine (issued_any S S' W st n pr p mk ms mp HO.out s ma ca ra mc cc rc HS.out b1 b2 b3 hd pa pc proof HP.out hpl).mono ?_
  rintro e w1 ⟨rfl, hb1⟩
  obtain ⟨r, hr⟩ : ∃ r, issB pr s proof = r := ⟨_, rfl⟩
  have HRR := Lib.hid hr
  rw [hr]
  clear hr
  go_wp2_with fail
  go_ret
  exact ⟨ret_bool HRR.out.symm, bnext HBel.out hb1⟩
theorem accepted_idst (S' : Nat → Prop) (w : World) (st n : Int) (pr : Option ByteArray) (p mk ms mp : Nat) (ho : OrX st n pr p mk ms mp w) (D : Nat) (bl bu qu rew win fin work : Int) (t : TxM) (bd : Int) (sa sb sc : Option Addr) (sd se sf : Nat) (hs : StIn (fun _ => True) w (stOf D t bd) sa sb sc sd se sf) (pa : Option Addr) (pc : Nat) (proof : List Int) (hp : bytesR.rel S' w [.slice pa proof.length pc] proof) (hpl : proof.length ≤ 1000000) (l1 : t.marks.length ≤ 4) (l2 : t.outs.length ≤ 4) (hD : D ≤ 12) :
    Calls Tryz.prog 33 #[.pointer (some ⟨p, 0, none⟩), .agg #[.int .i64 3, .int .i64 D, .int .i64 bl, .int .i64 bu, .int .i64 qu, .int .u64 rew, .int .i64 win, .int .i64 fin, .int .u64 work], .agg #[.int .i64 D, .int .u64 t.anchor, .slice sa t.marks.length sd, .slice sb t.outs.length se, .slice sc t.outs.length sf, .int .u64 t.dep, .int .u64 t.wd, .int .u64 t.fee, .int .u64 t.acc, .int .u64 bd], .slice pa proof.length pc] w fun e w' => e = .returned (.bool (issB pr (stOf D t bd) proof)) ∧ Below w.heap.size w w' := by
  have e1 : (stOf D t bd).commits.length = t.outs.length := by simp [stOf]
  have e2 : (stOf D t bd).rhos.length = t.outs.length := rhosTo_len _ _
  have h := accepted_ideal (fun _ => True) S' w st n pr p mk ms mp ho D bl bu qu rew win fin work (stOf D t bd) sa sb sc sd se sf hs (by show t.marks.length ≤ 100; omega) (by omega) (by omega) (by show (D : Int) < _; omega) pa pc proof hp hpl
  rw [e1, e2] at h
  exact h
set_option maxRecDepth 100000 in
set_option maxHeartbeats 4000000 in
theorem check_ideal (S : Nat → Prop) (w : World) (p : Nat) (st n : Int) (pr : Option ByteArray) (mk ms mp : Nat) (ho : OrX st n pr p mk ms mp w) (d bl bu qu rew win fin work : Int) (t : TxM) (ma oa pa : Option Addr) (mc oc pc : Nat) (h : TxIn S w t ma oa pa mc oc pc) (hpl : t.proof.length ≤ 1000000) :
    Calls Tryz.prog 14 #[.pointer (some ⟨p, 0, none⟩), .agg #[.int .i64 3, .int .i64 d, .int .i64 bl, .int .i64 bu, .int .i64 qu, .int .u64 rew, .int .i64 win, .int .i64 fin, .int .u64 work], .agg #[.int .u64 t.anchor, .slice ma t.marks.length mc, .slice oa t.outs.length oc, .int .u64 t.dep, .int .u64 t.wd, .int .u64 t.fee, .int .u64 t.acc, .int .u64 t.nonce, .int .i64 t.exp, .slice pa t.proof.length pc]] w fun e w' => e = .returned (.int .i64 (checkI pr d bl bu qu rew win fin work t)) ∧ Below w.heap.size w w' := by
  have hbA := bnew (Below.refl w.heap.size w) (.cells #[.int .i64 3, .int .i64 d, .int .i64 bl, .int .i64 bu, .int .i64 qu, .int .u64 rew, .int .i64 win, .int .i64 fin, .int .u64 work] 26)
  have hbB := bnew hbA (.cells #[.int .u64 t.anchor, .slice ma t.marks.length mc, .slice oa t.outs.length oc, .int .u64 t.dep, .int .u64 t.wd, .int .u64 t.fee, .int .u64 t.acc, .int .u64 t.nonce, .int .i64 t.exp, .slice pa t.proof.length pc] 31)
  have qA := box_old (o' := .cells #[.int .u64 t.anchor, .slice ma t.marks.length mc, .slice oa t.outs.length oc, .int .u64 t.dep, .int .u64 t.wd, .int .u64 t.fee, .int .u64 t.acc, .int .u64 t.nonce, .int .i64 t.exp, .slice pa t.proof.length pc] 31) (box_new w (.cells #[.int .i64 3, .int .i64 d, .int .i64 bl, .int .i64 bu, .int .i64 qu, .int .u64 rew, .int .i64 win, .int .i64 fin, .int .u64 work] 26))
  have qB := box_new (w.alloc (.cells #[.int .i64 3, .int .i64 d, .int .i64 bl, .int .i64 bu, .int .i64 qu, .int .u64 rew, .int .i64 win, .int .i64 fin, .int .u64 work] 26)) (.cells #[.int .u64 t.anchor, .slice ma t.marks.length mc, .slice oa t.outs.length oc, .int .u64 t.dep, .int .u64 t.wd, .int .u64 t.fee, .int .u64 t.acc, .int .u64 t.nonce, .int .i64 t.exp, .slice pa t.proof.length pc] 31)
  have eA : (w.alloc (.cells #[.int .i64 3, .int .i64 d, .int .i64 bl, .int .i64 bu, .int .i64 qu, .int .u64 rew, .int .i64 win, .int .i64 fin, .int .u64 work] 26)).heap.size = w.heap.size + 1 := World.size_alloc ..
  rw [eA] at qB
  have H := Lib.hid (h.keepB hbB)
  have HO := Lib.hid (ho.keepB hbB)
  have HA := Lib.hid qA
  have HBx := Lib.hid qB
  have HBel := Lib.hid hbB
  have HU : Hid (checkI pr d bl bu qu rew win fin work t = if rulesE 3 d bl bu qu rew win fin work = 0 then (if validE t = 0 then (if issB pr (stOf d.toNat t (bindS t)) t.proof = true then 0 else 10) else validE t) else rulesE 3 d bl bu qu rew win fin work) := rfl
  clear hbA hbB qA qB eA h ho
  go_enter Tryz.func14, Tryz.ntmps14
  go_wp2_with fail
  generalize (w.alloc (.cells #[.int .i64 3, .int .i64 d, .int .i64 bl, .int .i64 bu, .int .i64 qu, .int .u64 rew, .int .i64 win, .int .i64 fin, .int .u64 work] 26)).alloc (.cells #[.int .u64 t.anchor, .slice ma t.marks.length mc, .slice oa t.outs.length oc, .int .u64 t.dep, .int .u64 t.wd, .int .u64 t.fee, .int .u64 t.acc, .int .u64 t.nonce, .int .i64 t.exp, .slice pa t.proof.length pc] 31) = W at *
  refine (rules_any 3 d bl bu qu rew win fin work W).mono ?_
  rintro e w1 ⟨rfl, hb1⟩
  by_cases hr : rulesE 3 d bl bu qu rew win fin work = 0
  · obtain ⟨d0, d1⟩ := rulesE_depth hr
    have HU2 : Hid (checkI pr d bl bu qu rew win fin work t = if validE t = 0 then (if issB pr (stOf d.toNat t (bindS t)) t.proof = true then 0 else 10) else validE t) := by show _ = _; rw [HU.out, if_pos hr]
    rw [hr]
    clear hr HU
    obtain ⟨D, hD⟩ := Int.eq_ofNat_of_zero_le (show 0 ≤ d by omega)
    subst hD
    rw [Int.toNat_natCast] at HU2
    obtain ⟨x0, x1⟩ := box_cells (box_after hb1 HA.out)
    obtain ⟨y0, y1⟩ := box_cells (box_after hb1 HBx.out)
    have HO1 := Lib.hid (HO.out.keepB hb1)
    go_wp2_with fail
    go_quiet ((go_at_call 31; exact quiet_same (isIdealX _ st n pr p mk ms mp (HO1.out.keepB (bdrewN (Below.refl _ _) _)))))
    have hb1d := bdrewN hb1 nq
    clear x0 x1 y0 y1 hb1
    generalize w1.drewN nq = w2 at *
    obtain ⟨y0, y1⟩ := box_cells (box_after hb1d HBx.out)
    obtain ⟨x0, x1⟩ := box_cells (box_after hb1d HA.out)
    go_wp2_with fail
    refine (txValid_any S w2 t ma oa pa mc oc pc (H.out.keepB hb1d)).mono ?_
    rintro e w3 ⟨rfl, hb3⟩
    have hb3d := bnext hb1d hb3
    by_cases hv : validE t = 0
    · have HV := Lib.hid hv
      have HU3 : Hid (checkI pr D bl bu qu rew win fin work t = if issB pr (stOf D t (bindS t)) t.proof = true then 0 else 10) := by show _ = _; rw [HU2.out, if_pos hv]
      rw [hv]
      clear hv HU2 x0 x1 y0 y1
      have HA3 := Lib.hid (box_after hb3d HA.out)
      have HB3 := Lib.hid (box_after hb3d HBx.out)
      have H3 := Lib.hid (H.out.keepB hb3d)
      have HO3 := Lib.hid (HO.out.keepB hb3d)
      go_wp2_with fail
      go_region_held3 (fun w' => Below w3.heap.size w3 w' ∧ (∀ o, w'.cell? ⟨w.heap.size, o, none⟩ = (#[.int .i64 3, .int .i64 D, .int .i64 bl, .int .i64 bu, .int .i64 qu, .int .u64 rew, .int .i64 win, .int .i64 fin, .int .u64 work] : Array Value)[o]?) ∧ (∀ o, w'.cell? ⟨w.heap.size + 1, o, none⟩ = (#[.int .u64 t.anchor, .slice ma t.marks.length mc, .slice oa t.outs.length oc, .int .u64 t.dep, .int .u64 t.wd, .int .u64 t.fee, .int .u64 t.acc, .int .u64 t.nonce, .int .i64 t.exp, .slice pa t.proof.length pc] : Array Value)[o]?))
        (first
          | with_reducible exact ChK.drew (ChK.of HA3.out HB3.out (Below.refl _ _))
          | with_reducible exact HK1.out
          | with_reducible exact HK2.out)
        (first
          | (go_at_call 34; refine (statementX_any S _ t ma oa pa mc oc pc (H3.out.keepB (‹Below w3.heap.size w3 _ ∧ _›).1) HV.out D (by omega)).mono ?_; rintro e w4 ⟨bd, sa, sb, sc, sd, se, sf, HBD, q0, q1, rfl, hst, hb4⟩
             have HST := Lib.hid hst; have HK1 := Lib.hid (ChK.of HA3.out HB3.out (bnext (‹Below w3.heap.size w3 _ ∧ _›).1 hb4)); clear hst)
          | (go_at_call 33; refine (accepted_idst S _ st n pr p mk ms mp (HO3.out.keepB HK1.out.1) D bl bu qu rew win fin work t bd sa sb sc sd se sf HST.out pa pc t.proof (bytesR.keepB H3.out.proof HK1.out.1) hpl (validE_facts HV.out).1 (validE_facts HV.out).2.1 (by omega)).mono ?_; rintro e w5 ⟨rfl, hb5⟩
             have HK2 := Lib.hid (ChK.of HA3.out HB3.out (bnext HK1.out.1 hb5)); rw [HBD.out]))
      have hfin := bnext HBel.out (bnext hb3d HK2.out.1)
      cases hac : issB pr (stOf D t (bindS t)) t.proof with
      | true =>
        have HF : Hid (checkI pr D bl bu qu rew win fin work t = 0) := by show _ = _; rw [HU3.out, hac]; rfl
        go_wp2_with fail
        go_ret
        exact ⟨ret_int HF.out.symm, hfin⟩
      | false =>
        have HF : Hid (checkI pr D bl bu qu rew win fin work t = 10) := by show _ = _; rw [HU3.out, hac]; rfl
        go_wp2_with fail
        go_ret
        exact ⟨ret_int HF.out.symm, hfin⟩
    · have HF : Hid (checkI pr D bl bu qu rew win fin work t = validE t) := by show _ = _; rw [HU2.out, if_neg hv]
      have z1 : (validE t == 0) = false := by rw [beq_eq_false_iff_ne]; exact hv
      have z2 : (validE t != 0) = true := by rw [bne_iff_ne]; exact hv
      clear hv HU2
      generalize validE t = r at *
      go_wp2_with fail
      go_ret
      exact ⟨ret_int HF.out.symm, bnext HBel.out hb3d⟩
  · have HF : Hid (checkI pr d bl bu qu rew win fin work t = rulesE 3 d bl bu qu rew win fin work) := by show _ = _; rw [HU.out, if_neg hr]
    have z1 : (rulesE 3 d bl bu qu rew win fin work == 0) = false := by rw [beq_eq_false_iff_ne]; exact hr
    have z2 : (rulesE 3 d bl bu qu rew win fin work != 0) = true := by rw [bne_iff_ne]; exact hr
    clear hr HU
    generalize rulesE 3 d bl bu qu rew win fin work = r at *
    go_wp2_with fail
    go_ret
    exact ⟨ret_int HF.out.symm, bnext HBel.out hb1⟩
end Go.Proofs.YtgjemeeeignlnaaGreatDoor
