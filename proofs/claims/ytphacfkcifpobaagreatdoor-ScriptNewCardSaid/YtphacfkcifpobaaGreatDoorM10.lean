/- txcheck: what is accepted in the open mode. -/
import Derived.Test.YtphacfkcifpobaaGreatDoorRelC
import Derived.Test.YtphacfkcifpobaaGreatDoorM06
import Derived.Test.YtphacfkcifpobaaGreatDoorTxT
set_option maxRecDepth 100000
namespace Go.Proofs.YtphacfkcifpobaaGreatDoor
open Go.ChangeShapes Go.WideShapes Go.ChangeAt Go.RowKit
def accB (D : Nat) (s : StM) (proof : List Int) : Bool :=
 match decodeS proof with
 | none => false
 | some t => relE D s t == 0
theorem relE_bind (D : Nat) (t : TxM) (bd : Int) (h0 : bd < 18446744069414584321) (x : WitM) : relE D (stOf D t bd) x = relE D (stOf D t 0) x := by
 have hv : validB D (stOf D t bd) x = validB D (stOf D t 0) x := by
   have he : elemsB [(stOf D t bd).anchor, (stOf D t bd).acc, (stOf D t bd).bind, x.secret] = elemsB [(stOf D t 0).anchor, (stOf D t 0).acc, (stOf D t 0).bind, x.secret] := by
     simp [elemsB, allUp, elemB, stOf, h0]
   unfold validB
   rw [he]; rfl
 unfold relE
 rw [hv]; rfl
theorem accB_bind (D : Nat) (t : TxM) (bd : Int) (h0 : bd < 18446744069414584321) (proof : List Int) : accB D (stOf D t bd) proof = accB D (stOf D t 0) proof := by
 unfold accB
 split
 · rfl
 · rw [relE_bind D t bd h0]
set_option maxHeartbeats 4000000 in
theorem accepted_open (S S' : Nat → Prop) (w : World) (p : Nat) (st : Int) (ho : OrAt false st p w) (m : Int) (hm : m = 2) (D : Nat) (bl bu qu rew win fin work : Int) (s : StM) (ma ca ra : Option Addr) (mc cc rc : Nat) (hs : StIn S w s ma ca ra mc cc rc) (pa : Option Addr) (pc : Nat) (proof : List Int) (hp : bytesR.rel S' w [.slice pa proof.length pc] proof) (hpl : proof.length ≤ 1000000) (hD0 : 1 ≤ D) (hD1 : D ≤ 12) :
   Calls Tryz.prog 260 #[.pointer (some ⟨p, 0, none⟩), .agg #[.int .i64 m, .int .i64 D, .int .i64 bl, .int .i64 bu, .int .i64 qu, .int .u64 rew, .int .i64 win, .int .i64 fin, .int .u64 work], .agg #[.int .i64 D, .int .u64 s.anchor, .slice ma s.marks.length mc, .slice ca s.commits.length cc, .slice ra s.rhos.length rc, .int .u64 s.dep, .int .u64 s.wd, .int .u64 s.fee, .int .u64 s.acc, .int .u64 s.bind], .slice pa proof.length pc] w fun e w' => e = .returned (.bool (accB D s proof)) ∧ Below w.heap.size w w' := by
 subst hm; have hbA := bnew (Below.refl w.heap.size w) (.cells #[.int .i64 2, .int .i64 D, .int .i64 bl, .int .i64 bu, .int .i64 qu, .int .u64 rew, .int .i64 win, .int .i64 fin, .int .u64 work] 26); have hbB := bnew hbA (.cells #[.int .i64 D, .int .u64 s.anchor, .slice ma s.marks.length mc, .slice ca s.commits.length cc, .slice ra s.rhos.length rc, .int .u64 s.dep, .int .u64 s.wd, .int .u64 s.fee, .int .u64 s.acc, .int .u64 s.bind] 329); have qB := box_new (w.alloc (.cells #[.int .i64 2, .int .i64 D, .int .i64 bl, .int .i64 bu, .int .i64 qu, .int .u64 rew, .int .i64 win, .int .i64 fin, .int .u64 work] 26)) (.cells #[.int .i64 D, .int .u64 s.anchor, .slice ma s.marks.length mc, .slice ca s.commits.length cc, .slice ra s.rhos.length rc, .int .u64 s.dep, .int .u64 s.wd, .int .u64 s.fee, .int .u64 s.acc, .int .u64 s.bind] 329); have eA : (w.alloc (.cells #[.int .i64 2, .int .i64 D, .int .i64 bl, .int .i64 bu, .int .i64 qu, .int .u64 rew, .int .i64 win, .int .i64 fin, .int .u64 work] 26)).heap.size = w.heap.size + 1 := World.size_alloc ..; rw [eA] at qB; have HS := Lib.hid (hs.keepB hbB); have HP := Lib.hid (bytesR.keepB hp hbB); have HO := Lib.hid (ho.keepB hbB); have HBx := Lib.hid qB; have HBel := Lib.hid hbB; clear hbA hbB qB eA hs hp ho
 go_enter Tryz.func260, Tryz.ntmps260
 go_wp2_with fail; generalize (w.alloc (.cells #[.int .i64 2, .int .i64 D, .int .i64 bl, .int .i64 bu, .int .i64 qu, .int .u64 rew, .int .i64 win, .int .i64 fin, .int .u64 work] 26)).alloc (.cells #[.int .i64 D, .int .u64 s.anchor, .slice ma s.marks.length mc, .slice ca s.commits.length cc, .slice ra s.rhos.length rc, .int .u64 s.dep, .int .u64 s.wd, .int .u64 s.fee, .int .u64 s.acc, .int .u64 s.bind] 329) = W at *
 refine (decode_any W pa pc proof S' HP.out hpl).mono ?_
 intro e w1 hd
 unfold DecOut at hd
 have HU : Hid (accB D s proof = match decodeS proof with | none => false | some t => relE D s t == 0) := rfl
 revert hd
 cases hdc : decodeS proof with
 | none =>
   rintro ⟨rfl, hb1⟩
   have HF : Hid (accB D s proof = false) := by show _ = _; rw [HU.out, hdc]
   go_wp2_with fail; go_ret
   exact ⟨ret_bool HF.out.symm, bnext HBel.out (hb1.new _)⟩
 | some t =>
   rintro ⟨a1, c1, a2, c2, rfl, h1, h2, h3, hb1⟩
   have HF : Hid (accB D s proof = (relE D s t == 0)) := by show _ = _; rw [HU.out, hdc]
   have hbn := bnew (Below.refl w1.heap.size w1) (.cells #[.slice a1 t.ins.length c1, .slice a2 t.outs.length c2, .int .u64 t.secret] 248); have hbk := bnext hb1 hbn
   have HWT : Hid (WtIn (fun _ => True) w1 t a1 a2 c1 c2) := ⟨h1, h2, h3⟩
   obtain ⟨x0, x1⟩ := box_cells (box_after hbk HBx.out); clear h1 h2 HU; go_wp2_with fail
   refine (relCheck_any S (fun _ => True) _ p st (HO.out.keepB hbk) D s ma ca ra mc cc rc (HS.out.keepB hbk) t a1 a2 c1 c2 (HWT.out.keepB hbn) hD0 hD1).mono ?_
   rintro e w2 ⟨rfl, hb2⟩; generalize relE D s t = r at *; go_wp2_with fail; go_ret
   exact ⟨ret_bool HF.out.symm, bnext HBel.out (bnext hbk hb2)⟩
end Go.Proofs.YtphacfkcifpobaaGreatDoor
/- txcheck: Check in the open mode. -/
namespace Go.Proofs.YtphacfkcifpobaaGreatDoor
open Go.ChangeShapes Go.WideShapes Go.ChangeAt Go.RowKit
def checkE (d bl bu qu rew win fin work : Int) (t : TxM) : Int :=
 if rulesE 2 d bl bu qu rew win fin work = 0 then (if validE t = 0 then (if accB d.toNat (stOf d.toNat t 0) t.proof = true then 0 else 10) else validE t) else rulesE 2 d bl bu qu rew win fin work
theorem rulesE_depth {m d bl bu qu rew win fin work : Int} (h : rulesE m d bl bu qu rew win fin work = 0) : 1 ≤ d ∧ d ≤ 12 := by
 unfold rulesE at h
 split at h
 · rename_i hb
   unfold rulesB at hb; rw [decide_eq_true_eq] at hb
   omega
 · simp at h
abbrev ChK (A X : Array Value) (b : Nat) (w1 w' : World) : Prop := Below w1.heap.size w1 w' ∧ (∀ o, w'.cell? ⟨b, o, none⟩ = A[o]?) ∧ (∀ o, w'.cell? ⟨b + 1, o, none⟩ = X[o]?)
theorem ChK.of {A X : Array Value} {b : Nat} {w1 w' : World} (h : w1.heap[b]? = some (.cells A 26 (0, 0))) (h2 : w1.heap[b + 1]? = some (.cells X 181 (0, 0))) (hb : Below w1.heap.size w1 w') : ChK A X b w1 w' :=
 ⟨hb, (box_cells (box_after hb h)).1, (box_cells (box_after hb h2)).1⟩
theorem ChK.drew {A X : Array Value} {b : Nat} {w1 w' : World} (h : ChK A X b w1 w') : ChK A X b w1 w'.drew := ⟨h.1.drew, h.2.1, h.2.2⟩
theorem accepted_st (S' : Nat → Prop) (w : World) (p : Nat) (st : Int) (ho : OrAt false st p w) (D : Nat) (bl bu qu rew win fin work : Int) (t : TxM) (bd : Int) (sa sb sc : Option Addr) (sd se sf : Nat) (hs : StIn (fun _ => True) w (stOf D t bd) sa sb sc sd se sf) (pa : Option Addr) (pc : Nat) (proof : List Int) (hp : bytesR.rel S' w [.slice pa proof.length pc] proof) (hpl : proof.length ≤ 1000000) (hD0 : 1 ≤ D) (hD1 : D ≤ 12) :
   Calls Tryz.prog 260 #[.pointer (some ⟨p, 0, none⟩), .agg #[.int .i64 2, .int .i64 D, .int .i64 bl, .int .i64 bu, .int .i64 qu, .int .u64 rew, .int .i64 win, .int .i64 fin, .int .u64 work], .agg #[.int .i64 D, .int .u64 t.anchor, .slice sa t.marks.length sd, .slice sb t.outs.length se, .slice sc t.outs.length sf, .int .u64 t.dep, .int .u64 t.wd, .int .u64 t.fee, .int .u64 t.acc, .int .u64 bd], .slice pa proof.length pc] w fun e w' => e = .returned (.bool (accB D (stOf D t bd) proof)) ∧ Below w.heap.size w w' := by
 have h := accepted_open (fun _ => True) S' w p st ho 2 rfl D bl bu qu rew win fin work (stOf D t bd) sa sb sc sd se sf hs pa pc proof hp hpl hD0 hD1
 have e1 : (stOf D t bd).commits.length = t.outs.length := by simp [stOf]
 have e2 : (stOf D t bd).rhos.length = t.outs.length := rhosTo_len _ _; rw [e1, e2] at h
 exact h
theorem quiet_same {P : Program} {f : FuncId} {args : Array Value} {w : World} {n : Nat} {v : Value}
   (h : Calls P f args (w.drewN n) fun e w' => e = .returned v ∧ w.drewN n = w') : Calls P f args (w.drewN n) fun e w'' => e = .returned v ∧ ∃ m, w'' = w.drewN m :=
 h.mono fun _ _ ⟨he, hm⟩ => ⟨he, n, hm.symm⟩
set_option maxHeartbeats 4000000 in
theorem check_open (S : Nat → Prop) (w : World) (p : Nat) (st : Int) (ho : OrAt false st p w) (d bl bu qu rew win fin work : Int) (t : TxM) (ma oa pa : Option Addr) (mc oc pc : Nat) (h : TxIn S w t ma oa pa mc oc pc) (hpl : t.proof.length ≤ 1000000) :
   Calls Tryz.prog 200 #[.pointer (some ⟨p, 0, none⟩), .agg #[.int .i64 2, .int .i64 d, .int .i64 bl, .int .i64 bu, .int .i64 qu, .int .u64 rew, .int .i64 win, .int .i64 fin, .int .u64 work], .agg #[.int .u64 t.anchor, .slice ma t.marks.length mc, .slice oa t.outs.length oc, .int .u64 t.dep, .int .u64 t.wd, .int .u64 t.fee, .int .u64 t.acc, .int .u64 t.nonce, .int .i64 t.exp, .slice pa t.proof.length pc]] w fun e w' => e = .returned (.int .i64 (checkE d bl bu qu rew win fin work t)) ∧ Below w.heap.size w w' := by
 have hbA := bnew (Below.refl w.heap.size w) (.cells #[.int .i64 2, .int .i64 d, .int .i64 bl, .int .i64 bu, .int .i64 qu, .int .u64 rew, .int .i64 win, .int .i64 fin, .int .u64 work] 26); have hbB := bnew hbA (.cells #[.int .u64 t.anchor, .slice ma t.marks.length mc, .slice oa t.outs.length oc, .int .u64 t.dep, .int .u64 t.wd, .int .u64 t.fee, .int .u64 t.acc, .int .u64 t.nonce, .int .i64 t.exp, .slice pa t.proof.length pc] 181); have qA := box_old (o' := .cells #[.int .u64 t.anchor, .slice ma t.marks.length mc, .slice oa t.outs.length oc, .int .u64 t.dep, .int .u64 t.wd, .int .u64 t.fee, .int .u64 t.acc, .int .u64 t.nonce, .int .i64 t.exp, .slice pa t.proof.length pc] 181) (box_new w (.cells #[.int .i64 2, .int .i64 d, .int .i64 bl, .int .i64 bu, .int .i64 qu, .int .u64 rew, .int .i64 win, .int .i64 fin, .int .u64 work] 26)); have qB := box_new (w.alloc (.cells #[.int .i64 2, .int .i64 d, .int .i64 bl, .int .i64 bu, .int .i64 qu, .int .u64 rew, .int .i64 win, .int .i64 fin, .int .u64 work] 26)) (.cells #[.int .u64 t.anchor, .slice ma t.marks.length mc, .slice oa t.outs.length oc, .int .u64 t.dep, .int .u64 t.wd, .int .u64 t.fee, .int .u64 t.acc, .int .u64 t.nonce, .int .i64 t.exp, .slice pa t.proof.length pc] 181)
 have eA : (w.alloc (.cells #[.int .i64 2, .int .i64 d, .int .i64 bl, .int .i64 bu, .int .i64 qu, .int .u64 rew, .int .i64 win, .int .i64 fin, .int .u64 work] 26)).heap.size = w.heap.size + 1 := World.size_alloc ..; rw [eA] at qB; have H := Lib.hid (h.keepB hbB); have HO := Lib.hid (ho.keepB hbB); have HA := Lib.hid qA; have HBx := Lib.hid qB; have HBel := Lib.hid hbB; have HU : Hid (checkE d bl bu qu rew win fin work t = if rulesE 2 d bl bu qu rew win fin work = 0 then (if validE t = 0 then (if accB d.toNat (stOf d.toNat t 0) t.proof = true then 0 else 10) else validE t) else rulesE 2 d bl bu qu rew win fin work) := rfl; clear hbA hbB qA qB eA h ho
 go_enter Tryz.func200, Tryz.ntmps200
 go_wp2_with fail; generalize (w.alloc (.cells #[.int .i64 2, .int .i64 d, .int .i64 bl, .int .i64 bu, .int .i64 qu, .int .u64 rew, .int .i64 win, .int .i64 fin, .int .u64 work] 26)).alloc (.cells #[.int .u64 t.anchor, .slice ma t.marks.length mc, .slice oa t.outs.length oc, .int .u64 t.dep, .int .u64 t.wd, .int .u64 t.fee, .int .u64 t.acc, .int .u64 t.nonce, .int .i64 t.exp, .slice pa t.proof.length pc] 181) = W at *
 refine (rules_any 2 d bl bu qu rew win fin work W).mono ?_
 rintro e w1 ⟨rfl, hb1⟩
 by_cases hr : rulesE 2 d bl bu qu rew win fin work = 0
 · obtain ⟨d0, d1⟩ := rulesE_depth hr
   have HU2 : Hid (checkE d bl bu qu rew win fin work t = if validE t = 0 then (if accB d.toNat (stOf d.toNat t 0) t.proof = true then 0 else 10) else validE t) := by show _ = _; rw [HU.out, if_pos hr]
   rw [hr]; clear hr HU
   obtain ⟨D, hD⟩ := Int.eq_ofNat_of_zero_le (show 0 ≤ d by omega)
   subst hD; rw [Int.toNat_natCast] at HU2; obtain ⟨x0, x1⟩ := box_cells (box_after hb1 HA.out); obtain ⟨y0, y1⟩ := box_cells (box_after hb1 HBx.out); have HO1 := Lib.hid (HO.out.keepB hb1); go_wp2_with fail
   go_quiet ((go_at_call 21; exact quiet_same (isIdeal_any _ p false st (HO1.out.keepB (bdrewN (Below.refl _ _) _)))))
   have hb1d := bdrewN hb1 nq; clear x0 x1 y0 y1 hb1; generalize w1.drewN nq = w2 at *; obtain ⟨y0, y1⟩ := box_cells (box_after hb1d HBx.out); obtain ⟨x0, x1⟩ := box_cells (box_after hb1d HA.out); go_wp2_with fail
   refine (txValid_any S w2 t ma oa pa mc oc pc (H.out.keepB hb1d)).mono ?_
   rintro e w3 ⟨rfl, hb3⟩; have hb3d := bnext hb1d hb3
   by_cases hv : validE t = 0
   · have HV := Lib.hid hv
     have HU3 : Hid (checkE D bl bu qu rew win fin work t = if accB D (stOf D t 0) t.proof = true then 0 else 10) := by show _ = _; rw [HU2.out, if_pos hv]
     rw [hv]; clear hv HU2 x0 x1 y0 y1; have HA3 := Lib.hid (box_after hb3d HA.out); have HB3 := Lib.hid (box_after hb3d HBx.out); have H3 := Lib.hid (H.out.keepB hb3d); have HO3 := Lib.hid (HO.out.keepB hb3d); go_wp2_with fail
     go_region_held3 (fun w' => Below w3.heap.size w3 w' ∧ (∀ o, w'.cell? ⟨w.heap.size, o, none⟩ = (#[.int .i64 2, .int .i64 D, .int .i64 bl, .int .i64 bu, .int .i64 qu, .int .u64 rew, .int .i64 win, .int .i64 fin, .int .u64 work] : Array Value)[o]?) ∧ (∀ o, w'.cell? ⟨w.heap.size + 1, o, none⟩ = (#[.int .u64 t.anchor, .slice ma t.marks.length mc, .slice oa t.outs.length oc, .int .u64 t.dep, .int .u64 t.wd, .int .u64 t.fee, .int .u64 t.acc, .int .u64 t.nonce, .int .i64 t.exp, .slice pa t.proof.length pc] : Array Value)[o]?))
       (first
         | with_reducible exact ChK.drew (ChK.of HA3.out HB3.out (Below.refl _ _))
         | with_reducible exact HK1.out
         | with_reducible exact HK2.out)
       (first
         | (go_at_call 218; refine (statement_any S _ t ma oa pa mc oc pc (H3.out.keepB (‹Below w3.heap.size w3 _ ∧ _›).1) HV.out D (by omega)).mono ?_; rintro e w4 ⟨bd, sa, sb, sc, sd, se, sf, q0, q1, rfl, hst, hb4⟩
            have HST := Lib.hid hst; have HK1 := Lib.hid (ChK.of HA3.out HB3.out (bnext (‹Below w3.heap.size w3 _ ∧ _›).1 hb4)); clear hst)
         | (go_at_call 260; refine (accepted_st S _ p st (HO3.out.keepB HK1.out.1) D bl bu qu rew win fin work t bd sa sb sc sd se sf HST.out pa pc t.proof (bytesR.keepB H3.out.proof HK1.out.1) hpl (by omega) (by omega)).mono ?_; rintro e w5 ⟨rfl, hb5⟩
            have HK2 := Lib.hid (ChK.of HA3.out HB3.out (bnext HK1.out.1 hb5)); rw [accB_bind D t bd q1]))
     have hfin := bnext HBel.out (bnext hb3d HK2.out.1)
     cases hac : accB D (stOf D t 0) t.proof with
     | true =>
       have HF : Hid (checkE D bl bu qu rew win fin work t = 0) := by show _ = _; rw [HU3.out, hac]; rfl
       go_wp2_with fail; go_ret
       exact ⟨ret_int HF.out.symm, hfin⟩
     | false =>
       have HF : Hid (checkE D bl bu qu rew win fin work t = 10) := by show _ = _; rw [HU3.out, hac]; rfl
       go_wp2_with fail; go_ret
       exact ⟨ret_int HF.out.symm, hfin⟩
   · have HF : Hid (checkE D bl bu qu rew win fin work t = validE t) := by show _ = _; rw [HU2.out, if_neg hv]
     have z1 : (validE t == 0) = false := by rw [beq_eq_false_iff_ne]; exact hv
     have z2 : (validE t != 0) = true := by rw [bne_iff_ne]; exact hv
     clear hv HU2; generalize validE t = r at *; go_wp2_with fail; go_ret
     exact ⟨ret_int HF.out.symm, bnext HBel.out hb3d⟩
 · have HF : Hid (checkE d bl bu qu rew win fin work t = rulesE 2 d bl bu qu rew win fin work) := by show _ = _; rw [HU.out, if_neg hr]
   have z1 : (rulesE 2 d bl bu qu rew win fin work == 0) = false := by rw [beq_eq_false_iff_ne]; exact hr
   have z2 : (rulesE 2 d bl bu qu rew win fin work != 0) = true := by rw [bne_iff_ne]; exact hr
   clear hr HU; generalize rulesE 2 d bl bu qu rew win fin work = r at *; go_wp2_with fail; go_ret
   exact ⟨ret_int HF.out.symm, bnext HBel.out hb1⟩
end Go.Proofs.YtphacfkcifpobaaGreatDoor
