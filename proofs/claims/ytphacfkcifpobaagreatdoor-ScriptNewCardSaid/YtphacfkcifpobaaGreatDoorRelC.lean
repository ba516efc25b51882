/- The relation: Check. -/
import Derived.Test.YtphacfkcifpobaaGreatDoorRelV
import Derived.Test.YtphacfkcifpobaaGreatDoorM08
set_option maxRecDepth 100000
namespace Go.Proofs.YtphacfkcifpobaaGreatDoor
open Go.ChangeShapes Go.WideShapes Go.ChangeAt Go.RowKit Go.Sort
def firstE (f : Nat → Int) : Nat → Int
 | 0 => 0
 | k + 1 => if firstE f k = 0 then f k else firstE f k
theorem firstE_step {f : Nat → Int} {k : Nat} (h : firstE f k = 0) (hk : f k = 0) : firstE f (k + 1) = 0 := by unfold firstE; rw [if_pos h, hk]
theorem firstE_stop {f : Nat → Int} {k : Nat} (h : firstE f k = 0) (hk : f k ≠ 0) : ∀ n, k < n → firstE f n = f k
 | 0, hn => absurd hn (Nat.not_lt_zero _)
 | n + 1, hn => by
   unfold firstE
   rcases Nat.lt_or_ge k n with h1 | h1
   · rw [firstE_stop h hk n h1, if_neg hk]
   · obtain rfl : k = n := by omega
     rw [if_pos h]
def inAt (s : StM) (t : WitM) (k : Nat) : Int :=
 match t.ins[k]? with
 | some i => checkInE s.anchor i (s.marks.getD k 0)
 | none => 0
def outAt (s : StM) (t : WitM) (k : Nat) : Bool :=
 match t.outs[k]? with
 | some n => (commitV n == s.commits.getD k 0) && (n.rho == s.rhos.getD k 0)
 | none => true
def balB (s : StM) (t : WitM) : Bool := IntKind.u64.wrap (insSum t.ins t.ins.length + s.dep) == IntKind.u64.wrap (IntKind.u64.wrap (outsSum t.outs t.outs.length + s.wd) + s.fee)
def relE (D : Nat) (s : StM) (t : WitM) : Int :=
 if validB D s t = true then
   (if firstE (inAt s t) t.ins.length = 0 then
     (if allUp (outAt s t) t.outs.length = true then
       (if 0 < s.dep ∧ s.acc ≠ hashS 7 [t.secret] then 21 else (if balB s t = true then 0 else 13))
      else 1)
    else firstE (inAt s t) t.ins.length)
 else 1
theorem validB_facts {D : Nat} {s : StM} {t : WitM} (h : validB D s t = true) : t.ins.length = s.marks.length ∧ t.outs.length = s.commits.length ∧ t.outs.length = s.rhos.length ∧ t.ins.length ≤ 4 ∧ t.outs.length ≤ 4 ∧ t.ins.all (insB D) = true ∧ t.outs.all noteB = true := by
 unfold validB lenB at h
 simp only [Bool.and_eq_true, decide_eq_true_eq] at h
 obtain ⟨-, -, -, -, -, h1, h2, h3⟩ := h
 exact ⟨h1.1.1, h1.2.1, h1.2.2.1, h1.1.2, h1.2.2.2, h2, h3⟩
theorem insB_facts {D : Nat} {i : SpentM} (h : insB D i = true) : i.path.length ≤ 12 ∧ 0 ≤ i.position ∧ i.position ≤ 4095 := by
 unfold insB spendableB at h
 simp only [Bool.and_eq_true, decide_eq_true_eq] at h
 obtain ⟨⟨-, -, h1, -⟩, -⟩ := h
 exact ⟨h1.2.2.2.2, h1.2.2.1, h1.2.2.2.1⟩
set_option maxHeartbeats 8000000 in
theorem relCheck_any (S S' : Nat → Prop) (w : World) (p : Nat) (st : Int) (ho : OrAt false st p w) (D : Nat) (s : StM) (ma ca ra : Option Addr) (mc cc rc : Nat) (hs : StIn S w s ma ca ra mc cc rc) (t : WitM) (ia oa : Option Addr) (ic oc : Nat) (ht : WtIn S' w t ia oa ic oc) (hD0 : 1 ≤ D) (hD1 : D ≤ 12) :
   Calls Tryz.prog 281 #[.pointer (some ⟨p, 0, none⟩), .agg #[.int .i64 D, .int .u64 s.anchor, .slice ma s.marks.length mc, .slice ca s.commits.length cc, .slice ra s.rhos.length rc, .int .u64 s.dep, .int .u64 s.wd, .int .u64 s.fee, .int .u64 s.acc, .int .u64 s.bind], .agg #[.slice ia t.ins.length ic, .slice oa t.outs.length oc, .int .u64 t.secret]] w fun e w' => e = .returned (.int .i64 (relE D s t)) ∧ Below w.heap.size w w' := by
 have hbA := bnew (Below.refl w.heap.size w) (.cells #[.int .i64 D, .int .u64 s.anchor, .slice ma s.marks.length mc, .slice ca s.commits.length cc, .slice ra s.rhos.length rc, .int .u64 s.dep, .int .u64 s.wd, .int .u64 s.fee, .int .u64 s.acc, .int .u64 s.bind] 329); have hbB := bnew hbA (.cells #[.slice ia t.ins.length ic, .slice oa t.outs.length oc, .int .u64 t.secret] 248); have qA := box_old (o' := .cells #[.slice ia t.ins.length ic, .slice oa t.outs.length oc, .int .u64 t.secret] 248) (box_new w (.cells #[.int .i64 D, .int .u64 s.anchor, .slice ma s.marks.length mc, .slice ca s.commits.length cc, .slice ra s.rhos.length rc, .int .u64 s.dep, .int .u64 s.wd, .int .u64 s.fee, .int .u64 s.acc, .int .u64 s.bind] 329)); have qB := box_new (w.alloc (.cells #[.int .i64 D, .int .u64 s.anchor, .slice ma s.marks.length mc, .slice ca s.commits.length cc, .slice ra s.rhos.length rc, .int .u64 s.dep, .int .u64 s.wd, .int .u64 s.fee, .int .u64 s.acc, .int .u64 s.bind] 329)) (.cells #[.slice ia t.ins.length ic, .slice oa t.outs.length oc, .int .u64 t.secret] 248)
 have eA : (w.alloc (.cells #[.int .i64 D, .int .u64 s.anchor, .slice ma s.marks.length mc, .slice ca s.commits.length cc, .slice ra s.rhos.length rc, .int .u64 s.dep, .int .u64 s.wd, .int .u64 s.fee, .int .u64 s.acc, .int .u64 s.bind] 329)).heap.size = w.heap.size + 1 := World.size_alloc ..; rw [eA] at qB; have HS := Lib.hid (hs.keepB hbB); have HT := Lib.hid (ht.keepB hbB); have HO := Lib.hid (ho.keepB hbB); have HA := Lib.hid qA; have HBx := Lib.hid qB; have HBel := Lib.hid hbB; have HU : Hid (relE D s t = if validB D s t = true then (if firstE (inAt s t) t.ins.length = 0 then (if allUp (outAt s t) t.outs.length = true then (if 0 < s.dep ∧ s.acc ≠ hashS 7 [t.secret] then 21 else (if balB s t = true then 0 else 13)) else 1) else firstE (inAt s t) t.ins.length) else 1) := rfl; clear hbA hbB qA qB eA hs ht ho
 go_enter Tryz.func281, Tryz.ntmps281
 go_wp2_with fail; generalize (w.alloc (.cells #[.int .i64 D, .int .u64 s.anchor, .slice ma s.marks.length mc, .slice ca s.commits.length cc, .slice ra s.rhos.length rc, .int .u64 s.dep, .int .u64 s.wd, .int .u64 s.fee, .int .u64 s.acc, .int .u64 s.bind] 329)).alloc (.cells #[.slice ia t.ins.length ic, .slice oa t.outs.length oc, .int .u64 t.secret] 248) = W at *
 refine (relValid_any S S' W D s ma ca ra mc cc rc HS.out t ia oa ic oc HT.out hD0 hD1).mono ?_
 rintro e w1 ⟨rfl, hb1⟩
 cases hv : validB D s t with
 | false =>
   have HF : Hid (relE D s t = 1) := by show _ = _; rw [HU.out, hv]; rfl
   go_wp2_with fail; go_ret
   exact ⟨ret_int HF.out.symm, bnext HBel.out hb1⟩
 | true =>
   obtain ⟨k1, k2, k3, k4, k5, k6, k7⟩ := validB_facts hv; have HK1 := Lib.hid k1; have HK2 := Lib.hid k2; have HK3 := Lib.hid k3; have HK6 := Lib.hid k6; have HK7 := Lib.hid k7
   have HU2 : Hid (relE D s t = if firstE (inAt s t) t.ins.length = 0 then (if allUp (outAt s t) t.outs.length = true then (if 0 < s.dep ∧ s.acc ≠ hashS 7 [t.secret] then 21 else (if balB s t = true then 0 else 13)) else 1) else firstE (inAt s t) t.ins.length) := by show _ = _; rw [HU.out, hv]; rfl
   clear HU k1 k2 k3 k6 k7; obtain ⟨y0, y1⟩ := box_cells (box_after hb1 HBx.out); go_wp2_with fail; clear y0 y1
   go_loopw [21] (fun vi wr => ∃ k : Nat, k ≤ t.ins.length ∧ vi = .int .i64 k ∧ Hid (firstE (inAt s t) k = 0) ∧ Below W.heap.size W wr) (fun vi _ => t.ins.length - (intOf vi).toNat)
   case atStart => exact ⟨0, Nat.zero_le _, rfl, rfl, hb1⟩
   case round =>
     obtain ⟨k, hk, rfl, hall, hbr⟩ := hrel
     by_cases hlt : k < t.ins.length
     · obtain ⟨b, off, pa, pc, rfl, hbl, hok, hpa, c0, c1, c2, c3, c4, c5, c6, c7, c8⟩ := spents_at (spentsR.keepB HT.out.ins hbr) k hlt
       have hlm : k < s.marks.length := by have := HK1.out; omega
       obtain ⟨bm, om, rfl, hbm, m0, m1, hcm⟩ := nums_at (numsR.keepB HS.out.marks hbr) k hlm; have hgm := getD_at s.marks 0 k hlm; have hif := insB_facts (List.all_eq_true.1 HK6.out t.ins[k] (List.getElem_mem hlt))
       have HAT : Hid (inAt s t k = checkInE s.anchor t.ins[k] s.marks[k]) := by
         show _ = _
         unfold inAt; rw [List.getElem?_eq_getElem hlt, hgm]
       clear hgm; generalize t.ins[k] = i at *; generalize s.marks[k] = mk at *; have hbn := bnew (Below.refl wr.heap.size wr) (.cells #[.int .u64 i.note.value, .int .u64 i.note.owner, .int .u64 i.note.rho, .int .u64 i.note.blind, .int .u64 i.key, .int .i64 i.number, .int .i64 i.position, .slice pa i.path.length pc, .bool i.dummy] 266); have hin := box_new wr (.cells #[.int .u64 i.note.value, .int .u64 i.note.owner, .int .u64 i.note.rho, .int .u64 i.note.blind, .int .u64 i.key, .int .i64 i.number, .int .i64 i.position, .slice pa i.path.length pc, .bool i.dummy] 266); have HPN := Lib.hid (numsR.keepB hpa hbn); have HOK := Lib.hid hok; have hbrn := bnext hbr hbn; have hmk := (hbn.cell (p := ⟨bm, om + k, none⟩) hbm).trans hcm; go_wp2_with fail; clear c0 c1 c2 c3 c4 c5 c6 c7 c8 hpa hcm; generalize wr.alloc (.cells #[.int .u64 i.note.value, .int .u64 i.note.owner, .int .u64 i.note.rho, .int .u64 i.note.blind, .int .u64 i.key, .int .i64 i.number, .int .i64 i.position, .slice pa i.path.length pc, .bool i.dummy] 266) = wn at *; have xq := box_regrown hin; have yq := box_regrown (box_after hbrn HA.out); have zq := cell_in hmk; clear hmk hin
       have i0 : (0 : Int) ≤ (k : Int) := by omega
       have i1 : (k : Int) < (s.marks.length : Int) := by omega
       have hck : ∀ (d : Nat) (os : Array Obj), Calls Tryz.prog 344 #[.pointer (some ⟨p, 0, none⟩), .agg #[.int .i64 D, .int .u64 s.anchor, .slice (some ⟨bm, om, none⟩) s.marks.length mc, .slice ca s.commits.length cc, .slice ra s.rhos.length rc, .int .u64 s.dep, .int .u64 s.wd, .int .u64 s.fee, .int .u64 s.acc, .int .u64 s.bind], .agg #[.int .u64 i.note.value, .int .u64 i.note.owner, .int .u64 i.note.rho, .int .u64 i.note.blind, .int .u64 i.key, .int .i64 i.number, .int .i64 i.position, .slice pa i.path.length pc, .bool i.dummy], .int .u64 mk] (grow (redrawn wn d) os) fun e w' => e = .returned (.int .i64 (checkInE s.anchor i mk)) ∧ Below (grow (redrawn wn d) os).heap.size (grow (redrawn wn d) os) w' := fun d os =>
         checkIn_any S' _ p st (HO.out.keepB (bnext hbrn (below_regrown wn d os))) D s _ ca ra mc cc rc i HOK.out pa pc (numsR.keepB HPN.out (below_regrown wn d os)) hif.1 hif.2.1 hif.2.2 mk
       refine wp_region_quiet_below (by kernel_rfl) (by kernel_rfl) ?_
       repeat (first | go_big_quiet_step (exact Calls.regrown_of (hck _ _)) | quiet_step (exact Calls.regrown_of (hck _ _)))
       refine wpQuiet_nil ?_
       intro wq hw'
       obtain ⟨⟨dq, osq⟩, hw''⟩ := hw'; have hbwq := below_regrown wn dq osq; rw [← hw''] at hbwq; clear hw'' xq yq zq hck; have hbw := bnext hbrn hbwq
       by_cases hz : checkInE s.anchor i mk = 0
       · have HY : Hid (firstE (inAt s t) (k + 1) = 0) := firstE_step hall.out (by rw [HAT.out, hz])
         rw [hz]; go_wp2_with fail
         go_roundw
         case rel => exact ⟨k + 1, by omega, by go_num, HY, hbw⟩
         case measure => simp [intOf]; omega
       · have HF : Hid (relE D s t = checkInE s.anchor i mk) := by
           show _ = _
           have h1 := firstE_stop hall.out (by rw [HAT.out]; exact hz) t.ins.length hlt
           rw [HAT.out] at h1; rw [HU2.out, h1, if_neg hz]
         have z1 : (checkInE s.anchor i mk == 0) = false := by rw [beq_eq_false_iff_ne]; exact hz
         have z2 : (checkInE s.anchor i mk != 0) = true := by rw [bne_iff_ne]; exact hz
         clear hz HAT; generalize checkInE s.anchor i mk = ev at *; go_wp2_with fail; go_ret
         exact ⟨ret_int HF.out.symm, bnext HBel.out hbw⟩
     · obtain rfl : k = t.ins.length := by omega
       have HU3 : Hid (relE D s t = if allUp (outAt s t) t.outs.length = true then (if 0 < s.dep ∧ s.acc ≠ hashS 7 [t.secret] then 21 else (if balB s t = true then 0 else 13)) else 1) := by show _ = _; rw [HU2.out, if_pos hall.out]
       clear HU2 hall; obtain ⟨y0, y1⟩ := box_cells (box_after hbr HBx.out); go_wp2_with fail; clear y0 y1
       go_loopw [42] (fun vi wr => ∃ k : Nat, k ≤ t.outs.length ∧ vi = .int .i64 k ∧ Hid (allUp (outAt s t) k = true) ∧ Below W.heap.size W wr) (fun vi _ => t.outs.length - (intOf vi).toNat)
       case atStart => exact ⟨0, Nat.zero_le _, rfl, rfl, hbr⟩
       case round =>
         clear hbr; obtain ⟨k, hk, rfl, hall, hbr⟩ := hrel
         by_cases hlt : k < t.outs.length
         · obtain ⟨b, off, rfl, hbl, hok, c0, c1, c2, c3⟩ := notes_at (notesR.keepB HT.out.outs hbr) k hlt
           have hlc : k < s.commits.length := by have := HK2.out; omega
           have hlr : k < s.rhos.length := by have := HK3.out; omega
           obtain ⟨bc, oc', rfl, hbc, m0, m1, hcc⟩ := nums_at (numsR.keepB HS.out.commits hbr) k hlc; obtain ⟨br, or', rfl, hbr', n0, n1, hcr⟩ := nums_at (numsR.keepB HS.out.rhos hbr) k hlr; have hnb := List.all_eq_true.1 HK7.out t.outs[k] (List.getElem_mem hlt)
           have HAT : Hid (outAt s t k = ((commitV t.outs[k] == s.commits[k]) && (t.outs[k].rho == s.rhos[k]))) := by
             show _ = _
             unfold outAt; rw [List.getElem?_eq_getElem hlt, getD_at s.commits 0 k hlc, getD_at s.rhos 0 k hlr]
           generalize t.outs[k] = n at *; generalize s.commits[k] = cm at *; generalize s.rhos[k] = rh at *; have hbn := bnew (Below.refl wr.heap.size wr) (.cells #[.int .u64 n.value, .int .u64 n.owner, .int .u64 n.rho, .int .u64 n.blind] 96); have hin := box_new wr (.cells #[.int .u64 n.value, .int .u64 n.owner, .int .u64 n.rho, .int .u64 n.blind] 96); have hbrn := bnext hbr hbn; have HIN := Lib.hid hin; have HCC := Lib.hid ((hbn.cell (p := ⟨bc, oc' + k, none⟩) hbc).trans hcc); have HCR := Lib.hid ((hbn.cell (p := ⟨br, or' + k, none⟩) hbr').trans hcr); have hbc2 : bc < (wr.alloc (.cells #[.int .u64 n.value, .int .u64 n.owner, .int .u64 n.rho, .int .u64 n.blind] 96)).heap.size := Nat.lt_of_lt_of_le hbc hbn.size; have hbr2 : br < (wr.alloc (.cells #[.int .u64 n.value, .int .u64 n.owner, .int .u64 n.rho, .int .u64 n.blind] 96)).heap.size := Nat.lt_of_lt_of_le hbr' hbn.size; clear hin hcc hcr; go_wp2_with fail; clear c0 c1 c2 c3; generalize wr.alloc (.cells #[.int .u64 n.value, .int .u64 n.owner, .int .u64 n.rho, .int .u64 n.blind] 96) = wn at *
           refine (commitment_any wn p st (HO.out.keepB hbrn) n hok).mono ?_
           rintro e w2 ⟨rfl, hb2⟩; rw [hnb]; have hbw := bnext hbrn hb2; obtain ⟨x0, x1⟩ := box_cells (box_after hb2 HIN.out); obtain ⟨z0, z1⟩ := box_cells (box_after hbw HA.out); have hc1 := (hb2.cell (p := ⟨bc, oc' + k, none⟩) hbc2).trans HCC.out; have hc2 := (hb2.cell (p := ⟨br, or' + k, none⟩) hbr2).trans HCR.out
           have i0 : (0 : Int) ≤ (k : Int) := by omega
           have i1 : (k : Int) < (s.commits.length : Int) := by omega
           have i2 : (k : Int) < (s.rhos.length : Int) := by omega
           by_cases e1 : commitV n = cm
           · have b1 : (commitV n == cm) = true := by rw [beq_iff_eq]; exact e1
             have b1' : (commitV n != cm) = false := by rw [bne_eq_false_iff_eq]; exact e1
             by_cases e2 : n.rho = rh
             · have b2 : (n.rho == rh) = true := by rw [beq_iff_eq]; exact e2
               have b2' : (n.rho != rh) = false := by rw [bne_eq_false_iff_eq]; exact e2
               have HY : Hid (allUp (outAt s t) (k + 1) = true) := allUp_step hall.out (by rw [HAT.out, b1, b2]; rfl)
               clear e1 e2 HAT; generalize commitV n = cv at *; go_wp2_with fail
               go_quiet (fail)
               go_wp2_with fail
               go_roundw
               case rel => exact ⟨k + 1, by omega, by go_num, HY, bdrewN hbw _⟩
               case measure => simp [intOf]; omega
             · have b2 : (n.rho == rh) = false := by rw [beq_eq_false_iff_ne]; exact e2
               have b2' : (n.rho != rh) = true := by rw [bne_iff_ne]; exact e2
               have HF : Hid (relE D s t = 1) := by
                 show _ = _
                 rw [HU3.out, allUp_false (k := k) (by rw [HAT.out, b2, Bool.and_false]) hlt]; rfl
               clear e1 e2 HAT; generalize commitV n = cv at *; go_wp2_with fail
               go_quiet (fail)
               go_wp2_with fail; go_ret
               exact ⟨ret_int HF.out.symm, bnext HBel.out (bdrewN hbw _)⟩
           · have b1 : (commitV n == cm) = false := by rw [beq_eq_false_iff_ne]; exact e1
             have b1' : (commitV n != cm) = true := by rw [bne_iff_ne]; exact e1
             have HF : Hid (relE D s t = 1) := by
               show _ = _
               rw [HU3.out, allUp_false (k := k) (by rw [HAT.out, b1, Bool.false_and]) hlt]; rfl
             clear e1 HAT; generalize commitV n = cv at *; go_wp2_with fail
             go_quiet (fail)
             go_wp2_with fail; go_ret
             exact ⟨ret_int HF.out.symm, bnext HBel.out (bdrewN hbw _)⟩
         · obtain rfl : k = t.outs.length := by omega
           have HU4 : Hid (relE D s t = if 0 < s.dep ∧ s.acc ≠ hashS 7 [t.secret] then 21 else (if balB s t = true then 0 else 13)) := by show _ = _; rw [HU3.out, if_pos hall.out]
           clear HU3 hall; have HWB := Lib.hid (box_after hbr HBx.out); have HWA := Lib.hid (box_after hbr HA.out); have HTr := Lib.hid (HT.out.keepB hbr)
           by_cases hd : 0 < s.dep
           · have hd' : decide (0 < s.dep) = true := decide_eq_true hd
             have xq := box_regrown HWA.out; have yq := box_regrown HWB.out; go_wp2_with fail
             refine wp_region_quiet_below (by kernel_rfl) (by kernel_rfl) ?_
             repeat (first | go_big_quiet_step (exact Calls.regrown_of (account_any _ t.secret HT.out.secret)) | quiet_step (exact Calls.regrown_of (account_any _ t.secret HT.out.secret)))
             refine wpQuiet_nil ?_
             intro w3 hw'
             obtain ⟨⟨dq, osq⟩, hw''⟩ := hw'; have hbw3 := below_regrown wr dq osq; rw [← hw''] at hbw3; clear hw'' xq yq
             by_cases ha : s.acc = hashS 7 [t.secret]
             · have b1 : (s.acc == hashS 7 [t.secret]) = true := by rw [beq_iff_eq]; exact ha
               have b1' : (s.acc != hashS 7 [t.secret]) = false := by rw [bne_eq_false_iff_eq]; exact ha
               have HU5 : Hid (relE D s t = if balB s t = true then 0 else 13) := by show _ = _; rw [HU4.out, if_neg (fun h => h.2 ha)]
               clear ha HU4; generalize hashS 7 [t.secret] = hh at *; have hbr3 := bnext hbr hbw3; have xq := box_regrown (box_after hbr3 HA.out); have yq := box_regrown (box_after hbr3 HBx.out)
               have hti : ∀ (d : Nat) (os : Array Obj), WtIn S' (grow (redrawn w3 d) os) t ia oa ic oc := fun d os => HT.out.keepB (bnext hbr3 (below_regrown w3 d os))
               go_wp2_with fail
               refine wp_region_quiet_below (by kernel_rfl) (by kernel_rfl) ?_
               repeat (first | go_big_quiet_step (first | exact Calls.regrown_of (inputs_any S' _ t ia oa ic oc (hti _ _)) | exact Calls.regrown_of (outputs_any S' _ t ia oa ic oc (hti _ _))) | quiet_step (first | exact Calls.regrown_of (inputs_any S' _ t ia oa ic oc (hti _ _)) | exact Calls.regrown_of (outputs_any S' _ t ia oa ic oc (hti _ _))))
               refine wpQuiet_nil ?_
               intro w4 hw'
               obtain ⟨⟨dq, osq⟩, hw''⟩ := hw'; have hbw4 := below_regrown w3 dq osq; rw [← hw''] at hbw4; clear hw'' xq yq; clear hti
               cases hbl : balB s t with
               | true =>
                 have b2 : (IntKind.u64.wrap (insSum t.ins t.ins.length + s.dep) == IntKind.u64.wrap (IntKind.u64.wrap (outsSum t.outs t.outs.length + s.wd) + s.fee)) = true := hbl
                 have b2' : (IntKind.u64.wrap (insSum t.ins t.ins.length + s.dep) != IntKind.u64.wrap (IntKind.u64.wrap (outsSum t.outs t.outs.length + s.wd) + s.fee)) = false := by unfold bne; rw [b2]; rfl
                 have HF : Hid (relE D s t = 0) := by show _ = _; rw [HU5.out, hbl]; rfl
                 clear hbl HU5; generalize IntKind.u64.wrap (insSum t.ins t.ins.length + s.dep) = l1 at *; generalize IntKind.u64.wrap (IntKind.u64.wrap (outsSum t.outs t.outs.length + s.wd) + s.fee) = l2 at *; go_wp2_with fail; go_ret
                 exact ⟨ret_int HF.out.symm, bnext HBel.out (bnext hbr3 hbw4)⟩
               | false =>
                 have b2 : (IntKind.u64.wrap (insSum t.ins t.ins.length + s.dep) == IntKind.u64.wrap (IntKind.u64.wrap (outsSum t.outs t.outs.length + s.wd) + s.fee)) = false := hbl
                 have b2' : (IntKind.u64.wrap (insSum t.ins t.ins.length + s.dep) != IntKind.u64.wrap (IntKind.u64.wrap (outsSum t.outs t.outs.length + s.wd) + s.fee)) = true := by unfold bne; rw [b2]; rfl
                 have HF : Hid (relE D s t = 13) := by show _ = _; rw [HU5.out, hbl]; rfl
                 clear hbl HU5; generalize IntKind.u64.wrap (insSum t.ins t.ins.length + s.dep) = l1 at *; generalize IntKind.u64.wrap (IntKind.u64.wrap (outsSum t.outs t.outs.length + s.wd) + s.fee) = l2 at *; go_wp2_with fail; go_ret
                 exact ⟨ret_int HF.out.symm, bnext HBel.out (bnext hbr3 hbw4)⟩
             · have b1 : (s.acc == hashS 7 [t.secret]) = false := by rw [beq_eq_false_iff_ne]; exact ha
               have b1' : (s.acc != hashS 7 [t.secret]) = true := by rw [bne_iff_ne]; exact ha
               have HF : Hid (relE D s t = 21) := by show _ = _; rw [HU4.out, if_pos ⟨hd, ha⟩]
               clear ha HU4; generalize hashS 7 [t.secret] = hh at *; go_wp2_with fail; go_ret
               exact ⟨ret_int HF.out.symm, bnext HBel.out (bnext hbr hbw3)⟩
           · have hd' : decide (0 < s.dep) = false := decide_eq_false hd
             have HU5 : Hid (relE D s t = if balB s t = true then 0 else 13) := by show _ = _; rw [HU4.out, if_neg (fun h => hd h.1)]
             have xq := box_regrown HWA.out; have yq := box_regrown HWB.out; go_wp2_with fail
             refine wp_region_quiet_below (by kernel_rfl) (by kernel_rfl) ?_
             repeat (first | go_big_quiet_step (fail) | quiet_step (fail))
             refine wpQuiet_nil ?_
             intro w3 hw'
             obtain ⟨⟨dq, osq⟩, hw''⟩ := hw'; have hbw3 := below_regrown wr dq osq; rw [← hw''] at hbw3; clear hw'' xq yq; clear HU4; have hbr3 := bnext hbr hbw3; have xq := box_regrown (box_after hbr3 HA.out); have yq := box_regrown (box_after hbr3 HBx.out)
             have hti : ∀ (d : Nat) (os : Array Obj), WtIn S' (grow (redrawn w3 d) os) t ia oa ic oc := fun d os => HT.out.keepB (bnext hbr3 (below_regrown w3 d os))
             go_wp2_with fail
             refine wp_region_quiet_below (by kernel_rfl) (by kernel_rfl) ?_
             repeat (first | go_big_quiet_step (first | exact Calls.regrown_of (inputs_any S' _ t ia oa ic oc (hti _ _)) | exact Calls.regrown_of (outputs_any S' _ t ia oa ic oc (hti _ _))) | quiet_step (first | exact Calls.regrown_of (inputs_any S' _ t ia oa ic oc (hti _ _)) | exact Calls.regrown_of (outputs_any S' _ t ia oa ic oc (hti _ _))))
             refine wpQuiet_nil ?_
             intro w4 hw'
             obtain ⟨⟨dq, osq⟩, hw''⟩ := hw'; have hbw4 := below_regrown w3 dq osq; rw [← hw''] at hbw4; clear hw'' xq yq; clear hti
             cases hbl : balB s t with
             | true =>
               have b2 : (IntKind.u64.wrap (insSum t.ins t.ins.length + s.dep) == IntKind.u64.wrap (IntKind.u64.wrap (outsSum t.outs t.outs.length + s.wd) + s.fee)) = true := hbl
               have b2' : (IntKind.u64.wrap (insSum t.ins t.ins.length + s.dep) != IntKind.u64.wrap (IntKind.u64.wrap (outsSum t.outs t.outs.length + s.wd) + s.fee)) = false := by unfold bne; rw [b2]; rfl
               have HF : Hid (relE D s t = 0) := by show _ = _; rw [HU5.out, hbl]; rfl
               clear hbl HU5; generalize IntKind.u64.wrap (insSum t.ins t.ins.length + s.dep) = l1 at *; generalize IntKind.u64.wrap (IntKind.u64.wrap (outsSum t.outs t.outs.length + s.wd) + s.fee) = l2 at *; go_wp2_with fail; go_ret
               exact ⟨ret_int HF.out.symm, bnext HBel.out (bnext hbr3 hbw4)⟩
             | false =>
               have b2 : (IntKind.u64.wrap (insSum t.ins t.ins.length + s.dep) == IntKind.u64.wrap (IntKind.u64.wrap (outsSum t.outs t.outs.length + s.wd) + s.fee)) = false := hbl
               have b2' : (IntKind.u64.wrap (insSum t.ins t.ins.length + s.dep) != IntKind.u64.wrap (IntKind.u64.wrap (outsSum t.outs t.outs.length + s.wd) + s.fee)) = true := by unfold bne; rw [b2]; rfl
               have HF : Hid (relE D s t = 13) := by show _ = _; rw [HU5.out, hbl]; rfl
               clear hbl HU5; generalize IntKind.u64.wrap (insSum t.ins t.ins.length + s.dep) = l1 at *; generalize IntKind.u64.wrap (IntKind.u64.wrap (outsSum t.outs t.outs.length + s.wd) + s.fee) = l2 at *; go_wp2_with fail; go_ret
               exact ⟨ret_int HF.out.symm, bnext HBel.out (bnext hbr3 hbw4)⟩
end Go.Proofs.YtphacfkcifpobaaGreatDoor
