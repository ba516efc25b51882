/- The relation: what is valid. -/
import Derived.Test.YtphacfkcifpobaaGreatDoorM07
import Derived.BigQuiet
set_option maxRecDepth 100000
namespace Go.Proofs.YtphacfkcifpobaaGreatDoor
open Go.ChangeShapes Go.WideShapes Go.ChangeAt Go.RowKit Go.Sort
def insB (D : Nat) (i : SpentM) : Bool := spendableB i && (decide (i.path.length = D) && decide (i.position < 2 ^ D))
def amtB (s : StM) : Bool := decide (s.dep ≤ 4294967295 ∧ s.wd ≤ 4294967295 ∧ s.fee ≤ 4294967295)
def lenB (s : StM) (t : WitM) : Bool := decide ((t.ins.length = s.marks.length ∧ t.ins.length ≤ 4) ∧ t.outs.length = s.commits.length ∧ t.outs.length = s.rhos.length ∧ t.outs.length ≤ 4)
def validB (D : Nat) (s : StM) (t : WitM) : Bool :=
 elemsB [s.anchor, s.acc, s.bind, t.secret] && (amtB s && (elemsB s.marks && (elemsB s.commits && (elemsB s.rhos && (lenB s t && (t.ins.all (insB D) && t.outs.all noteB))))))
set_option maxHeartbeats 8000000 in
theorem relValid_any (S S' : Nat → Prop) (w : World) (D : Nat) (s : StM) (ma ca ra : Option Addr) (mc cc rc : Nat) (hs : StIn S w s ma ca ra mc cc rc) (t : WitM) (ia oa : Option Addr) (ic oc : Nat) (ht : WtIn S' w t ia oa ic oc) (hD0 : 1 ≤ D) (hD1 : D ≤ 12) :
   Calls Tryz.prog 280 #[.agg #[.int .i64 D, .int .u64 s.anchor, .slice ma s.marks.length mc, .slice ca s.commits.length cc, .slice ra s.rhos.length rc, .int .u64 s.dep, .int .u64 s.wd, .int .u64 s.fee, .int .u64 s.acc, .int .u64 s.bind], .agg #[.slice ia t.ins.length ic, .slice oa t.outs.length oc, .int .u64 t.secret]] w fun e w' => e = .returned (.bool (validB D s t)) ∧ Below w.heap.size w w' := by
 have l1 := (sliceR.lens hs.marks).2; have l2 := (sliceR.lens hs.commits).2; have l3 := (sliceR.lens hs.rhos).2; have l4 := (sliceR.lens ht.ins).2; have l5 := (sliceR.lens ht.outs).2; unfold maxLen at l1 l2 l3 l4 l5
 have D0 : (1 : Int) ≤ (D : Int) := by omega
 have D2 : decide ((D : Int) < 1) = false := decide_eq_false (by omega)
 have D3 : decide ((12 : Int) < (D : Int)) = false := decide_eq_false (by omega)
 have D1 : (D : Int) ≤ 12 := by omega
 obtain ⟨e1, e2, e3⟩ := pow12 ⟨D, by omega⟩
 simp only at e1 e2 e3
 have HI : Hid (∀ i : SpentM, insB D i = (spendableB i && (decide (i.path.length = D) && decide (i.position < 2 ^ D)))) := fun _ => rfl
 generalize hP2 : (2 : Int) ^ D = P2 at *; have HU : Hid (validB D s t = (elemsB [s.anchor, s.acc, s.bind, t.secret] && (amtB s && (elemsB s.marks && (elemsB s.commits && (elemsB s.rhos && (lenB s t && (t.ins.all (insB D) && t.outs.all noteB)))))))) := rfl; have hbA := bnew (Below.refl w.heap.size w) (.cells #[.int .i64 D, .int .u64 s.anchor, .slice ma s.marks.length mc, .slice ca s.commits.length cc, .slice ra s.rhos.length rc, .int .u64 s.dep, .int .u64 s.wd, .int .u64 s.fee, .int .u64 s.acc, .int .u64 s.bind] 329); have hbB := bnew hbA (.cells #[.slice ia t.ins.length ic, .slice oa t.outs.length oc, .int .u64 t.secret] 248); have qA := box_old (o' := .cells #[.slice ia t.ins.length ic, .slice oa t.outs.length oc, .int .u64 t.secret] 248) (box_new w (.cells #[.int .i64 D, .int .u64 s.anchor, .slice ma s.marks.length mc, .slice ca s.commits.length cc, .slice ra s.rhos.length rc, .int .u64 s.dep, .int .u64 s.wd, .int .u64 s.fee, .int .u64 s.acc, .int .u64 s.bind] 329)); have qB := box_new (w.alloc (.cells #[.int .i64 D, .int .u64 s.anchor, .slice ma s.marks.length mc, .slice ca s.commits.length cc, .slice ra s.rhos.length rc, .int .u64 s.dep, .int .u64 s.wd, .int .u64 s.fee, .int .u64 s.acc, .int .u64 s.bind] 329)) (.cells #[.slice ia t.ins.length ic, .slice oa t.outs.length oc, .int .u64 t.secret] 248)
 have eA : (w.alloc (.cells #[.int .i64 D, .int .u64 s.anchor, .slice ma s.marks.length mc, .slice ca s.commits.length cc, .slice ra s.rhos.length rc, .int .u64 s.dep, .int .u64 s.wd, .int .u64 s.fee, .int .u64 s.acc, .int .u64 s.bind] 329)).heap.size = w.heap.size + 1 := World.size_alloc ..; rw [eA] at qB
 have eW : ((w.alloc (.cells #[.int .i64 D, .int .u64 s.anchor, .slice ma s.marks.length mc, .slice ca s.commits.length cc, .slice ra s.rhos.length rc, .int .u64 s.dep, .int .u64 s.wd, .int .u64 s.fee, .int .u64 s.acc, .int .u64 s.bind] 329)).alloc (.cells #[.slice ia t.ins.length ic, .slice oa t.outs.length oc, .int .u64 t.secret] 248)).heap.size = w.heap.size + 1 + 1 := by rw [World.size_alloc, eA]
 have hKey := nums4 ((w.alloc (.cells #[.int .i64 D, .int .u64 s.anchor, .slice ma s.marks.length mc, .slice ca s.commits.length cc, .slice ra s.rhos.length rc, .int .u64 s.dep, .int .u64 s.wd, .int .u64 s.fee, .int .u64 s.acc, .int .u64 s.bind] 329)).alloc (.cells #[.slice ia t.ins.length ic, .slice oa t.outs.length oc, .int .u64 t.secret] 248)) 24 hs.anchor hs.acc hs.bind ht.secret; rw [eW] at hKey; have HKey := Lib.hid hKey; clear hKey eW; have HS := Lib.hid (hs.keepB hbB); have HT := Lib.hid (ht.keepB hbB); have HA := Lib.hid qA; have HBx := Lib.hid qB; have HBel := Lib.hid hbB; clear hbA hbB qA qB eA hs ht
 go_enter Tryz.func280, Tryz.ntmps280
 go_wp2_with fail; generalize (w.alloc (.cells #[.int .i64 D, .int .u64 s.anchor, .slice ma s.marks.length mc, .slice ca s.commits.length cc, .slice ra s.rhos.length rc, .int .u64 s.dep, .int .u64 s.wd, .int .u64 s.fee, .int .u64 s.acc, .int .u64 s.bind] 329)).alloc (.cells #[.slice ia t.ins.length ic, .slice oa t.outs.length oc, .int .u64 t.secret] 248) = W at *
 refine (elements_any (fun _ => True) _ _ 4 [s.anchor, s.acc, s.bind, t.secret] HKey.out).mono ?_
 rintro e w1 ⟨rfl, hb1⟩; have hbk := bnext (bnew (Below.refl W.heap.size W) (.cells #[.int .u64 s.anchor, .int .u64 s.acc, .int .u64 s.bind, .int .u64 t.secret] 24)) hb1; clear hb1 HKey; obtain ⟨x0, x1⟩ := box_cells (box_after hbk HA.out); obtain ⟨y0, y1⟩ := box_cells (box_after hbk HBx.out)
 cases hv1 : elemsB [s.anchor, s.acc, s.bind, t.secret] with
 | false =>
   have HF : Hid (validB D s t = false) := by show _ = _; rw [HU.out, hv1]; rfl
   go_wp2_with fail; go_ret
   exact ⟨ret_bool HF.out.symm, bnext HBel.out hbk⟩
 | true =>
   by_cases ha : s.dep ≤ 4294967295 ∧ s.wd ≤ 4294967295 ∧ s.fee ≤ 4294967295
   · have HAm : Hid (amtB s = true) := decide_eq_true ha
     obtain ⟨a1, a2, a3⟩ := ha; go_wp2_with fail
     refine (elements_any S w1 ma mc s.marks (numsR.keepB HS.out.marks hbk)).mono ?_
     rintro e w2 ⟨rfl, hb2⟩; have hbk2 := bnext hbk hb2; clear x0 x1 y0 y1 hb2; obtain ⟨x0, x1⟩ := box_cells (box_after hbk2 HA.out); obtain ⟨y0, y1⟩ := box_cells (box_after hbk2 HBx.out)
     cases hv2 : elemsB s.marks with
     | false =>
       have HF : Hid (validB D s t = false) := by show _ = _; rw [HU.out, hv1, HAm.out, hv2]; rfl
       go_wp2_with fail; go_ret
       exact ⟨ret_bool HF.out.symm, bnext HBel.out hbk2⟩
     | true =>
       go_wp2_with fail
       refine (elements_any S w2 ca cc s.commits (numsR.keepB HS.out.commits hbk2)).mono ?_
       rintro e w3 ⟨rfl, hb3⟩; have hbk3 := bnext hbk2 hb3; clear x0 x1 y0 y1 hb3; obtain ⟨x0, x1⟩ := box_cells (box_after hbk3 HA.out); obtain ⟨y0, y1⟩ := box_cells (box_after hbk3 HBx.out)
       cases hv3 : elemsB s.commits with
       | false =>
         have HF : Hid (validB D s t = false) := by show _ = _; rw [HU.out, hv1, HAm.out, hv2, hv3]; rfl
         go_wp2_with fail; go_ret
         exact ⟨ret_bool HF.out.symm, bnext HBel.out hbk3⟩
       | true =>
         go_wp2_with fail
         refine (elements_any S w3 ra rc s.rhos (numsR.keepB HS.out.rhos hbk3)).mono ?_
         rintro e w4 ⟨rfl, hb4⟩; have hbk4 := bnext hbk3 hb4; clear x0 x1 y0 y1 hb4; obtain ⟨x0, x1⟩ := box_cells (box_after hbk4 HA.out); obtain ⟨y0, y1⟩ := box_cells (box_after hbk4 HBx.out)
         cases hv4 : elemsB s.rhos with
         | false =>
           have HF : Hid (validB D s t = false) := by show _ = _; rw [HU.out, hv1, HAm.out, hv2, hv3, hv4]; rfl
           go_wp2_with fail; go_ret
           exact ⟨ret_bool HF.out.symm, bnext HBel.out hbk4⟩
         | true =>
           have HU2 : Hid (validB D s t = (lenB s t && (t.ins.all (insB D) && t.outs.all noteB))) := by show _ = _; rw [HU.out, hv1, HAm.out, hv2, hv3, hv4]; rfl
           clear HU
           by_cases hl : (t.ins.length = s.marks.length ∧ t.ins.length ≤ 4) ∧ t.outs.length = s.commits.length ∧ t.outs.length = s.rhos.length ∧ t.outs.length ≤ 4
           · have HLn : Hid (lenB s t = true) := decide_eq_true hl
             obtain ⟨⟨k1, k2⟩, k3, k4, k5⟩ := hl; have HK1 := Lib.hid k1
             have b1 : ((t.ins.length : Int) == (s.marks.length : Int)) = true := by rw [beq_iff_eq]; omega
             have b1' : ((t.ins.length : Int) != (s.marks.length : Int)) = false := by rw [bne_eq_false_iff_eq]; omega
             have b2 : ((t.outs.length : Int) == (s.commits.length : Int)) = true := by rw [beq_iff_eq]; omega
             have b2' : ((t.outs.length : Int) != (s.commits.length : Int)) = false := by rw [bne_eq_false_iff_eq]; omega
             have b3 : ((t.outs.length : Int) == (s.rhos.length : Int)) = true := by rw [beq_iff_eq]; omega
             have b3' : ((t.outs.length : Int) != (s.rhos.length : Int)) = false := by rw [bne_eq_false_iff_eq]; omega
             have b4 : ¬ (4 : Int) < (t.ins.length : Int) := by omega
             have b5 : ¬ (4 : Int) < (t.outs.length : Int) := by omega
             clear k1 k3 k4; go_wp2_with fail
             go_loopw [95] (fun vi wr => ∃ k : Nat, k ≤ t.ins.length ∧ vi = .int .i64 k ∧ Hid ((t.ins.take k).all (insB D) = true) ∧ Below W.heap.size W wr) (fun vi _ => t.ins.length - (intOf vi).toNat)
             case atStart => exact ⟨0, Nat.zero_le _, rfl, rfl, hbk4⟩
             case round =>
               obtain ⟨k, hk, rfl, hall, hbr⟩ := hrel; clear x0 x1 y0 y1
               by_cases hlt : k < t.ins.length
               · obtain ⟨b, off, pa, pc, rfl, hbl, hok, hpa, c0, c1, c2, c3, c4, c5, c6, c7, c8⟩ := spents_at (spentsR.keepB HT.out.ins hbr) k hlt
                 have hno := Lib.hid (all_false (insB D) t.ins k hlt); have hyes := Lib.hid (all_take_succ (insB D) t.ins k hlt); generalize t.ins[k] = i at *; have hbn := bnew (Below.refl wr.heap.size wr) (.cells #[.int .u64 i.note.value, .int .u64 i.note.owner, .int .u64 i.note.rho, .int .u64 i.note.blind, .int .u64 i.key, .int .i64 i.number, .int .i64 i.position, .slice pa i.path.length pc, .bool i.dummy] 266); have hin := box_new wr (.cells #[.int .u64 i.note.value, .int .u64 i.note.owner, .int .u64 i.note.rho, .int .u64 i.note.blind, .int .u64 i.key, .int .i64 i.number, .int .i64 i.position, .slice pa i.path.length pc, .bool i.dummy] 266); have hpn := numsR.keepB hpa hbn; have HOK := Lib.hid hok; have hbrn := bnext hbr hbn; go_wp2_with fail; clear c0 c1 c2 c3 c4 c5 c6 c7 c8 hpa; generalize wr.alloc (.cells #[.int .u64 i.note.value, .int .u64 i.note.owner, .int .u64 i.note.rho, .int .u64 i.note.blind, .int .u64 i.key, .int .i64 i.number, .int .i64 i.position, .slice pa i.path.length pc, .bool i.dummy] 266) = wn at *; have xq := box_regrown hin; have yq := box_regrown (box_after hbrn HA.out); have HPN := Lib.hid hpn; clear hpn hin; have hnlen := (sliceR.lens HPN.out).2; unfold maxLen at hnlen
                 cases hv : spendableB i with
                 | false =>
                   have spT : ∀ (d : Nat) (os : Array Obj), Calls Tryz.prog 342 #[.agg #[.int .u64 i.note.value, .int .u64 i.note.owner, .int .u64 i.note.rho, .int .u64 i.note.blind, .int .u64 i.key, .int .i64 i.number, .int .i64 i.position, .slice pa i.path.length pc, .bool i.dummy]] (grow (redrawn wn d) os) fun e w' => e = .returned (.bool false) ∧ Below (grow (redrawn wn d) os).heap.size (grow (redrawn wn d) os) w' := fun d os => by
                     have := spendable_any S' (grow (redrawn wn d) os) i HOK.out pa pc (numsR.keepB HPN.out (below_regrown wn d os))
                     rw [hv] at this; exact this
                   have HF : Hid (validB D s t = false) := by
                     show _ = _
                     rw [HU2.out, hno.out (by rw [HI.out, hv]; rfl)]; simp
                   refine wp_region_quiet_below (by kernel_rfl) (by kernel_rfl) ?_
                   repeat (first | go_big_quiet_step (exact Calls.regrown_of (spT _ _)) | quiet_step (exact Calls.regrown_of (spT _ _)))
                   refine wpQuiet_nil ?_
                   intro wq hw'
                   obtain ⟨⟨dq, osq⟩, hw''⟩ := hw'; have hbq := below_regrown wn dq osq; rw [← hw''] at hbq; clear hw'' xq yq spT; go_wp2_with fail; go_ret
                   exact ⟨ret_bool HF.out.symm, bnext HBel.out (bnext hbrn hbq)⟩
                 | true =>
                   have spT : ∀ (d : Nat) (os : Array Obj), Calls Tryz.prog 342 #[.agg #[.int .u64 i.note.value, .int .u64 i.note.owner, .int .u64 i.note.rho, .int .u64 i.note.blind, .int .u64 i.key, .int .i64 i.number, .int .i64 i.position, .slice pa i.path.length pc, .bool i.dummy]] (grow (redrawn wn d) os) fun e w' => e = .returned (.bool true) ∧ Below (grow (redrawn wn d) os).heap.size (grow (redrawn wn d) os) w' := fun d os => by
                     have := spendable_any S' (grow (redrawn wn d) os) i HOK.out pa pc (numsR.keepB HPN.out (below_regrown wn d os))
                     rw [hv] at this; exact this
                   by_cases hp : i.path.length = D
                   · have hpe : ((i.path.length : Int) == (D : Int)) = true := by rw [beq_iff_eq]; omega
                     have hpne : ((i.path.length : Int) != (D : Int)) = false := by rw [bne_eq_false_iff_eq]; omega
                     have HPP := Lib.hid hp; clear hp
                     by_cases hq : i.position < P2
                     · have hq' : decide (P2 ≤ i.position) = false := decide_eq_false (by omega)
                       have HY : Hid ((t.ins.take (k + 1)).all (insB D) = true) := by
                         show _ = _
                         rw [hyes.out, hall.out, HI.out, hv, decide_eq_true HPP.out, decide_eq_true hq]; rfl
                       refine wp_region_quiet_below (by kernel_rfl) (by kernel_rfl) ?_
                       repeat (first | go_big_quiet_step (exact Calls.regrown_of (spT _ _)) | quiet_step (exact Calls.regrown_of (spT _ _)))
                       refine wpQuiet_nil ?_
                       intro wq hw'
                       obtain ⟨⟨dq, osq⟩, hw''⟩ := hw'; have hbq := below_regrown wn dq osq; rw [← hw''] at hbq; clear hw'' xq yq spT; go_wp2_with fail
                       go_roundw
                       case rel => exact ⟨k + 1, by omega, by go_num, HY, bnext hbrn hbq⟩
                       case measure => simp [intOf]; omega
                     · have hq' : decide (P2 ≤ i.position) = true := decide_eq_true (by omega)
                       have HF : Hid (validB D s t = false) := by
                         show _ = _
                         rw [HU2.out, hno.out (by rw [HI.out, decide_eq_false hq]; simp)]; simp
                       refine wp_region_quiet_below (by kernel_rfl) (by kernel_rfl) ?_
                       repeat (first | go_big_quiet_step (exact Calls.regrown_of (spT _ _)) | quiet_step (exact Calls.regrown_of (spT _ _)))
                       refine wpQuiet_nil ?_
                       intro wq hw'
                       obtain ⟨⟨dq, osq⟩, hw''⟩ := hw'; have hbq := below_regrown wn dq osq; rw [← hw''] at hbq; clear hw'' xq yq spT; go_wp2_with fail; go_ret
                       exact ⟨ret_bool HF.out.symm, bnext HBel.out (bnext hbrn hbq)⟩
                   · have hpe : ((i.path.length : Int) == (D : Int)) = false := by rw [beq_eq_false_iff_ne]; omega
                     have hpne : ((i.path.length : Int) != (D : Int)) = true := by rw [bne_iff_ne]; omega
                     have HF : Hid (validB D s t = false) := by
                       show _ = _
                       rw [HU2.out, hno.out (by rw [HI.out, decide_eq_false hp]; simp)]; simp
                     refine wp_region_quiet_below (by kernel_rfl) (by kernel_rfl) ?_
                     repeat (first | go_big_quiet_step (exact Calls.regrown_of (spT _ _)) | quiet_step (exact Calls.regrown_of (spT _ _)))
                     refine wpQuiet_nil ?_
                     intro wq hw'
                     obtain ⟨⟨dq, osq⟩, hw''⟩ := hw'; have hbq := below_regrown wn dq osq; rw [← hw''] at hbq; clear hw'' xq yq spT; go_wp2_with fail; go_ret
                     exact ⟨ret_bool HF.out.symm, bnext HBel.out (bnext hbrn hbq)⟩
               · obtain rfl : k = t.ins.length := by omega
                 have HAL : Hid (t.ins.all (insB D) = true) := by have := hall.out; rw [List.take_length] at this; exact this
                 obtain ⟨y0, y1⟩ := box_cells (box_after hbr HBx.out)
                 have HF : Hid (validB D s t = t.outs.all noteB) := by show _ = _; rw [HU2.out, HLn.out, HAL.out]; rfl
                 go_wp2_with fail
                 refine (notes_any S' wr oa oc t.outs (notesR.keepB HT.out.outs hbr)).mono ?_
                 rintro e w5 ⟨rfl, hb5⟩; go_wp2_with fail; go_ret
                 exact ⟨ret_bool HF.out.symm, bnext HBel.out (bnext hbr hb5)⟩
           · have HF : Hid (validB D s t = false) := by
               show _ = _
               have : lenB s t = false := decide_eq_false hl
               rw [HU2.out, this]; rfl
             by_cases k1 : t.ins.length = s.marks.length
             · have b1 : ((t.ins.length : Int) == (s.marks.length : Int)) = true := by rw [beq_iff_eq]; omega
               have b1' : ((t.ins.length : Int) != (s.marks.length : Int)) = false := by rw [bne_eq_false_iff_eq]; omega
               by_cases k2 : t.ins.length ≤ 4
               · have b4 : ¬ (4 : Int) < (t.ins.length : Int) := by omega
                 have HK1 := Lib.hid k1
                 by_cases k3 : t.outs.length = s.commits.length
                 · have b2 : ((t.outs.length : Int) == (s.commits.length : Int)) = true := by rw [beq_iff_eq]; omega
                   have b2' : ((t.outs.length : Int) != (s.commits.length : Int)) = false := by rw [bne_eq_false_iff_eq]; omega
                   by_cases k4 : t.outs.length = s.rhos.length
                   · have b3 : ((t.outs.length : Int) == (s.rhos.length : Int)) = true := by rw [beq_iff_eq]; omega
                     have b3' : ((t.outs.length : Int) != (s.rhos.length : Int)) = false := by rw [bne_eq_false_iff_eq]; omega
                     have b5 : (4 : Int) < (t.outs.length : Int) := by
                       have : ¬ t.outs.length ≤ 4 := fun h => hl ⟨⟨k1, k2⟩, k3, k4, h⟩
                       omega
                     clear k1 k3 k4 hl; go_wp2_with fail; go_ret
                     exact ⟨ret_bool HF.out.symm, bnext HBel.out hbk4⟩
                   · have b3 : ((t.outs.length : Int) == (s.rhos.length : Int)) = false := by rw [beq_eq_false_iff_ne]; omega
                     have b3' : ((t.outs.length : Int) != (s.rhos.length : Int)) = true := by rw [bne_iff_ne]; omega
                     clear k1 k3 k4 hl; go_wp2_with fail; go_ret
                     exact ⟨ret_bool HF.out.symm, bnext HBel.out hbk4⟩
                 · have b2 : ((t.outs.length : Int) == (s.commits.length : Int)) = false := by rw [beq_eq_false_iff_ne]; omega
                   have b2' : ((t.outs.length : Int) != (s.commits.length : Int)) = true := by rw [bne_iff_ne]; omega
                   clear k1 k3 hl; go_wp2_with fail; go_ret
                   exact ⟨ret_bool HF.out.symm, bnext HBel.out hbk4⟩
               · have b4 : (4 : Int) < (t.ins.length : Int) := by omega
                 clear k1 hl; go_wp2_with fail; go_ret
                 exact ⟨ret_bool HF.out.symm, bnext HBel.out hbk4⟩
             · have b1 : ((t.ins.length : Int) == (s.marks.length : Int)) = false := by rw [beq_eq_false_iff_ne]; omega
               have b1' : ((t.ins.length : Int) != (s.marks.length : Int)) = true := by rw [bne_iff_ne]; omega
               clear k1 hl; go_wp2_with fail; go_ret
               exact ⟨ret_bool HF.out.symm, bnext HBel.out hbk4⟩
   · have HF : Hid (validB D s t = false) := by
       show _ = _
       have : amtB s = false := decide_eq_false ha
       rw [HU.out, hv1, this]; rfl
     by_cases a1 : s.dep ≤ 4294967295
     · by_cases a2 : s.wd ≤ 4294967295
       · have a3 : ¬ s.fee ≤ 4294967295 := fun h => ha ⟨a1, a2, h⟩
         go_wp2_with fail; go_ret
         exact ⟨ret_bool HF.out.symm, bnext HBel.out hbk⟩
       · go_wp2_with fail
         go_ret
         exact ⟨ret_bool HF.out.symm, bnext HBel.out hbk⟩
     · go_wp2_with fail
       go_ret
       exact ⟨ret_bool HF.out.symm, bnext HBel.out hbk⟩
end Go.Proofs.YtphacfkcifpobaaGreatDoor
