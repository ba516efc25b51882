/- The reference's relation: what is valid. -/
import Derived.Test.YtgjemeeeignlnaaGreatDoorMRdR
namespace Go.Proofs.YtgjemeeeignlnaaGreatDoor
open Go.ChangeShapes Go.WideShapes Go.ChangeAt Go.RowKit Go.Sort

set_option maxRecDepth 100000 in
set_option maxHeartbeats 8000000 in
theorem rValid_any (S S' : Nat → Prop) (w : World) (D : Nat) (s : StM) (ma ca ra : Option Addr) (mc cc rc : Nat) (hs : StIn S w s ma ca ra mc cc rc) (t : WitM) (ia oa : Option Addr) (ic oc : Nat) (ht : WtIn S' w t ia oa ic oc) (hD0 : 1 ≤ D) (hD1 : D ≤ 12) :
    Calls Tryz.prog 107 #[.agg #[.int .i64 D, .int .u64 s.anchor, .slice ma s.marks.length mc, .slice ca s.commits.length cc, .slice ra s.rhos.length rc, .int .u64 s.dep, .int .u64 s.wd, .int .u64 s.fee, .int .u64 s.acc, .int .u64 s.bind], .agg #[.slice ia t.ins.length ic, .slice oa t.outs.length oc, .int .u64 t.secret]] w fun e w' => e = .returned (.bool (validB D s t)) ∧ Below w.heap.size w w' := by
  have l1 := (sliceR.lens hs.marks).2
  have l2 := (sliceR.lens hs.commits).2
  have l3 := (sliceR.lens hs.rhos).2
  have l4 := (sliceR.lens ht.ins).2
  have l5 := (sliceR.lens ht.outs).2
  unfold maxLen at l1 l2 l3 l4 l5
  have D2 : decide ((D : Int) < 1) = false := decide_eq_false (by omega)
  have D3 : decide ((12 : Int) < (D : Int)) = false := decide_eq_false (by omega)
  have D4 : (1 : Int) ≤ (D : Int) := by omega
  have D5 : (D : Int) ≤ 12 := by omega
  have HU : Hid (validB D s t = (elemsB [s.anchor, s.acc, s.bind, t.secret] && (amtB s && (elemsB s.marks && (elemsB s.commits && (elemsB s.rhos && (lenB s t && (t.ins.all (insB D) && t.outs.all noteB)))))))) := rfl
  have hbB := (bnew (bnew (Below.refl w.heap.size w) (.cells #[.int .i64 D, .int .u64 s.anchor, .slice ma s.marks.length mc, .slice ca s.commits.length cc, .slice ra s.rhos.length rc, .int .u64 s.dep, .int .u64 s.wd, .int .u64 s.fee, .int .u64 s.acc, .int .u64 s.bind] 46)) (.cells #[.slice ia t.ins.length ic, .slice oa t.outs.length oc, .int .u64 t.secret] 117))
  have HA0 := Lib.hid (two_new w (.cells #[.int .i64 D, .int .u64 s.anchor, .slice ma s.marks.length mc, .slice ca s.commits.length cc, .slice ra s.rhos.length rc, .int .u64 s.dep, .int .u64 s.wd, .int .u64 s.fee, .int .u64 s.acc, .int .u64 s.bind] 46) (.cells #[.slice ia t.ins.length ic, .slice oa t.outs.length oc, .int .u64 t.secret] 117)).2
  have HA1 := Lib.hid (two_new w (.cells #[.int .i64 D, .int .u64 s.anchor, .slice ma s.marks.length mc, .slice ca s.commits.length cc, .slice ra s.rhos.length rc, .int .u64 s.dep, .int .u64 s.wd, .int .u64 s.fee, .int .u64 s.acc, .int .u64 s.bind] 46) (.cells #[.slice ia t.ins.length ic, .slice oa t.outs.length oc, .int .u64 t.secret] 117)).1
  have HBel := Lib.hid hbB
  have eW : ((w.alloc (.cells #[.int .i64 D, .int .u64 s.anchor, .slice ma s.marks.length mc, .slice ca s.commits.length cc, .slice ra s.rhos.length rc, .int .u64 s.dep, .int .u64 s.wd, .int .u64 s.fee, .int .u64 s.acc, .int .u64 s.bind] 46)).alloc (.cells #[.slice ia t.ins.length ic, .slice oa t.outs.length oc, .int .u64 t.secret] 117)).heap.size = w.heap.size + 1 + 1 := by rw [World.size_alloc, World.size_alloc]
  have hKey := nums4 ((w.alloc (.cells #[.int .i64 D, .int .u64 s.anchor, .slice ma s.marks.length mc, .slice ca s.commits.length cc, .slice ra s.rhos.length rc, .int .u64 s.dep, .int .u64 s.wd, .int .u64 s.fee, .int .u64 s.acc, .int .u64 s.bind] 46)).alloc (.cells #[.slice ia t.ins.length ic, .slice oa t.outs.length oc, .int .u64 t.secret] 117)) 24 hs.anchor hs.acc hs.bind ht.secret
  rw [eW] at hKey
  have HKey := Lib.hid hKey
  have HS := Lib.hid (hs.keepB hbB)
  have HT := Lib.hid (ht.keepB hbB)
  clear hKey eW hbB hs ht
  go_enter Tryz.func107, Tryz.ntmps107
  go_wp2_with fail
  generalize (w.alloc (.cells #[.int .i64 D, .int .u64 s.anchor, .slice ma s.marks.length mc, .slice ca s.commits.length cc, .slice ra s.rhos.length rc, .int .u64 s.dep, .int .u64 s.wd, .int .u64 s.fee, .int .u64 s.acc, .int .u64 s.bind] 46)).alloc (.cells #[.slice ia t.ins.length ic, .slice oa t.outs.length oc, .int .u64 t.secret] 117) = W at *
  refine (relements_len (fun _ => True) _ _ 4 4 [s.anchor, s.acc, s.bind, t.secret] rfl HKey.out).mono ?_
  rintro e w1 ⟨rfl, hb1⟩
  have hbk := bnext (bnew (Below.refl W.heap.size W) (.cells #[.int .u64 s.anchor, .int .u64 s.acc, .int .u64 s.bind, .int .u64 t.secret] 24)) hb1
  clear hb1 HKey
  obtain ⟨x1, x1'⟩ := box_cells (box_after hbk HA0.out)
  obtain ⟨y1, y1'⟩ := box_cells (box_after hbk HA1.out)
  cases hv1 : elemsB [s.anchor, s.acc, s.bind, t.secret] with
  | false =>
    have HF : Hid (validB D s t = false) := by show _ = _; rw [HU.out]; simp only [hv1, Bool.false_and]
    go_wp2_with fail
    go_ret
    exact ⟨ret_bool HF.out.symm, bnext HBel.out hbk⟩
  | true =>
    have HV1 := Lib.hid hv1
    clear hv1
    go_wp2_with fail
    refine (relements_any S w1 ma mc s.marks (numsR.keepB HS.out.marks hbk)).mono ?_
    rintro e w2 ⟨rfl, hb2⟩
    have hbk2 := bnext hbk hb2
    clear x1 x1' y1 y1' hb2
    obtain ⟨x2, x2'⟩ := box_cells (box_after hbk2 HA0.out)
    obtain ⟨y2, y2'⟩ := box_cells (box_after hbk2 HA1.out)
    cases hv2 : elemsB s.marks with
    | false =>
      have HF : Hid (validB D s t = false) := by show _ = _; rw [HU.out]; simp only [hv2, Bool.false_and, Bool.and_false]
      go_wp2_with fail
      go_ret
      exact ⟨ret_bool HF.out.symm, bnext HBel.out hbk2⟩
    | true =>
      have HV2 := Lib.hid hv2
      clear hv2
      go_wp2_with fail
      refine (relements_any S w2 ca cc s.commits (numsR.keepB HS.out.commits hbk2)).mono ?_
      rintro e w3 ⟨rfl, hb3⟩
      have hbk3 := bnext hbk2 hb3
      clear x2 x2' y2 y2' hb3
      obtain ⟨x3, x3'⟩ := box_cells (box_after hbk3 HA0.out)
      obtain ⟨y3, y3'⟩ := box_cells (box_after hbk3 HA1.out)
      cases hv3 : elemsB s.commits with
      | false =>
        have HF : Hid (validB D s t = false) := by show _ = _; rw [HU.out]; simp only [hv3, Bool.false_and, Bool.and_false]
        go_wp2_with fail
        go_ret
        exact ⟨ret_bool HF.out.symm, bnext HBel.out hbk3⟩
      | true =>
        have HV3 := Lib.hid hv3
        clear hv3
        go_wp2_with fail
        refine (relements_any S w3 ra rc s.rhos (numsR.keepB HS.out.rhos hbk3)).mono ?_
        rintro e w4 ⟨rfl, hb4⟩
        have hbk4 := bnext hbk3 hb4
        clear x3 x3' y3 y3' hb4
        obtain ⟨x4, x4'⟩ := box_cells (box_after hbk4 HA0.out)
        obtain ⟨y4, y4'⟩ := box_cells (box_after hbk4 HA1.out)
        cases hv4 : elemsB s.rhos with
        | false =>
          have HF : Hid (validB D s t = false) := by show _ = _; rw [HU.out]; simp only [hv4, Bool.false_and, Bool.and_false]
          go_wp2_with fail
          go_ret
          exact ⟨ret_bool HF.out.symm, bnext HBel.out hbk4⟩
        | true =>
          have HV4 := Lib.hid hv4
          clear hv4
          by_cases ha : s.dep ≤ 4294967295 ∧ s.wd ≤ 4294967295 ∧ s.fee ≤ 4294967295
          · have HAm : Hid (amtB s = true) := decide_eq_true ha
            obtain ⟨a1, a2, a3⟩ := ha
            by_cases hl : (t.ins.length = s.marks.length ∧ t.ins.length ≤ 4) ∧ t.outs.length = s.commits.length ∧ t.outs.length = s.rhos.length ∧ t.outs.length ≤ 4
            · have HLB : Hid (lenB s t = true) := decide_eq_true hl
              have b0 : ((t.ins.length : Int) == (s.marks.length : Int)) = true := by rw [beq_iff_eq]; omega
              have b0' : ((t.ins.length : Int) != (s.marks.length : Int)) = false := by rw [bne_eq_false_iff_eq]; omega
              have b1 : (t.ins.length : Int) ≤ 4 := by omega
              have b2 : ((t.outs.length : Int) == (s.commits.length : Int)) = true := by rw [beq_iff_eq]; omega
              have b2' : ((t.outs.length : Int) != (s.commits.length : Int)) = false := by rw [bne_eq_false_iff_eq]; omega
              have b3 : ((t.outs.length : Int) == (s.rhos.length : Int)) = true := by rw [beq_iff_eq]; omega
              have b3' : ((t.outs.length : Int) != (s.rhos.length : Int)) = false := by rw [bne_eq_false_iff_eq]; omega
              have b4 : (t.outs.length : Int) ≤ 4 := by omega
              clear hl
              go_wp2_with fail
              clear x4 x4' y4 y4'
              go_loopw [5] (fun vi wr => ∃ k : Nat, k ≤ t.ins.length ∧ vi = .int .i64 k ∧ Hid ((t.ins.take k).all (insB D) = true) ∧ Below W.heap.size W wr) (fun vi _ => t.ins.length - (intOf vi).toNat)
              case atStart => exact ⟨0, Nat.zero_le _, rfl, rfl, hbk4⟩
              case round =>
                obtain ⟨k, hk, rfl, hall, hbr⟩ := hrel
                obtain ⟨x0, x1⟩ := box_cells (box_after hbr HA0.out)
                obtain ⟨y0, y1⟩ := box_cells (box_after hbr HA1.out)
                by_cases hlt : k < t.ins.length
                · obtain ⟨b, off, pa, pc, rfl, hbl, hok, hpa, c0, c1, c2, c3, c4, c5, c6, c7, c8⟩ := spents_at (spentsR.keepB HT.out.ins hbr) k hlt
                  have hno := Lib.hid (all_false (insB D) t.ins k hlt)
                  have hyes := Lib.hid (all_take_succ (insB D) t.ins k hlt)
                  have HPN := Lib.hid hpa
                  have HOK := Lib.hid hok
                  clear hpa
                  have i0 : (0 : Int) ≤ (k : Int) := by omega
                  have i1 : (k : Int) < (t.ins.length : Int) := by omega
                  generalize t.ins[k] = i at *
                  have hin : ∀ (d : Nat) (os : Array Obj), Calls Tryz.prog 174 #[.agg #[.int .u64 i.note.value, .int .u64 i.note.owner, .int .u64 i.note.rho, .int .u64 i.note.blind, .int .u64 i.key, .int .i64 i.number, .int .i64 i.position, .slice pa i.path.length pc, .bool i.dummy], .int .i64 D] (grow (redrawn wr d) os) fun e w' => e = .returned (.bool (insB D i)) ∧ Below (grow (redrawn wr d) os).heap.size (grow (redrawn wr d) os) w' := fun d os =>
                    rinput_any S' _ i HOK.out pa pc (numsR.keepB HPN.out (below_regrown wr d os)) D hD1
                  have xq := box_regrown (box_after hbr HA0.out)
                  have yq := box_regrown (box_after hbr HA1.out)
                  have z0 := cell_in c0; have z1 := cell_in c1; have z2 := cell_in c2; have z3 := cell_in c3; have z4 := cell_in c4; have z5 := cell_in c5; have z6 := cell_in c6; have z7 := cell_in c7; have z8 := cell_in c8
                  clear c0 c1 c2 c3 c4 c5 c6 c7 c8
                  cases hv : insB D i with
                  | true =>
                    have HY : Hid ((t.ins.take (k + 1)).all (insB D) = true) := by show _ = _; rw [hyes.out, hall.out, hv]; rfl
                    rw [hv] at hin
                    go_wp2_with fail
                    refine wp_region_quiet_below (by kernel_rfl) (by kernel_rfl) ?_
                    repeat (first | go_big_quiet_step (exact Calls.regrown_of (hin _ _)) | quiet_step (exact Calls.regrown_of (hin _ _)))
                    refine wpQuiet_nil ?_
                    intro wq hw'
                    obtain ⟨⟨dq, osq⟩, hw''⟩ := hw'
                    have hbwq := below_regrown wr dq osq
                    rw [← hw''] at hbwq
                    clear hw'' xq yq z0 z1 z2 z3 z4 z5 z6 z7 z8
                    go_wp2_with fail
                    go_roundw
                    case rel => exact ⟨k + 1, by omega, by go_num, HY, bnext hbr hbwq⟩
                    case measure => simp [intOf]; omega
                  | false =>
                    have HNO := Lib.hid (hno.out hv)
                    have HF : Hid (validB D s t = false) := by show _ = _; rw [HU.out]; simp only [HNO.out, Bool.false_and, Bool.and_false]
                    rw [hv] at hin
                    go_wp2_with fail
                    refine wp_region_quiet_below (by kernel_rfl) (by kernel_rfl) ?_
                    repeat (first | go_big_quiet_step (exact Calls.regrown_of (hin _ _)) | quiet_step (exact Calls.regrown_of (hin _ _)))
                    refine wpQuiet_nil ?_
                    intro wq hw'
                    obtain ⟨⟨dq, osq⟩, hw''⟩ := hw'
                    have hbwq := below_regrown wr dq osq
                    rw [← hw''] at hbwq
                    clear hw'' xq yq z0 z1 z2 z3 z4 z5 z6 z7 z8
                    go_wp2_with fail
                    go_ret
                    exact ⟨ret_bool HF.out.symm, bnext HBel.out (bnext hbr hbwq)⟩
                · obtain rfl : k = t.ins.length := by omega
                  have hia : t.ins.all (insB D) = true := by have := hall.out; rw [List.take_length] at this; exact this
                  have HF : Hid (validB D s t = t.outs.all noteB) := by show _ = _; rw [HU.out, HV1.out, HV2.out, HV3.out, HV4.out, HAm.out, HLB.out, hia]; rfl
                  clear hia
                  go_wp2_with fail
                  refine (rnotes_any S' wr oa oc t.outs (notesR.keepB HT.out.outs hbr)).mono ?_
                  rintro e w9 ⟨rfl, hb9⟩
                  go_wp2_with fail
                  go_ret
                  exact ⟨ret_bool HF.out.symm, bnext HBel.out (bnext hbr hb9)⟩
            · have HLB : Hid (lenB s t = false) := decide_eq_false hl
              have HF : Hid (validB D s t = false) := by show _ = _; rw [HU.out]; simp only [HLB.out, Bool.false_and, Bool.and_false]
              by_cases l0 : t.ins.length = s.marks.length
              · have b0 : (((t.ins.length : Int) == (s.marks.length : Int))) = true := by rw [beq_iff_eq]; omega
                have b0' : (((t.ins.length : Int) != (s.marks.length : Int))) = false := by rw [bne_eq_false_iff_eq]; omega
                by_cases l1 : t.ins.length ≤ 4
                · have b1 : (t.ins.length : Int) ≤ 4 := by omega
                  by_cases l2 : t.outs.length = s.commits.length
                  · have b2 : (((t.outs.length : Int) == (s.commits.length : Int))) = true := by rw [beq_iff_eq]; omega
                    have b2' : (((t.outs.length : Int) != (s.commits.length : Int))) = false := by rw [bne_eq_false_iff_eq]; omega
                    by_cases l3 : t.outs.length = s.rhos.length
                    · have b3 : (((t.outs.length : Int) == (s.rhos.length : Int))) = true := by rw [beq_iff_eq]; omega
                      have b3' : (((t.outs.length : Int) != (s.rhos.length : Int))) = false := by rw [bne_eq_false_iff_eq]; omega
                      have f4 : ¬ (t.outs.length : Int) ≤ 4 := fun h => hl ⟨⟨l0, l1⟩, l2, l3, by omega⟩
                      clear hl l0 l2 l3
                      go_wp2_with fail
                      go_ret
                      exact ⟨ret_bool HF.out.symm, bnext HBel.out hbk4⟩
                    · have b3 : (((t.outs.length : Int) == (s.rhos.length : Int))) = false := by rw [beq_eq_false_iff_ne]; omega
                      have b3' : (((t.outs.length : Int) != (s.rhos.length : Int))) = true := by rw [bne_iff_ne]; omega
                      clear hl l3 l0 l2
                      go_wp2_with fail
                      go_ret
                      exact ⟨ret_bool HF.out.symm, bnext HBel.out hbk4⟩
                  · have b2 : (((t.outs.length : Int) == (s.commits.length : Int))) = false := by rw [beq_eq_false_iff_ne]; omega
                    have b2' : (((t.outs.length : Int) != (s.commits.length : Int))) = true := by rw [bne_iff_ne]; omega
                    clear hl l2 l0
                    go_wp2_with fail
                    go_ret
                    exact ⟨ret_bool HF.out.symm, bnext HBel.out hbk4⟩
                · have b1 : ¬ (t.ins.length : Int) ≤ 4 := by omega
                  clear hl l1 l0
                  go_wp2_with fail
                  go_ret
                  exact ⟨ret_bool HF.out.symm, bnext HBel.out hbk4⟩
              · have b0 : (((t.ins.length : Int) == (s.marks.length : Int))) = false := by rw [beq_eq_false_iff_ne]; omega
                have b0' : (((t.ins.length : Int) != (s.marks.length : Int))) = true := by rw [bne_iff_ne]; omega
                clear hl l0 
                go_wp2_with fail
                go_ret
                exact ⟨ret_bool HF.out.symm, bnext HBel.out hbk4⟩
          · have HAm : Hid (amtB s = false) := decide_eq_false ha
            have HF : Hid (validB D s t = false) := by show _ = _; rw [HU.out]; simp only [HAm.out, Bool.false_and, Bool.and_false]
            by_cases a1 : s.dep ≤ 4294967295
            · by_cases a2 : s.wd ≤ 4294967295
              · have a3 : ¬ s.fee ≤ 4294967295 := fun h => ha ⟨a1, a2, h⟩
                go_wp2_with fail
                go_ret
                exact ⟨ret_bool HF.out.symm, bnext HBel.out hbk4⟩
              · go_wp2_with fail
                go_ret
                exact ⟨ret_bool HF.out.symm, bnext HBel.out hbk4⟩
            · go_wp2_with fail
              go_ret
              exact ⟨ret_bool HF.out.symm, bnext HBel.out hbk4⟩
end Go.Proofs.YtgjemeeeignlnaaGreatDoor
/- The reference's relation: Check. -/
namespace Go.Proofs.YtgjemeeeignlnaaGreatDoor
open Go.ChangeShapes Go.WideShapes Go.ChangeAt Go.RowKit Go.Sort

set_option maxRecDepth 100000 in
set_option maxHeartbeats 8000000 in
theorem rCheck_any (S S' : Nat → Prop) (w : World) (D : Nat) (s : StM) (ma ca ra : Option Addr) (mc cc rc : Nat) (hs : StIn S w s ma ca ra mc cc rc) (t : WitM) (ia oa : Option Addr) (ic oc : Nat) (ht : WtIn S' w t ia oa ic oc) (hD0 : 1 ≤ D) (hD1 : D ≤ 12) :
    Calls Tryz.prog 64 #[.agg #[.bool false, .int .u64 0, .int .i64 0, .slice none 0 0, .slice none 0 0, .slice none 0 0], .agg #[.int .i64 D, .int .u64 s.anchor, .slice ma s.marks.length mc, .slice ca s.commits.length cc, .slice ra s.rhos.length rc, .int .u64 s.dep, .int .u64 s.wd, .int .u64 s.fee, .int .u64 s.acc, .int .u64 s.bind], .agg #[.slice ia t.ins.length ic, .slice oa t.outs.length oc, .int .u64 t.secret]] w fun e w' => e = .returned (.int .i64 (relE D s t)) ∧ Below w.heap.size w w' := by
  have HU : Hid (relE D s t = if validB D s t = true then (if firstE (inAt s t) t.ins.length = 0 then (if allUp (outAt s t) t.outs.length = true then (if 0 < s.dep ∧ s.acc ≠ hashS 7 [t.secret] then 21 else (if balB s t = true then 0 else 13)) else 1) else firstE (inAt s t) t.ins.length) else 1) := rfl
  have hbB := (bnew (bnew (bnew (Below.refl w.heap.size w) (.cells #[.bool false, .int .u64 0, .int .i64 0, .slice none 0 0, .slice none 0 0, .slice none 0 0] 44)) (.cells #[.int .i64 D, .int .u64 s.anchor, .slice ma s.marks.length mc, .slice ca s.commits.length cc, .slice ra s.rhos.length rc, .int .u64 s.dep, .int .u64 s.wd, .int .u64 s.fee, .int .u64 s.acc, .int .u64 s.bind] 46)) (.cells #[.slice ia t.ins.length ic, .slice oa t.outs.length oc, .int .u64 t.secret] 117))
  have HA0 := Lib.hid (three_new w (.cells #[.bool false, .int .u64 0, .int .i64 0, .slice none 0 0, .slice none 0 0, .slice none 0 0] 44) (.cells #[.int .i64 D, .int .u64 s.anchor, .slice ma s.marks.length mc, .slice ca s.commits.length cc, .slice ra s.rhos.length rc, .int .u64 s.dep, .int .u64 s.wd, .int .u64 s.fee, .int .u64 s.acc, .int .u64 s.bind] 46) (.cells #[.slice ia t.ins.length ic, .slice oa t.outs.length oc, .int .u64 t.secret] 117)).2.2
  have HA1 := Lib.hid (three_new w (.cells #[.bool false, .int .u64 0, .int .i64 0, .slice none 0 0, .slice none 0 0, .slice none 0 0] 44) (.cells #[.int .i64 D, .int .u64 s.anchor, .slice ma s.marks.length mc, .slice ca s.commits.length cc, .slice ra s.rhos.length rc, .int .u64 s.dep, .int .u64 s.wd, .int .u64 s.fee, .int .u64 s.acc, .int .u64 s.bind] 46) (.cells #[.slice ia t.ins.length ic, .slice oa t.outs.length oc, .int .u64 t.secret] 117)).2.1
  have HA2 := Lib.hid (three_new w (.cells #[.bool false, .int .u64 0, .int .i64 0, .slice none 0 0, .slice none 0 0, .slice none 0 0] 44) (.cells #[.int .i64 D, .int .u64 s.anchor, .slice ma s.marks.length mc, .slice ca s.commits.length cc, .slice ra s.rhos.length rc, .int .u64 s.dep, .int .u64 s.wd, .int .u64 s.fee, .int .u64 s.acc, .int .u64 s.bind] 46) (.cells #[.slice ia t.ins.length ic, .slice oa t.outs.length oc, .int .u64 t.secret] 117)).1
  have HBel := Lib.hid hbB
  have HS := Lib.hid (hs.keepB hbB)
  have HT := Lib.hid (ht.keepB hbB)
  have g1 := (sliceR.lens ht.ins).2
  have g2 := (sliceR.lens ht.outs).2
  unfold maxLen at g1 g2
  clear hbB hs ht
  go_enter Tryz.func64, Tryz.ntmps64
  go_wp2_with fail
  generalize ((w.alloc (.cells #[.bool false, .int .u64 0, .int .i64 0, .slice none 0 0, .slice none 0 0, .slice none 0 0] 44)).alloc (.cells #[.int .i64 D, .int .u64 s.anchor, .slice ma s.marks.length mc, .slice ca s.commits.length cc, .slice ra s.rhos.length rc, .int .u64 s.dep, .int .u64 s.wd, .int .u64 s.fee, .int .u64 s.acc, .int .u64 s.bind] 46)).alloc (.cells #[.slice ia t.ins.length ic, .slice oa t.outs.length oc, .int .u64 t.secret] 117) = W at *
  refine (rValid_any S S' W D s ma ca ra mc cc rc HS.out t ia oa ic oc HT.out hD0 hD1).mono ?_
  rintro e w1 ⟨rfl, hb1⟩
  cases hv : validB D s t with
  | false =>
    have HF : Hid (relE D s t = 1) := by show _ = _; rw [HU.out, hv]; rfl
    go_wp2_with fail
    go_ret
    exact ⟨ret_int HF.out.symm, bnext HBel.out hb1⟩
  | true =>
    obtain ⟨k1, k2, k3, k4, k5, k6, k7⟩ := validB_facts hv
    have HK1 := Lib.hid k1
    have HK2 := Lib.hid k2
    have HK3 := Lib.hid k3
    have HK6 := Lib.hid k6
    have HK7 := Lib.hid k7
    have HU2 : Hid (relE D s t = (if firstE (inAt s t) t.ins.length = 0 then (if allUp (outAt s t) t.outs.length = true then (if 0 < s.dep ∧ s.acc ≠ hashS 7 [t.secret] then 21 else (if balB s t = true then 0 else 13)) else 1) else firstE (inAt s t) t.ins.length)) := by show _ = _; rw [HU.out, hv]; rfl
    clear HU k1 k2 k3 k6 k7
    go_wp2_with fail
    go_loopw [7] (fun vi wr => ∃ k : Nat, k ≤ t.ins.length ∧ vi = .int .i64 k ∧ Hid (firstE (inAt s t) k = 0) ∧ Below W.heap.size W wr) (fun vi _ => t.ins.length - (intOf vi).toNat)
    case atStart => exact ⟨0, Nat.zero_le _, rfl, rfl, hb1⟩
    case round =>
      obtain ⟨k, hk, rfl, hall, hbr⟩ := hrel
      obtain ⟨y0, y1⟩ := box_cells (box_after hbr HA2.out)
      by_cases hlt : k < t.ins.length
      · obtain ⟨b, off, pa, pc, rfl, hbl, hok, hpa, c0, c1, c2, c3, c4, c5, c6, c7, c8⟩ := spents_at (spentsR.keepB HT.out.ins hbr) k hlt
        have hlm : k < s.marks.length := by have := HK1.out; omega
        obtain ⟨bm, om, rfl, hbm, m0, m1, hcm⟩ := nums_at (numsR.keepB HS.out.marks hbr) k hlm
        have hgm := getD_at s.marks 0 k hlm
        have hia := List.all_eq_true.1 HK6.out t.ins[k] (List.getElem_mem hlt)
        have hif := insB_facts hia
        have HMK := Lib.hid (insB_mark hia)
        have HAT : Hid (inAt s t k = checkInE s.anchor t.ins[k] s.marks[k]) := by
          show _ = _
          unfold inAt
          rw [List.getElem?_eq_getElem hlt, hgm]
        clear hgm hia
        generalize t.ins[k] = i at *
        generalize s.marks[k] = mk at *
        have HPN := Lib.hid hpa
        have HOK := Lib.hid hok
        clear hpa
        have i0 : (0 : Int) ≤ (k : Int) := by omega
        have i1 : (k : Int) < (s.marks.length : Int) := by omega
        have i2 : (k : Int) < (t.ins.length : Int) := by omega
        have hck : ∀ (d : Nat) (os : Array Obj), Calls Tryz.prog 108 #[.agg #[.bool false, .int .u64 0, .int .i64 0, .slice none 0 0, .slice none 0 0, .slice none 0 0], .int .u64 s.anchor, .int .u64 mk, .agg #[.int .u64 i.note.value, .int .u64 i.note.owner, .int .u64 i.note.rho, .int .u64 i.note.blind, .int .u64 i.key, .int .i64 i.number, .int .i64 i.position, .slice pa i.path.length pc, .bool i.dummy]] (grow (redrawn wr d) os) fun e w' => e = .returned (.int .i64 (checkInE s.anchor i mk)) ∧ Below (grow (redrawn wr d) os).heap.size (grow (redrawn wr d) os) w' := fun d os =>
          rspent_any S' _ s.anchor mk i HOK.out pa pc (numsR.keepB HPN.out (below_regrown wr d os)) hif.1 hif.2.1 hif.2.2 HMK.out
        have vq := box_regrown (box_after hbr HA0.out)
        have xq := box_regrown (box_after hbr HA1.out)
        have yq := box_regrown (box_after hbr HA2.out)
        have q0 := cell_in c0; have q1 := cell_in c1; have q2 := cell_in c2; have q3 := cell_in c3; have q4 := cell_in c4; have q5 := cell_in c5; have q6 := cell_in c6; have q7 := cell_in c7; have q8 := cell_in c8
        have qm := cell_in hcm
        go_wp2_with fail
        clear c0 c1 c2 c3 c4 c5 c6 c7 c8 hcm y0 y1
        refine wp_region_quiet_below (by kernel_rfl) (by kernel_rfl) ?_
        repeat (first | go_big_quiet_step (exact Calls.regrown_of (hck _ _)) | quiet_step (exact Calls.regrown_of (hck _ _)))
        refine wpQuiet_nil ?_
        intro wq hw'
        obtain ⟨⟨dq, osq⟩, hw''⟩ := hw'
        have hbwq := below_regrown wr dq osq
        rw [← hw''] at hbwq
        clear hw'' vq xq yq qm hck q0 q1 q2 q3 q4 q5 q6 q7 q8
        have hbw := bnext hbr hbwq
        by_cases hz : checkInE s.anchor i mk = 0
        · have HY : Hid (firstE (inAt s t) (k + 1) = 0) := firstE_step hall.out (by rw [HAT.out, hz])
          rw [hz]
          go_wp2_with fail
          go_roundw
          case rel => exact ⟨k + 1, by omega, by go_num, HY, hbw⟩
          case measure => simp [intOf]; omega
        · have HF : Hid (relE D s t = checkInE s.anchor i mk) := by
            show _ = _
            have h1 := firstE_stop hall.out (by rw [HAT.out]; exact hz) t.ins.length hlt
            rw [HAT.out] at h1
            rw [HU2.out, h1, if_neg hz]
          have z1 : (checkInE s.anchor i mk == 0) = false := by rw [beq_eq_false_iff_ne]; exact hz
          have z2 : (checkInE s.anchor i mk != 0) = true := by rw [bne_iff_ne]; exact hz
          clear hz HAT
          generalize checkInE s.anchor i mk = ev at *
          go_wp2_with fail
          go_ret
          exact ⟨ret_int HF.out.symm, bnext HBel.out hbw⟩
      · obtain rfl : k = t.ins.length := by omega
        have HU3 : Hid (relE D s t = (if allUp (outAt s t) t.outs.length = true then (if 0 < s.dep ∧ s.acc ≠ hashS 7 [t.secret] then 21 else (if balB s t = true then 0 else 13)) else 1)) := by show _ = _; rw [HU2.out, if_pos hall.out]
        clear HU2 hall
        go_wp2_with fail
        clear y0 y1
        go_loopw [9] (fun vi wr => ∃ k : Nat, k ≤ t.outs.length ∧ vi = .int .i64 k ∧ Hid (allUp (outAt s t) k = true) ∧ Below W.heap.size W wr) (fun vi _ => t.outs.length - (intOf vi).toNat)
        case atStart => exact ⟨0, Nat.zero_le _, rfl, rfl, hbr⟩
        case round =>
          clear hbr
          obtain ⟨k, hk, rfl, hall, hbr⟩ := hrel
          by_cases hlt : k < t.outs.length
          · obtain ⟨b, off, rfl, hbl, hok, c0, c1, c2, c3⟩ := notes_at (notesR.keepB HT.out.outs hbr) k hlt
            have hlc : k < s.commits.length := by have := HK2.out; omega
            have hlr : k < s.rhos.length := by have := HK3.out; omega
            obtain ⟨bc, oc', rfl, hbc, m0, m1, hcc⟩ := nums_at (numsR.keepB HS.out.commits hbr) k hlc
            obtain ⟨br, or', rfl, hbr', n0, n1, hcr⟩ := nums_at (numsR.keepB HS.out.rhos hbr) k hlr
            have hnb := List.all_eq_true.1 HK7.out t.outs[k] (List.getElem_mem hlt)
            have HAT : Hid (outAt s t k = ((commitV t.outs[k] == s.commits[k]) && (t.outs[k].rho == s.rhos[k]))) := by
              show _ = _
              unfold outAt
              rw [List.getElem?_eq_getElem hlt, getD_at s.commits 0 k hlc, getD_at s.rhos 0 k hlr]
            generalize t.outs[k] = n at *
            generalize s.commits[k] = cm at *
            generalize s.rhos[k] = rh at *
            have i0 : (0 : Int) ≤ (k : Int) := by omega
            have i1 : (k : Int) < (s.commits.length : Int) := by omega
            have i2 : (k : Int) < (s.rhos.length : Int) := by omega
            have i3 : (k : Int) < (t.outs.length : Int) := by omega
            obtain ⟨y0, y1⟩ := box_cells (box_after hbr HA2.out)
            have HOKn := Lib.hid hok
            have hcm : ∀ (d : Nat) (os : Array Obj), Calls Tryz.prog 109 #[.agg #[.bool false, .int .u64 0, .int .i64 0, .slice none 0 0, .slice none 0 0, .slice none 0 0], .agg #[.int .u64 n.value, .int .u64 n.owner, .int .u64 n.rho, .int .u64 n.blind]] (grow (redrawn wr d) os) fun e w' => e = .returned (.tuple #[.int .u64 (commitV n), .bool true]) ∧ Below (grow (redrawn wr d) os).heap.size (grow (redrawn wr d) os) w' := fun d os => by
              have := rCommitment_any (grow (redrawn wr d) os) n HOKn.out
              rw [hnb] at this
              exact this
            have vq := box_regrown (box_after hbr HA0.out)
            have yq := box_regrown (box_after hbr HA2.out)
            have q0 := cell_in c0; have q1 := cell_in c1; have q2 := cell_in c2; have q3 := cell_in c3
            go_wp2_with fail
            clear y0 y1
            refine wp_region_quiet_below (by kernel_rfl) (by kernel_rfl) ?_
            repeat (first | go_big_quiet_step (exact Calls.regrown_of (hcm _ _)) | quiet_step (exact Calls.regrown_of (hcm _ _)))
            refine wpQuiet_nil ?_
            intro w2 hw'
            obtain ⟨⟨dq, osq⟩, hw''⟩ := hw'
            have hbw2 := below_regrown wr dq osq
            rw [← hw''] at hbw2
            clear hw'' vq yq q0 q1 q2 q3 hcm
            have hbw := bnext hbr hbw2
            have xq := box_regrown (box_after hbw HA1.out)
            have yq := box_regrown (box_after hbw HA2.out)
            have q0 := cell_in ((hbw2.cell (cell_lt c0)).trans c0); have q1 := cell_in ((hbw2.cell (cell_lt c1)).trans c1); have q2 := cell_in ((hbw2.cell (cell_lt c2)).trans c2); have q3 := cell_in ((hbw2.cell (cell_lt c3)).trans c3)
            have qc := cell_in ((hbw2.cell (cell_lt hcc)).trans hcc)
            have qr := cell_in ((hbw2.cell (cell_lt hcr)).trans hcr)
            clear c0 c1 c2 c3 hcc hcr
            by_cases e1 : commitV n = cm
            · have b1 : (commitV n == cm) = true := by rw [beq_iff_eq]; exact e1
              have b1' : (commitV n != cm) = false := by rw [bne_eq_false_iff_eq]; exact e1
              by_cases e2 : n.rho = rh
              · have b2 : (n.rho == rh) = true := by rw [beq_iff_eq]; exact e2
                have b2' : (n.rho != rh) = false := by rw [bne_eq_false_iff_eq]; exact e2
                have HY : Hid (allUp (outAt s t) (k + 1) = true) := allUp_step hall.out (by rw [HAT.out, b1, b2]; rfl)
                clear e1 e2
                clear HAT
                generalize commitV n = cv at *
                go_wp2_with fail
                refine wp_region_quiet_below (by kernel_rfl) (by kernel_rfl) ?_
                repeat (first | go_big_quiet_step (fail) | quiet_step (fail))
                refine wpQuiet_nil ?_
                intro w5 hw'
                obtain ⟨⟨dq, osq⟩, hw''⟩ := hw'
                have hbw5 := below_regrown w2 dq osq
                rw [← hw''] at hbw5
                clear hw'' xq yq q0 q1 q2 q3 qc qr
                go_wp2_with fail
                go_roundw
                case rel => exact ⟨k + 1, by omega, by go_num, HY, bnext hbw hbw5⟩
                case measure => simp [intOf]; omega
              · have b2 : (n.rho == rh) = false := by rw [beq_eq_false_iff_ne]; exact e2
                have b2' : (n.rho != rh) = true := by rw [bne_iff_ne]; exact e2
                have HF : Hid (relE D s t = 1) := by
                  show _ = _
                  rw [HU3.out, allUp_false (k := k) (by rw [HAT.out, b2, Bool.and_false]) hlt]; rfl
                clear e1 e2
                clear HAT
                generalize commitV n = cv at *
                go_wp2_with fail
                refine wp_region_quiet_below (by kernel_rfl) (by kernel_rfl) ?_
                repeat (first | go_big_quiet_step (fail) | quiet_step (fail))
                refine wpQuiet_nil ?_
                intro w5 hw'
                obtain ⟨⟨dq, osq⟩, hw''⟩ := hw'
                have hbw5 := below_regrown w2 dq osq
                rw [← hw''] at hbw5
                clear hw'' xq yq q0 q1 q2 q3 qc qr
                go_wp2_with fail
                go_ret
                exact ⟨ret_int HF.out.symm, bnext HBel.out (bnext hbw hbw5)⟩
            · have b1 : (commitV n == cm) = false := by rw [beq_eq_false_iff_ne]; exact e1
              have b1' : (commitV n != cm) = true := by rw [bne_iff_ne]; exact e1
              have HF : Hid (relE D s t = 1) := by
                show _ = _
                rw [HU3.out, allUp_false (k := k) (by rw [HAT.out, b1, Bool.false_and]) hlt]; rfl
              clear e1
              clear HAT
              generalize commitV n = cv at *
              go_wp2_with fail
              refine wp_region_quiet_below (by kernel_rfl) (by kernel_rfl) ?_
              repeat (first | go_big_quiet_step (fail) | quiet_step (fail))
              refine wpQuiet_nil ?_
              intro w5 hw'
              obtain ⟨⟨dq, osq⟩, hw''⟩ := hw'
              have hbw5 := below_regrown w2 dq osq
              rw [← hw''] at hbw5
              clear hw'' xq yq q0 q1 q2 q3 qc qr
              go_wp2_with fail
              go_ret
              exact ⟨ret_int HF.out.symm, bnext HBel.out (bnext hbw hbw5)⟩
          · obtain rfl : k = t.outs.length := by omega
            have HU4 : Hid (relE D s t = (if 0 < s.dep ∧ s.acc ≠ hashS 7 [t.secret] then 21 else (if balB s t = true then 0 else 13))) := by show _ = _; rw [HU3.out, if_pos hall.out]
            clear HU3 hall
            obtain ⟨y0, y1⟩ := box_cells (box_after hbr HA2.out)
            by_cases hd : 0 < s.dep
            · have hd' : decide (0 < s.dep) = true := decide_eq_true hd
              go_wp2_with fail
              clear y0 y1
              have xq := box_regrown (box_after hbr HA1.out)
              have yq := box_regrown (box_after hbr HA2.out)
              refine wp_region_quiet_below (by kernel_rfl) (by kernel_rfl) ?_
              repeat (first | go_big_quiet_step (exact Calls.regrown_of (raccount_any _ t.secret HT.out.secret)) | quiet_step (exact Calls.regrown_of (raccount_any _ t.secret HT.out.secret)))
              refine wpQuiet_nil ?_
              intro w3 hw'
              obtain ⟨⟨dq, osq⟩, hw''⟩ := hw'
              have hbw3 := below_regrown wr dq osq
              rw [← hw''] at hbw3
              clear hw'' xq yq
              by_cases ha : s.acc = hashS 7 [t.secret]
              · have b1 : (s.acc == hashS 7 [t.secret]) = true := by rw [beq_iff_eq]; exact ha
                have b1' : (s.acc != hashS 7 [t.secret]) = false := by rw [bne_eq_false_iff_eq]; exact ha
                have HU5 : Hid (relE D s t = if balB s t = true then 0 else 13) := by show _ = _; rw [HU4.out, if_neg (fun h => h.2 ha)]
                clear ha HU4
                generalize hashS 7 [t.secret] = hh at *
                have hbr3 := bnext hbr hbw3
                have xq := box_regrown (box_after hbr3 HA1.out)
                have yq := box_regrown (box_after hbr3 HA2.out)
                have hti : ∀ (d : Nat) (os : Array Obj), WtIn S' (grow (redrawn w3 d) os) t ia oa ic oc := fun d os => HT.out.keepB (bnext hbr3 (below_regrown w3 d os))
                go_wp2_with fail
                refine wp_region_quiet_below (by kernel_rfl) (by kernel_rfl) ?_
                repeat (first | go_big_quiet_step (first | exact Calls.regrown_of (rinputs_any S' _ t ia oa ic oc (hti _ _)) | exact Calls.regrown_of (routputs_any S' _ t ia oa ic oc (hti _ _))) | quiet_step (first | exact Calls.regrown_of (rinputs_any S' _ t ia oa ic oc (hti _ _)) | exact Calls.regrown_of (routputs_any S' _ t ia oa ic oc (hti _ _))))
                refine wpQuiet_nil ?_
                intro w4 hw'
                obtain ⟨⟨dq, osq⟩, hw''⟩ := hw'
                have hbw4 := below_regrown w3 dq osq
                rw [← hw''] at hbw4
                clear hw'' xq yq
                clear hti
                have hfin := bnext HBel.out (bnext hbr3 hbw4)
                cases hbl : balB s t with
                | true =>
                  have b2 : (IntKind.u64.wrap (insSum t.ins t.ins.length + s.dep) == IntKind.u64.wrap (IntKind.u64.wrap (outsSum t.outs t.outs.length + s.wd) + s.fee)) = true := hbl
                  have b2' : (IntKind.u64.wrap (insSum t.ins t.ins.length + s.dep) != IntKind.u64.wrap (IntKind.u64.wrap (outsSum t.outs t.outs.length + s.wd) + s.fee)) = false := by unfold bne; rw [b2]; rfl
                  have HF : Hid (relE D s t = 0) := by show _ = _; rw [HU5.out, hbl]; rfl
                  clear hbl HU5
                  generalize IntKind.u64.wrap (insSum t.ins t.ins.length + s.dep) = l1 at *
                  generalize IntKind.u64.wrap (IntKind.u64.wrap (outsSum t.outs t.outs.length + s.wd) + s.fee) = l2 at *
                  go_wp2_with fail
                  go_ret
                  exact ⟨ret_int HF.out.symm, hfin⟩
                | false =>
                  have b2 : (IntKind.u64.wrap (insSum t.ins t.ins.length + s.dep) == IntKind.u64.wrap (IntKind.u64.wrap (outsSum t.outs t.outs.length + s.wd) + s.fee)) = false := hbl
                  have b2' : (IntKind.u64.wrap (insSum t.ins t.ins.length + s.dep) != IntKind.u64.wrap (IntKind.u64.wrap (outsSum t.outs t.outs.length + s.wd) + s.fee)) = true := by unfold bne; rw [b2]; rfl
                  have HF : Hid (relE D s t = 13) := by show _ = _; rw [HU5.out, hbl]; rfl
                  clear hbl HU5
                  generalize IntKind.u64.wrap (insSum t.ins t.ins.length + s.dep) = l1 at *
                  generalize IntKind.u64.wrap (IntKind.u64.wrap (outsSum t.outs t.outs.length + s.wd) + s.fee) = l2 at *
                  go_wp2_with fail
                  go_ret
                  exact ⟨ret_int HF.out.symm, hfin⟩
              · have b1 : (s.acc == hashS 7 [t.secret]) = false := by rw [beq_eq_false_iff_ne]; exact ha
                have b1' : (s.acc != hashS 7 [t.secret]) = true := by rw [bne_iff_ne]; exact ha
                have HF : Hid (relE D s t = 21) := by show _ = _; rw [HU4.out, if_pos ⟨hd, ha⟩]
                clear ha HU4
                generalize hashS 7 [t.secret] = hh at *
                go_wp2_with fail
                go_ret
                exact ⟨ret_int HF.out.symm, bnext HBel.out (bnext hbr hbw3)⟩
            · have hd' : decide (0 < s.dep) = false := decide_eq_false hd
              have HU5 : Hid (relE D s t = if balB s t = true then 0 else 13) := by show _ = _; rw [HU4.out, if_neg (fun h => hd h.1)]
              clear HU4
              go_wp2_with fail
              clear y0 y1
              have xq := box_regrown (box_after hbr HA1.out)
              have yq := box_regrown (box_after hbr HA2.out)
              refine wp_region_quiet_below (by kernel_rfl) (by kernel_rfl) ?_
              repeat (first | go_big_quiet_step (fail) | quiet_step (fail))
              refine wpQuiet_nil ?_
              intro w3 hw'
              obtain ⟨⟨dq, osq⟩, hw''⟩ := hw'
              have hbw3 := below_regrown wr dq osq
              rw [← hw''] at hbw3
              clear hw'' xq yq
              have hbr3 := bnext hbr hbw3
              have xq := box_regrown (box_after hbr3 HA1.out)
              have yq := box_regrown (box_after hbr3 HA2.out)
              have hti : ∀ (d : Nat) (os : Array Obj), WtIn S' (grow (redrawn w3 d) os) t ia oa ic oc := fun d os => HT.out.keepB (bnext hbr3 (below_regrown w3 d os))
              go_wp2_with fail
              refine wp_region_quiet_below (by kernel_rfl) (by kernel_rfl) ?_
              repeat (first | go_big_quiet_step (first | exact Calls.regrown_of (rinputs_any S' _ t ia oa ic oc (hti _ _)) | exact Calls.regrown_of (routputs_any S' _ t ia oa ic oc (hti _ _))) | quiet_step (first | exact Calls.regrown_of (rinputs_any S' _ t ia oa ic oc (hti _ _)) | exact Calls.regrown_of (routputs_any S' _ t ia oa ic oc (hti _ _))))
              refine wpQuiet_nil ?_
              intro w4 hw'
              obtain ⟨⟨dq, osq⟩, hw''⟩ := hw'
              have hbw4 := below_regrown w3 dq osq
              rw [← hw''] at hbw4
              clear hw'' xq yq
              clear hti
              have hfin := bnext HBel.out (bnext hbr3 hbw4)
              cases hbl : balB s t with
              | true =>
                have b2 : (IntKind.u64.wrap (insSum t.ins t.ins.length + s.dep) == IntKind.u64.wrap (IntKind.u64.wrap (outsSum t.outs t.outs.length + s.wd) + s.fee)) = true := hbl
                have b2' : (IntKind.u64.wrap (insSum t.ins t.ins.length + s.dep) != IntKind.u64.wrap (IntKind.u64.wrap (outsSum t.outs t.outs.length + s.wd) + s.fee)) = false := by unfold bne; rw [b2]; rfl
                have HF : Hid (relE D s t = 0) := by show _ = _; rw [HU5.out, hbl]; rfl
                clear hbl HU5
                generalize IntKind.u64.wrap (insSum t.ins t.ins.length + s.dep) = l1 at *
                generalize IntKind.u64.wrap (IntKind.u64.wrap (outsSum t.outs t.outs.length + s.wd) + s.fee) = l2 at *
                go_wp2_with fail
                go_ret
                exact ⟨ret_int HF.out.symm, hfin⟩
              | false =>
                have b2 : (IntKind.u64.wrap (insSum t.ins t.ins.length + s.dep) == IntKind.u64.wrap (IntKind.u64.wrap (outsSum t.outs t.outs.length + s.wd) + s.fee)) = false := hbl
                have b2' : (IntKind.u64.wrap (insSum t.ins t.ins.length + s.dep) != IntKind.u64.wrap (IntKind.u64.wrap (outsSum t.outs t.outs.length + s.wd) + s.fee)) = true := by unfold bne; rw [b2]; rfl
                have HF : Hid (relE D s t = 13) := by show _ = _; rw [HU5.out, hbl]; rfl
                clear hbl HU5
                generalize IntKind.u64.wrap (insSum t.ins t.ins.length + s.dep) = l1 at *
                generalize IntKind.u64.wrap (IntKind.u64.wrap (outsSum t.outs t.outs.length + s.wd) + s.fee) = l2 at *
                go_wp2_with fail
                go_ret
                exact ⟨ret_int HF.out.symm, hfin⟩
end Go.Proofs.YtgjemeeeignlnaaGreatDoor
