/- The relation: Check, whatever the oracle. -/
import Derived.Test.YtdjcdejapkkcmaaGreatDoorM11
import Derived.Test.YtdjcdejapkkcmaaGreatDoorM17
import Derived.Test.YtdjcdejapkkcmaaGreatDoorRelE
import Derived.Test.YtdjcdejapkkcmaaGreatDoorM15
import Derived.Test.YtdjcdejapkkcmaaGreatDoorDigX
import Derived.Test.YtdjcdejapkkcmaaGreatDoorM12
namespace Go.Proofs.YtdjcdejapkkcmaaGreatDoor
open Go.ChangeShapes Go.WideShapes Go.ChangeAt Go.RowKit Go.Sort

def inAtG (m : OrM) (s : StM) (t : WitM) (k : Nat) : Int :=
  match t.ins[k]? with
  | some i => checkInG m s.anchor i (s.marks.getD k 0)
  | none => 0
def outAtG (m : OrM) (s : StM) (t : WitM) (k : Nat) : Bool :=
  match t.outs[k]? with
  | some n => (m.cmt n).2 && (((m.cmt n).1 == s.commits.getD k 0) && (n.rho == s.rhos.getD k 0))
  | none => true
def relG (m : OrM) (D : Nat) (s : StM) (t : WitM) : Int :=
  if validB D s t = true then
    (if firstE (inAtG m s t) t.ins.length = 0 then
      (if allUp (outAtG m s t) t.outs.length = true then
        (if 0 < s.dep ∧ s.acc ≠ hashS 7 [t.secret] then 21 else (if balB s t = true then 0 else 13))
       else 1)
     else firstE (inAtG m s t) t.ins.length)
  else 1
set_option maxRecDepth 100000 in
set_option maxHeartbeats 8000000 in
theorem relCheck_gen (F : Nat → Prop) (S S' : Nat → Prop) (w : World) (p : Nat) (m : OrM) (ho : OrG F p w m) (D : Nat) (s : StM) (ma ca ra : Option Addr) (mc cc rc : Nat) (hs : StIn S w s ma ca ra mc cc rc) (t : WitM) (ia oa : Option Addr) (ic oc : Nat) (ht : WtIn S' w t ia oa ic oc) (hD0 : 1 ≤ D) (hD1 : D ≤ 12) :
    Calls Tryz.prog 68 #[.pointer (some ⟨p, 0, none⟩), .agg #[.int .i64 D, .int .u64 s.anchor, .slice ma s.marks.length mc, .slice ca s.commits.length cc, .slice ra s.rhos.length rc, .int .u64 s.dep, .int .u64 s.wd, .int .u64 s.fee, .int .u64 s.acc, .int .u64 s.bind], .agg #[.slice ia t.ins.length ic, .slice oa t.outs.length oc, .int .u64 t.secret]] w fun e w' => e = .returned (.int .i64 (relG m D s t)) ∧ Below w.heap.size w w' := by
  have hbA := bnew (Below.refl w.heap.size w) (.cells #[.int .i64 D, .int .u64 s.anchor, .slice ma s.marks.length mc, .slice ca s.commits.length cc, .slice ra s.rhos.length rc, .int .u64 s.dep, .int .u64 s.wd, .int .u64 s.fee, .int .u64 s.acc, .int .u64 s.bind] 103)
  have hbB := bnew hbA (.cells #[.slice ia t.ins.length ic, .slice oa t.outs.length oc, .int .u64 t.secret] 48)
  have qA := box_old (o' := .cells #[.slice ia t.ins.length ic, .slice oa t.outs.length oc, .int .u64 t.secret] 48) (box_new w (.cells #[.int .i64 D, .int .u64 s.anchor, .slice ma s.marks.length mc, .slice ca s.commits.length cc, .slice ra s.rhos.length rc, .int .u64 s.dep, .int .u64 s.wd, .int .u64 s.fee, .int .u64 s.acc, .int .u64 s.bind] 103))
  have qB := box_new (w.alloc (.cells #[.int .i64 D, .int .u64 s.anchor, .slice ma s.marks.length mc, .slice ca s.commits.length cc, .slice ra s.rhos.length rc, .int .u64 s.dep, .int .u64 s.wd, .int .u64 s.fee, .int .u64 s.acc, .int .u64 s.bind] 103)) (.cells #[.slice ia t.ins.length ic, .slice oa t.outs.length oc, .int .u64 t.secret] 48)
  have eA : (w.alloc (.cells #[.int .i64 D, .int .u64 s.anchor, .slice ma s.marks.length mc, .slice ca s.commits.length cc, .slice ra s.rhos.length rc, .int .u64 s.dep, .int .u64 s.wd, .int .u64 s.fee, .int .u64 s.acc, .int .u64 s.bind] 103)).heap.size = w.heap.size + 1 := World.size_alloc ..
  rw [eA] at qB
  have HS := Lib.hid (hs.keepB hbB)
  have HT := Lib.hid (ht.keepB hbB)
  have HO := Lib.hid (ho.keepB hbB)
  have HA := Lib.hid qA
  have HBx := Lib.hid qB
  have HBel := Lib.hid hbB
  have HU : Hid (relG m D s t = if validB D s t = true then (if firstE (inAtG m s t) t.ins.length = 0 then (if allUp (outAtG m s t) t.outs.length = true then (if 0 < s.dep ∧ s.acc ≠ hashS 7 [t.secret] then 21 else (if balB s t = true then 0 else 13)) else 1) else firstE (inAtG m s t) t.ins.length) else 1) := rfl
  clear hbA hbB qA qB eA hs ht ho
  go_enter Tryz.func68, Tryz.ntmps68
  go_wp2_with fail
  generalize (w.alloc (.cells #[.int .i64 D, .int .u64 s.anchor, .slice ma s.marks.length mc, .slice ca s.commits.length cc, .slice ra s.rhos.length rc, .int .u64 s.dep, .int .u64 s.wd, .int .u64 s.fee, .int .u64 s.acc, .int .u64 s.bind] 103)).alloc (.cells #[.slice ia t.ins.length ic, .slice oa t.outs.length oc, .int .u64 t.secret] 48) = W at *
  refine (relValid_any S S' W D s ma ca ra mc cc rc HS.out t ia oa ic oc HT.out hD0 hD1).mono ?_
  rintro e w1 ⟨rfl, hb1⟩
  cases hv : validB D s t with
  | false =>
    have HF : Hid (relG m D s t = 1) := by show _ = _; rw [HU.out, hv]; rfl
    go_wp2_with fail
    go_ret
    exact ⟨ret_int HF.out.symm, bnext HBel.out hb1⟩
  | true =>
    obtain ⟨k1, k2, k3, k4, k5, k6, k7⟩ := validB_facts hv
    have HK1 := Lib.hid k1
    have HK2 := Lib.hid k2
    have HK3 := Lib.hid k3
    have HK6 := Lib.hid k6
    have HK7 := Lib.hid k7
    have HU2 : Hid (relG m D s t = if firstE (inAtG m s t) t.ins.length = 0 then (if allUp (outAtG m s t) t.outs.length = true then (if 0 < s.dep ∧ s.acc ≠ hashS 7 [t.secret] then 21 else (if balB s t = true then 0 else 13)) else 1) else firstE (inAtG m s t) t.ins.length) := by show _ = _; rw [HU.out, hv]; rfl
    clear HU k1 k2 k3 k6 k7
    obtain ⟨y0, y1⟩ := box_cells (box_after hb1 HBx.out)
    go_wp2_with fail
    clear y0 y1
    go_loopw [21] (fun vi wr => ∃ k : Nat, k ≤ t.ins.length ∧ vi = .int .i64 k ∧ Hid (firstE (inAtG m s t) k = 0) ∧ Below W.heap.size W wr) (fun vi _ => t.ins.length - (intOf vi).toNat)
    case atStart => exact ⟨0, Nat.zero_le _, rfl, rfl, hb1⟩
    case round =>
      obtain ⟨k, hk, rfl, hall, hbr⟩ := hrel
      by_cases hlt : k < t.ins.length
      · obtain ⟨b, off, pa, pc, rfl, hbl, hok, hpa, c0, c1, c2, c3, c4, c5, c6, c7, c8⟩ := spents_at (spentsR.keepB HT.out.ins hbr) k hlt
        have hlm : k < s.marks.length := by have := HK1.out; omega
        obtain ⟨bm, om, rfl, hbm, m0, m1, hcm⟩ := nums_at (numsR.keepB HS.out.marks hbr) k hlm
        have hgm := getD_at s.marks 0 k hlm
        have hif := insB_facts (List.all_eq_true.1 HK6.out t.ins[k] (List.getElem_mem hlt))
        have HAT : Hid (inAtG m s t k = checkInG m s.anchor t.ins[k] s.marks[k]) := by
          show _ = _
          unfold inAtG
          rw [List.getElem?_eq_getElem hlt, hgm]
        clear hgm
        generalize t.ins[k] = i at *
        generalize s.marks[k] = mk at *
        have hbn := bnew (Below.refl wr.heap.size wr) (.cells #[.int .u64 i.note.value, .int .u64 i.note.owner, .int .u64 i.note.rho, .int .u64 i.note.blind, .int .u64 i.key, .int .i64 i.number, .int .i64 i.position, .slice pa i.path.length pc, .bool i.dummy] 58)
        have hin := box_new wr (.cells #[.int .u64 i.note.value, .int .u64 i.note.owner, .int .u64 i.note.rho, .int .u64 i.note.blind, .int .u64 i.key, .int .i64 i.number, .int .i64 i.position, .slice pa i.path.length pc, .bool i.dummy] 58)
        have HPN := Lib.hid (numsR.keepB hpa hbn)
        have HOK := Lib.hid hok
        have hbrn := bnext hbr hbn
        have hmk := (hbn.cell (p := ⟨bm, om + k, none⟩) hbm).trans hcm
        go_wp2_with fail
        clear c0 c1 c2 c3 c4 c5 c6 c7 c8 hpa hcm
        generalize wr.alloc (.cells #[.int .u64 i.note.value, .int .u64 i.note.owner, .int .u64 i.note.rho, .int .u64 i.note.blind, .int .u64 i.key, .int .i64 i.number, .int .i64 i.position, .slice pa i.path.length pc, .bool i.dummy] 58) = wn at *
        have xq := box_regrown hin
        have yq := box_regrown (box_after hbrn HA.out)
        have zq := cell_in hmk
        clear hmk hin
        have i0 : (0 : Int) ≤ (k : Int) := by omega
        have i1 : (k : Int) < (s.marks.length : Int) := by omega
        have hck : ∀ (d : Nat) (os : Array Obj), Calls Tryz.prog 115 #[.pointer (some ⟨p, 0, none⟩), .agg #[.int .i64 D, .int .u64 s.anchor, .slice (some ⟨bm, om, none⟩) s.marks.length mc, .slice ca s.commits.length cc, .slice ra s.rhos.length rc, .int .u64 s.dep, .int .u64 s.wd, .int .u64 s.fee, .int .u64 s.acc, .int .u64 s.bind], .agg #[.int .u64 i.note.value, .int .u64 i.note.owner, .int .u64 i.note.rho, .int .u64 i.note.blind, .int .u64 i.key, .int .i64 i.number, .int .i64 i.position, .slice pa i.path.length pc, .bool i.dummy], .int .u64 mk] (grow (redrawn wn d) os) fun e w' => e = .returned (.int .i64 (checkInG m s.anchor i mk)) ∧ Below (grow (redrawn wn d) os).heap.size (grow (redrawn wn d) os) w' := fun d os =>
          checkIn_gen F S' _ p m (HO.out.keepB (bnext hbrn (below_regrown wn d os))) D s _ ca ra mc cc rc i HOK.out pa pc (numsR.keepB HPN.out (below_regrown wn d os)) hif.1 hif.2.1 hif.2.2 mk
        refine wp_region_quiet_below (by kernel_rfl) (by kernel_rfl) ?_
        repeat (first | go_big_quiet_step (exact Calls.regrown_of (hck _ _)) | quiet_step (exact Calls.regrown_of (hck _ _)))
        refine wpQuiet_nil ?_
        intro wq hw'
        obtain ⟨⟨dq, osq⟩, hw''⟩ := hw'
        have hbwq := below_regrown wn dq osq
        rw [← hw''] at hbwq
        clear hw'' xq yq zq hck
        have hbw := bnext hbrn hbwq
        by_cases hz : checkInG m s.anchor i mk = 0
        · have HY : Hid (firstE (inAtG m s t) (k + 1) = 0) := firstE_step hall.out (by rw [HAT.out, hz])
          rw [hz]
          go_wp2_with fail
          go_roundw
          case rel => exact ⟨k + 1, by omega, by go_num, HY, hbw⟩
          case measure => simp [intOf]; omega
        · have HF : Hid (relG m D s t = checkInG m s.anchor i mk) := by
            show _ = _
            have h1 := firstE_stop hall.out (by rw [HAT.out]; exact hz) t.ins.length hlt
            rw [HAT.out] at h1
            rw [HU2.out, h1, if_neg hz]
          have z1 : (checkInG m s.anchor i mk == 0) = false := by rw [beq_eq_false_iff_ne]; exact hz
          have z2 : (checkInG m s.anchor i mk != 0) = true := by rw [bne_iff_ne]; exact hz
          clear hz HAT
          generalize checkInG m s.anchor i mk = ev at *
          go_wp2_with fail
          go_ret
          exact ⟨ret_int HF.out.symm, bnext HBel.out hbw⟩
      · obtain rfl : k = t.ins.length := by omega
        have HU3 : Hid (relG m D s t = if allUp (outAtG m s t) t.outs.length = true then (if 0 < s.dep ∧ s.acc ≠ hashS 7 [t.secret] then 21 else (if balB s t = true then 0 else 13)) else 1) := by show _ = _; rw [HU2.out, if_pos hall.out]
        clear HU2 hall
        obtain ⟨y0, y1⟩ := box_cells (box_after hbr HBx.out)
        go_wp2_with fail
        clear y0 y1
        go_loopw [42] (fun vi wr => ∃ k : Nat, k ≤ t.outs.length ∧ vi = .int .i64 k ∧ Hid (allUp (outAtG m s t) k = true) ∧ Below W.heap.size W wr) (fun vi _ => t.outs.length - (intOf vi).toNat)
        case atStart => exact ⟨0, Nat.zero_le _, rfl, rfl, hbr⟩
        case round =>
          clear hbr
          obtain ⟨k, hk, rfl, hall, hbr⟩ := hrel
          by_cases hlt : k < t.outs.length
          · obtain ⟨b, off, rfl, hbl, hok, c0, c1, c2, c3⟩ := notes_at (notesR.keepB HT.out.outs hbr) k hlt
            have hlc : k < s.commits.length := by have := HK2.out; omega
            have hlr : k < s.rhos.length := by have := HK3.out; omega
            obtain ⟨bc, oc', rfl, hbc, m0, m1, hcc⟩ := nums_at (numsR.keepB HS.out.commits hbr) k hlc
            obtain ⟨br, or', rfl, hbr', n0, n1, hcr⟩ := nums_at (numsR.keepB HS.out.rhos hbr) k hlr
            have HAT : Hid (outAtG m s t k = ((m.cmt t.outs[k]).2 && (((m.cmt t.outs[k]).1 == s.commits[k]) && (t.outs[k].rho == s.rhos[k])))) := by
              show _ = _
              unfold outAtG
              rw [List.getElem?_eq_getElem hlt, getD_at s.commits 0 k hlc, getD_at s.rhos 0 k hlr]
            generalize t.outs[k] = n at *
            generalize s.commits[k] = cm at *
            generalize s.rhos[k] = rh at *
            have hbn := bnew (Below.refl wr.heap.size wr) (.cells #[.int .u64 n.value, .int .u64 n.owner, .int .u64 n.rho, .int .u64 n.blind] 56)
            have hin := box_new wr (.cells #[.int .u64 n.value, .int .u64 n.owner, .int .u64 n.rho, .int .u64 n.blind] 56)
            have hbrn := bnext hbr hbn
            have HIN := Lib.hid hin
            have HCC := Lib.hid ((hbn.cell (p := ⟨bc, oc' + k, none⟩) hbc).trans hcc)
            have HCR := Lib.hid ((hbn.cell (p := ⟨br, or' + k, none⟩) hbr').trans hcr)
            have hbc2 : bc < (wr.alloc (.cells #[.int .u64 n.value, .int .u64 n.owner, .int .u64 n.rho, .int .u64 n.blind] 56)).heap.size := Nat.lt_of_lt_of_le hbc hbn.size
            have hbr2 : br < (wr.alloc (.cells #[.int .u64 n.value, .int .u64 n.owner, .int .u64 n.rho, .int .u64 n.blind] 56)).heap.size := Nat.lt_of_lt_of_le hbr' hbn.size
            clear hin hcc hcr
            go_wp2_with fail
            clear c0 c1 c2 c3
            generalize wr.alloc (.cells #[.int .u64 n.value, .int .u64 n.owner, .int .u64 n.rho, .int .u64 n.blind] 56) = wn at *
            refine (commitment_gen F wn p m (HO.out.keepB hbrn) n hok).mono ?_
            obtain ⟨ckk, hckk⟩ : ∃ x, (m.cmt n).2 = x := ⟨_, rfl⟩
            obtain ⟨cvv, hcvv⟩ : ∃ x, (m.cmt n).1 = x := ⟨_, rfl⟩
            rw [hckk, hcvv] at HAT ⊢
            clear hckk hcvv
            rintro e w2 ⟨rfl, hb2⟩
            have hbw := bnext hbrn hb2
            obtain ⟨x0, x1⟩ := box_cells (box_after hb2 HIN.out)
            obtain ⟨z0, z1⟩ := box_cells (box_after hbw HA.out)
            have hc1 := (hb2.cell (p := ⟨bc, oc' + k, none⟩) hbc2).trans HCC.out
            have hc2 := (hb2.cell (p := ⟨br, or' + k, none⟩) hbr2).trans HCR.out
            have i0 : (0 : Int) ≤ (k : Int) := by omega
            have i1 : (k : Int) < (s.commits.length : Int) := by omega
            have i2 : (k : Int) < (s.rhos.length : Int) := by omega
            cases ckk with
            | false =>
              have HF : Hid (relG m D s t = 1) := by
                show _ = _
                rw [HU3.out, allUp_false (k := k) (by rw [HAT.out]; rfl) hlt]; rfl
              clear HAT
              go_wp2_with fail
              go_quiet (fail)
              go_wp2_with fail
              go_ret
              exact ⟨ret_int HF.out.symm, bnext HBel.out (bdrewN hbw _)⟩
            | true =>
              by_cases e1 : cvv = cm
              · have b1 : (cvv == cm) = true := by rw [beq_iff_eq]; exact e1
                have b1' : (cvv != cm) = false := by rw [bne_eq_false_iff_eq]; exact e1
                by_cases e2 : n.rho = rh
                · have b2 : (n.rho == rh) = true := by rw [beq_iff_eq]; exact e2
                  have b2' : (n.rho != rh) = false := by rw [bne_eq_false_iff_eq]; exact e2
                  have HY : Hid (allUp (outAtG m s t) (k + 1) = true) := allUp_step hall.out (by rw [HAT.out, b1, b2]; rfl)
                  clear e1 e2 HAT
                  generalize cvv = cv at *
                  go_wp2_with fail
                  go_quiet (fail)
                  go_wp2_with fail
                  go_roundw
                  case rel => exact ⟨k + 1, by omega, by go_num, HY, bdrewN hbw _⟩
                  case measure => simp [intOf]; omega
                · have b2 : (n.rho == rh) = false := by rw [beq_eq_false_iff_ne]; exact e2
                  have b2' : (n.rho != rh) = true := by rw [bne_iff_ne]; exact e2
                  have HF : Hid (relG m D s t = 1) := by
                    show _ = _
                    rw [HU3.out, allUp_false (k := k) (by rw [HAT.out, b2]; simp) hlt]; rfl
                  clear e1 e2 HAT
                  generalize cvv = cv at *
                  go_wp2_with fail
                  go_quiet (fail)
                  go_wp2_with fail
                  go_ret
                  exact ⟨ret_int HF.out.symm, bnext HBel.out (bdrewN hbw _)⟩
              · have b1 : (cvv == cm) = false := by rw [beq_eq_false_iff_ne]; exact e1
                have b1' : (cvv != cm) = true := by rw [bne_iff_ne]; exact e1
                have HF : Hid (relG m D s t = 1) := by
                  show _ = _
                  rw [HU3.out, allUp_false (k := k) (by rw [HAT.out, b1]; simp) hlt]; rfl
                clear e1 HAT
                generalize cvv = cv at *
                go_wp2_with fail
                go_quiet (fail)
                go_wp2_with fail
                go_ret
                exact ⟨ret_int HF.out.symm, bnext HBel.out (bdrewN hbw _)⟩
          · obtain rfl : k = t.outs.length := by omega
            have HU4 : Hid (relG m D s t = if 0 < s.dep ∧ s.acc ≠ hashS 7 [t.secret] then 21 else (if balB s t = true then 0 else 13)) := by show _ = _; rw [HU3.out, if_pos hall.out]
            clear HU3 hall
            have HWB := Lib.hid (box_after hbr HBx.out)
            have HWA := Lib.hid (box_after hbr HA.out)
            have HTr := Lib.hid (HT.out.keepB hbr)
            by_cases hd : 0 < s.dep
            · have hd' : decide (0 < s.dep) = true := decide_eq_true hd
              have xq := box_regrown HWA.out
              have yq := box_regrown HWB.out
              go_wp2_with fail
              refine wp_region_quiet_below (by kernel_rfl) (by kernel_rfl) ?_
              repeat (first | go_big_quiet_step (exact Calls.regrown_of (account_any _ t.secret HT.out.secret)) | quiet_step (exact Calls.regrown_of (account_any _ t.secret HT.out.secret)))
              refine wpQuiet_nil ?_
              intro w3 hw'
              obtain ⟨⟨dq, osq⟩, hw''⟩ := hw'
              have hbw3 := below_regrown wr dq osq
              rw [← hw''] at hbw3
              clear hw'' xq yq
              by_cases ha : s.acc = hashS 7 [t.secret]
              · have b1 : (s.acc == hashS 7 [t.secret]) = true := by rw [beq_iff_eq]; exact ha
                have b1' : (s.acc != hashS 7 [t.secret]) = false := by rw [bne_eq_false_iff_eq]; exact ha
                have HU5 : Hid (relG m D s t = if balB s t = true then 0 else 13) := by show _ = _; rw [HU4.out, if_neg (fun h => h.2 ha)]
                clear ha HU4
                generalize hashS 7 [t.secret] = hh at *
                have hbr3 := bnext hbr hbw3
                have xq := box_regrown (box_after hbr3 HA.out)
                have yq := box_regrown (box_after hbr3 HBx.out)
                have hti : ∀ (d : Nat) (os : Array Obj), WtIn S' (grow (redrawn w3 d) os) t ia oa ic oc := fun d os => HT.out.keepB (bnext hbr3 (below_regrown w3 d os))
                go_wp2_with fail
                refine wp_region_quiet_below (by kernel_rfl) (by kernel_rfl) ?_
                repeat (first | go_big_quiet_step (first | exact Calls.regrown_of (inputs_any S' _ t ia oa ic oc (hti _ _)) | exact Calls.regrown_of (outputs_any S' _ t ia oa ic oc (hti _ _))) | quiet_step (first | exact Calls.regrown_of (inputs_any S' _ t ia oa ic oc (hti _ _)) | exact Calls.regrown_of (outputs_any S' _ t ia oa ic oc (hti _ _))))
                refine wpQuiet_nil ?_
                intro w4 hw'
                obtain ⟨⟨dq, osq⟩, hw''⟩ := hw'
                have hbw4 := below_regrown w3 dq osq
                rw [← hw''] at hbw4
                clear hw'' xq yq
                clear hti
                cases hbl : balB s t with
                | true =>
                  have b2 : (IntKind.u64.wrap (insSum t.ins t.ins.length + s.dep) == IntKind.u64.wrap (IntKind.u64.wrap (outsSum t.outs t.outs.length + s.wd) + s.fee)) = true := hbl
                  have b2' : (IntKind.u64.wrap (insSum t.ins t.ins.length + s.dep) != IntKind.u64.wrap (IntKind.u64.wrap (outsSum t.outs t.outs.length + s.wd) + s.fee)) = false := by unfold bne; rw [b2]; rfl
                  have HF : Hid (relG m D s t = 0) := by show _ = _; rw [HU5.out, hbl]; rfl
                  clear hbl HU5
                  generalize IntKind.u64.wrap (insSum t.ins t.ins.length + s.dep) = l1 at *
                  generalize IntKind.u64.wrap (IntKind.u64.wrap (outsSum t.outs t.outs.length + s.wd) + s.fee) = l2 at *
                  go_wp2_with fail
                  go_ret
                  exact ⟨ret_int HF.out.symm, bnext HBel.out (bnext hbr3 hbw4)⟩
                | false =>
                  have b2 : (IntKind.u64.wrap (insSum t.ins t.ins.length + s.dep) == IntKind.u64.wrap (IntKind.u64.wrap (outsSum t.outs t.outs.length + s.wd) + s.fee)) = false := hbl
                  have b2' : (IntKind.u64.wrap (insSum t.ins t.ins.length + s.dep) != IntKind.u64.wrap (IntKind.u64.wrap (outsSum t.outs t.outs.length + s.wd) + s.fee)) = true := by unfold bne; rw [b2]; rfl
                  have HF : Hid (relG m D s t = 13) := by show _ = _; rw [HU5.out, hbl]; rfl
                  clear hbl HU5
                  generalize IntKind.u64.wrap (insSum t.ins t.ins.length + s.dep) = l1 at *
                  generalize IntKind.u64.wrap (IntKind.u64.wrap (outsSum t.outs t.outs.length + s.wd) + s.fee) = l2 at *
                  go_wp2_with fail
                  go_ret
                  exact ⟨ret_int HF.out.symm, bnext HBel.out (bnext hbr3 hbw4)⟩
              · have b1 : (s.acc == hashS 7 [t.secret]) = false := by rw [beq_eq_false_iff_ne]; exact ha
                have b1' : (s.acc != hashS 7 [t.secret]) = true := by rw [bne_iff_ne]; exact ha
                have HF : Hid (relG m D s t = 21) := by show _ = _; rw [HU4.out, if_pos ⟨hd, ha⟩]
                clear ha HU4
                generalize hashS 7 [t.secret] = hh at *
                go_wp2_with fail
                go_ret
                exact ⟨ret_int HF.out.symm, bnext HBel.out (bnext hbr hbw3)⟩
            · have hd' : decide (0 < s.dep) = false := decide_eq_false hd
              have HU5 : Hid (relG m D s t = if balB s t = true then 0 else 13) := by show _ = _; rw [HU4.out, if_neg (fun h => hd h.1)]
              have xq := box_regrown HWA.out
              have yq := box_regrown HWB.out
              go_wp2_with fail
              refine wp_region_quiet_below (by kernel_rfl) (by kernel_rfl) ?_
              repeat (first | go_big_quiet_step (fail) | quiet_step (fail))
              refine wpQuiet_nil ?_
              intro w3 hw'
              obtain ⟨⟨dq, osq⟩, hw''⟩ := hw'
              have hbw3 := below_regrown wr dq osq
              rw [← hw''] at hbw3
              clear hw'' xq yq
              clear HU4
              have hbr3 := bnext hbr hbw3
              have xq := box_regrown (box_after hbr3 HA.out)
              have yq := box_regrown (box_after hbr3 HBx.out)
              have hti : ∀ (d : Nat) (os : Array Obj), WtIn S' (grow (redrawn w3 d) os) t ia oa ic oc := fun d os => HT.out.keepB (bnext hbr3 (below_regrown w3 d os))
              go_wp2_with fail
              refine wp_region_quiet_below (by kernel_rfl) (by kernel_rfl) ?_
              repeat (first | go_big_quiet_step (first | exact Calls.regrown_of (inputs_any S' _ t ia oa ic oc (hti _ _)) | exact Calls.regrown_of (outputs_any S' _ t ia oa ic oc (hti _ _))) | quiet_step (first | exact Calls.regrown_of (inputs_any S' _ t ia oa ic oc (hti _ _)) | exact Calls.regrown_of (outputs_any S' _ t ia oa ic oc (hti _ _))))
              refine wpQuiet_nil ?_
              intro w4 hw'
              obtain ⟨⟨dq, osq⟩, hw''⟩ := hw'
              have hbw4 := below_regrown w3 dq osq
              rw [← hw''] at hbw4
              clear hw'' xq yq
              clear hti
              cases hbl : balB s t with
              | true =>
                have b2 : (IntKind.u64.wrap (insSum t.ins t.ins.length + s.dep) == IntKind.u64.wrap (IntKind.u64.wrap (outsSum t.outs t.outs.length + s.wd) + s.fee)) = true := hbl
                have b2' : (IntKind.u64.wrap (insSum t.ins t.ins.length + s.dep) != IntKind.u64.wrap (IntKind.u64.wrap (outsSum t.outs t.outs.length + s.wd) + s.fee)) = false := by unfold bne; rw [b2]; rfl
                have HF : Hid (relG m D s t = 0) := by show _ = _; rw [HU5.out, hbl]; rfl
                clear hbl HU5
                generalize IntKind.u64.wrap (insSum t.ins t.ins.length + s.dep) = l1 at *
                generalize IntKind.u64.wrap (IntKind.u64.wrap (outsSum t.outs t.outs.length + s.wd) + s.fee) = l2 at *
                go_wp2_with fail
                go_ret
                exact ⟨ret_int HF.out.symm, bnext HBel.out (bnext hbr3 hbw4)⟩
              | false =>
                have b2 : (IntKind.u64.wrap (insSum t.ins t.ins.length + s.dep) == IntKind.u64.wrap (IntKind.u64.wrap (outsSum t.outs t.outs.length + s.wd) + s.fee)) = false := hbl
                have b2' : (IntKind.u64.wrap (insSum t.ins t.ins.length + s.dep) != IntKind.u64.wrap (IntKind.u64.wrap (outsSum t.outs t.outs.length + s.wd) + s.fee)) = true := by unfold bne; rw [b2]; rfl
                have HF : Hid (relG m D s t = 13) := by show _ = _; rw [HU5.out, hbl]; rfl
                clear hbl HU5
                generalize IntKind.u64.wrap (insSum t.ins t.ins.length + s.dep) = l1 at *
                generalize IntKind.u64.wrap (IntKind.u64.wrap (outsSum t.outs t.outs.length + s.wd) + s.fee) = l2 at *
                go_wp2_with fail
                go_ret
                exact ⟨ret_int HF.out.symm, bnext HBel.out (bnext hbr3 hbw4)⟩
end Go.Proofs.YtdjcdejapkkcmaaGreatDoor
/- The builder: Prove, in the open and in the ideal mode. -/
namespace Go.Proofs.YtdjcdejapkkcmaaGreatDoor
open Go.ChangeShapes Go.WideShapes Go.ChangeAt Go.RowKit Go.Sort

abbrev smC (D : Nat) (s : StM) (ma ca ra : Option Addr) (mc cc rc : Nat) : Array Value := #[.int .i64 D, .int .u64 s.anchor, .slice ma s.marks.length mc, .slice ca s.commits.length cc, .slice ra s.rhos.length rc, .int .u64 s.dep, .int .u64 s.wd, .int .u64 s.fee, .int .u64 s.acc, .int .u64 s.bind]
/-- The elements of an ideal proof. -/
def proofN (s : StM) : Nat := 8 + 4 * (s.marks.length + s.commits.length)
/-- What Prove gives: the error, the bytes, the oracle. -/
def proveG (m : OrM) (mode : Int) (D : Nat) (s : StM) (t : WitM) : Int × List Int × OrM :=
  if validB D s t = true then (if relG m D s t = 0 then (if mode = 2 then (0, witS t, m) else (0, digsAll (drawsL m.st (proofN s)), m.drew (proofN s))) else (9, [], m)) else (1, [], m)
def ProveTo (F : Nat → Prop) (p : Nat) (g : Int × List Int × OrM) (w : World) (e : Ending) (w' : World) : Prop :=
  ∃ (ys : List Int) (a : Option Addr) (cap : Nat), Hid (ys = g.2.1) ∧ e = .returned (.tuple #[.slice a ys.length cap, .int .i64 g.1]) ∧ bytesR.rel (fun k => w.heap.size ≤ k) w' [.slice a ys.length cap] ys ∧ ys.length ≤ 1000 ∧ OrG F p w' g.2.2 ∧ Kept (fun k => ¬ F k) w w'
theorem settE_modes {m : OrM} {r : RuM} (h : settE m.ideal r.mode r.depth r.bl r.bu r.qu r.rew r.win r.fin r.work = 0) (hr : r.mode ≠ 1) : ((r.mode = 2 ∧ m.ideal = false) ∨ (r.mode = 3 ∧ m.ideal = true)) ∧ 1 ≤ r.depth ∧ r.depth ≤ 12 := by
  unfold settE at h
  split at h
  · rename_i hz
    obtain ⟨a0, a1, d0, d1⟩ := ruleE_ok (r := r) hz
    split at h
    · rename_i hi
      refine ⟨?_, d0, d1⟩
      rcases (by omega : r.mode = 2 ∨ r.mode = 3) with h2 | h3
      · exact .inl ⟨h2, by rw [hi, h2]; rfl⟩
      · exact .inr ⟨h3, by rw [hi, h3]; rfl⟩
    · cases h
  · exact absurd h (by assumption)
theorem validB_enc {D : Nat} {s : StM} {t : WitM} (h : validB D s t = true) : encB t = true := by
  unfold validB lenB at h
  simp only [Bool.and_eq_true, decide_eq_true_eq] at h
  obtain ⟨h0, -, -, -, -, h1, h2, h3⟩ := h
  unfold encB
  have hs : elemsB [t.secret] = true := by
    simp only [elemsB, allUp, elemB, List.length_cons, List.length_nil] at h0 ⊢
    simp at h0 ⊢
    exact h0.2
  have hi : t.ins.all spendableB = true := by
    rw [List.all_eq_true] at h2 ⊢
    intro x hx
    have := h2 x hx
    unfold insB at this
    rw [Bool.and_eq_true] at this
    exact this.1
  rw [hs, hi, h3, decide_eq_true ⟨h1.1.2, h1.2.2.2⟩]
  rfl
theorem proofN_eq (s : StM) (h : s.marks.length + s.commits.length ≤ 1000) : IntKind.i64.wrap ((64 + 32 * ((s.marks.length : Int) + (s.commits.length : Int))).tdiv 8) = ((proofN s : Nat) : Int) := by
  have e : (64 + 32 * ((s.marks.length : Int) + (s.commits.length : Int))) = 8 * (8 + 4 * ((s.marks.length : Int) + (s.commits.length : Int))) := by omega
  rw [e, Int.mul_tdiv_cancel_left _ (by decide), IntKind.wrap_i64]
  unfold proofN
  omega
set_option maxRecDepth 100000 in
set_option maxHeartbeats 4000000 in
theorem prove_gen (F : Nat → Prop) (S S' : Nat → Prop) (w : World) (p : Nat) (m : OrM) (ho : OrG F p w m) (hF : ∀ k, F k → k < w.heap.size) (r : RuM) (hr : r.mode ≠ 1) (hse : settE m.ideal r.mode r.depth r.bl r.bu r.qu r.rew r.win r.fin r.work = 0) (D : Nat) (hD : r.depth = D)
    (s : StM) (hsd : s.depth = D) (ma ca ra : Option Addr) (mc cc rc : Nat) (hs : StIn S w s ma ca ra mc cc rc) (t : WitM) (ia oa : Option Addr) (ic oc : Nat) (ht : WtIn S' w t ia oa ic oc) (seed : Int) (hlim : m.n + m.qs.length + 100 ≤ 100000) :
    Calls Tryz.prog 35 #[.pointer (some ⟨p, 0, none⟩), .agg (ruC r), .agg (smC D s ma ca ra mc cc rc), .agg (witC t ia ic oa oc), .int .u64 seed] w (ProveTo F p (proveG m r.mode D s t) w) := by
  obtain ⟨hmd, d0, d1⟩ := settE_modes hse hr
  have D0 : 1 ≤ D := by omega
  have D1 : D ≤ 12 := by omega
  obtain ⟨q2, q1, q0⟩ := three_bx w (.cells (ruC r) 26) (.cells (smC D s ma ca ra mc cc rc) 103) (.cells (witC t ia ic oa oc) 48)
  have hb := bnew (bnew (bnew (Below.refl w.heap.size w) (.cells (ruC r) 26)) (.cells (smC D s ma ca ra mc cc rc) 103)) (.cells (witC t ia ic oa oc) 48)
  have HO := Lib.hid (ho.keepB hb)
  have HFB := Lib.hid hF
  have HSE := Lib.hid hse
  have HDI := Lib.hid hD
  have HSD := Lib.hid hsd
  have HMD := Lib.hid hmd
  have HS := Lib.hid (hs.keepB hb)
  have HT := Lib.hid (ht.keepB hb)
  have HLI := Lib.hid hlim
  have HB := Lib.hid hb
  have HQ0 := Lib.hid q0
  have HQ1 := Lib.hid q1
  have HQ2 := Lib.hid q2
  have HD0 := Lib.hid D0
  have HD1 := Lib.hid D1
  have HG : Hid (proveG m r.mode D s t = if validB D s t = true then (if relG m D s t = 0 then (if r.mode = 2 then (0, witS t, m) else (0, digsAll (drawsL m.st (proofN s)), m.drew (proofN s))) else (9, [], m)) else (1, [], m)) := rfl
  have m1 : (r.mode == 1) = false := by rw [beq_eq_false_iff_ne]; exact hr
  have d2 : ((D : Int) == (D : Int)) = true := by rw [beq_iff_eq]
  have d3 : ((D : Int) != (D : Int)) = false := by rw [bne_eq_false_iff_eq]
  clear q0 q1 q2 hb ho hF hse hD hsd hmd hs ht hlim d0 d1 hr D0 D1
  go_enter Tryz.func35, Tryz.ntmps35
  go_upto_region 1 with (fail)
  generalize ((w.alloc (.cells (ruC r) 26)).alloc (.cells (smC D s ma ca ra mc cc rc) 103)).alloc (.cells (witC t ia ic oa oc) 48) = W at *
  obtain ⟨x0, x1⟩ := box_cells HQ0.out
  go_wp2_with fail
  refine (setting_any W p m.ideal m.st HO.out.at r.mode r.depth r.bl r.bu r.qu r.rew r.win r.fin r.work).mono ?_
  rw [HSE.out]
  rintro e w1 ⟨rfl, hb1⟩
  have HB1 := Lib.hid hb1
  clear x0 x1 hb1
  obtain ⟨x0, x1⟩ := box_cells (box_after HB1.out HQ0.out)
  obtain ⟨y0, y1⟩ := box_cells (box_after HB1.out HQ1.out)
  obtain ⟨z0, z1⟩ := box_cells (box_after HB1.out HQ2.out)
  go_wp2_with fail
  refine (relValid_any S S' w1 D s ma ca ra mc cc rc (HS.out.keepB HB1.out) t ia oa ic oc (HT.out.keepB HB1.out) HD0.out HD1.out).mono ?_
  rintro e w2 ⟨rfl, hb2⟩
  have HB2 := Lib.hid (bnext HB1.out hb2)
  clear x0 x1 y0 y1 z0 z1 hb2
  obtain ⟨x0, x1⟩ := box_cells (box_after HB2.out HQ0.out)
  obtain ⟨y0, y1⟩ := box_cells (box_after HB2.out HQ1.out)
  obtain ⟨z0, z1⟩ := box_cells (box_after HB2.out HQ2.out)
  cases hv : validB D s t with
  | false =>
    have HF : Hid (proveG m r.mode D s t = (1, [], m)) := by show _ = _; rw [HG.out, hv]; rfl
    go_wp2_with fail
    go_ret2
    rw [HF.out]
    exact ⟨[], none, 0, rfl, rfl, sliceR.nil, by simp, HO.out.keepB HB2.out, Kept.of_below (bnext HB.out HB2.out)⟩
  | true =>
    have HV := Lib.hid hv
    have hdd := HDI.out
    clear hv
    unfold ruC at x0
    rw [hdd] at x0
    clear hdd
    go_wp2_with fail
    refine (relCheck_gen F S S' w2 p m (HO.out.keepB HB2.out) D s ma ca ra mc cc rc (HS.out.keepB HB2.out) t ia oa ic oc (HT.out.keepB HB2.out) HD0.out HD1.out).mono ?_
    rintro e w3 ⟨rfl, hb3⟩
    have HB3 := Lib.hid (bnext HB2.out hb3)
    clear x0 x1 y0 y1 z0 z1 hb3
    obtain ⟨x0, x1⟩ := box_cells (box_after HB3.out HQ0.out)
    obtain ⟨z0, z1⟩ := box_cells (box_after HB3.out HQ2.out)
    have HO3 := Lib.hid (HO.out.keepB HB3.out)
    have HK3 := Lib.hid (Kept.of_below (S := fun k => ¬ F k) (bnext HB.out HB3.out))
    by_cases hz : relG m D s t = 0
    · have HG2 : Hid (proveG m r.mode D s t = if r.mode = 2 then (0, witS t, m) else (0, digsAll (drawsL m.st (proofN s)), m.drew (proofN s))) := by show _ = _; rw [HG.out, if_pos HV.out, if_pos hz]
      rw [hz]
      clear hz
      rcases HMD.out with ⟨hm2, hi⟩ | ⟨hm3, hi⟩
      · have HF : Hid (proveG m r.mode D s t = (0, witS t, m)) := by show _ = _; rw [HG2.out, if_pos hm2]
        unfold ruC at x0
        rw [hm2] at x0
        clear hm2
        go_wp2_with fail
        refine (relEncode_any S' w3 t ia oa ic oc (HT.out.keepB HB3.out) (validB_enc HV.out)).mono ?_
        rintro e w4 ⟨ys, a, cap, hye, hyl, rfl, hyr, hb4⟩
        have HYE := Lib.hid hye.out
        have HYR := Lib.hid (bytesR.mono (S' := fun k => w.heap.size ≤ k) hyr fun k _ (hk : w3.heap.size ≤ k) => Nat.le_trans (bnext HB.out HB3.out).size hk)
        have HYL := Lib.hid hyl
        have HO4 := Lib.hid (HO3.out.keepB hb4)
        have HK4 := Lib.hid (Kept.of_below (S := fun k => ¬ F k) (bnext (bnext HB.out HB3.out) hb4))
        clear hye hyr hb4 hyl
        go_wp2_with fail
        go_ret2
        rw [HF.out]
        exact ⟨ys, a, cap, HYE.out, rfl, HYR.out, by have := HYL.out; omega, HO4.out, HK4.out⟩
      · have HF : Hid (proveG m r.mode D s t = (0, digsAll (drawsL m.st (proofN s)), m.drew (proofN s))) := by show _ = _; rw [HG2.out, if_neg (by omega)]
        have HI := Lib.hid hi
        have hvf := validB_facts HV.out
        have HL1 : Hid (s.marks.length ≤ 4 ∧ s.commits.length ≤ 4 ∧ s.rhos.length ≤ 4) := ⟨by omega, by omega, by omega⟩
        unfold ruC at x0
        rw [hm3] at x0
        clear hm3 hi hvf
        have HQS3 : Hid (w3.heap[w.heap.size + 1]? = some (.cells (smC D s ma ca ra mc cc rc) 103 (0, 0))) := box_after HB3.out HQ1.out
        have HS3 := Lib.hid (HS.out.keepB HB3.out)
        have HFW : Hid (∀ k, F k → k < w3.heap.size) := fun k h => Nat.lt_of_lt_of_le (HFB.out k h) (bnext HB.out HB3.out).size
        go_upto_region 14 with (fail)
        refine wp_region_held_drew (S := TwoB (w.heap.size + 1) [.int .i64 D, .int .u64 s.anchor, .slice ma s.marks.length mc, .slice ca s.commits.length cc, .slice ra s.rhos.length rc, .int .u64 s.dep, .int .u64 s.wd, .int .u64 s.fee, .int .u64 s.acc, .int .u64 s.bind] 103 (w.heap.size + 1) [.int .i64 D, .int .u64 s.anchor, .slice ma s.marks.length mc, .slice ca s.commits.length cc, .slice ra s.rhos.length rc, .int .u64 s.dep, .int .u64 s.wd, .int .u64 s.fee, .int .u64 s.acc, .int .u64 s.bind] 103) (by kernel_rfl) (⟨HQS3.out, HQS3.out⟩) (fun hHeld => ?_)
        obtain ⟨w4, hw4⟩ : ∃ x, w3.drew = x := ⟨_, rfl⟩
        rw [hw4] at hHeld ⊢
        have HB4 : Hid (Below w3.heap.size w3 w4) := by rw [← hw4]; exact (Below.refl _ _).drew
        clear hw4 x0 x1 z0 z1
        go_simp
        refine tkV 0 rfl (fun wz hSz => by go_simp; all_goals with_reducible rfl) ?_
        go_simp
        refine tkV 8 rfl (fun wz hSz => by go_simp; all_goals with_reducible rfl) ?_
        go_simp
        refine tkY 1 rfl (yieldsIf_load_mid (by rfl) _ _ rfl (w.heap.size + 1) 0 rfl [.int .i64 D, .int .u64 s.anchor, .slice ma s.marks.length mc, .slice ca s.commits.length cc, .slice ra s.rhos.length rc, .int .u64 s.dep, .int .u64 s.wd, .int .u64 s.fee, .int .u64 s.acc, .int .u64 s.bind] _ (fun wz hSz => range_box hSz.one) Tryz.underlying103 rfl (by kernel_rfl)) ?_
        go_simp
        refine tkY 3 rfl (yieldsIf_load_mid (by rfl) _ _ rfl (w.heap.size + 1) 0 rfl [.int .i64 D, .int .u64 s.anchor, .slice ma s.marks.length mc, .slice ca s.commits.length cc, .slice ra s.rhos.length rc, .int .u64 s.dep, .int .u64 s.wd, .int .u64 s.fee, .int .u64 s.acc, .int .u64 s.bind] _ (fun wz hSz => range_box hSz.one) Tryz.underlying103 rfl (by kernel_rfl)) ?_
        go_simp
        refine rd1 2 rfl (fun K hK => ?_)
        go_simp
        have hdg := digest_any S w4 s ma ca ra mc cc rc (HS3.out.keepB HB4.out) (by have := HL1.out; omega) (by have := HL1.out; omega) (by have := HL1.out; omega) (by have := HSD.out; have := HD1.out; omega)
        rw [HSD.out] at hdg
        refine hdg.mono ?_
        rintro E w5 ⟨rfl, hb5⟩
        have HB5 := Lib.hid (bnext HB4.out hb5)
        have HQ5 := Lib.hid (box_after HB5.out HQS3.out)
        have HDO := Lib.hid (hashS_ok 24 (digestL s))
        obtain ⟨dg, hdgx⟩ : ∃ x, hashS 24 (digestL s) = x := ⟨_, rfl⟩
        rw [hdgx] at HDO ⊢
        clear hHeld hb5 hdg hdgx
        refine hK.out _ _ ⟨HQ5.out, HQ5.out⟩ (fun hHeld => ?_)
        clear hK K
        go_simp
        refine rd1 4 rfl (fun K hK => ?_)
        go_simp
        refine (size_any _ _ _ _ _ _ _ _ _ _ s.marks.length mc s.commits.length cc s.rhos.length rc w5 (by have := HL1.out; omega)).mono ?_
        rintro E w6 ⟨rfl, hb6⟩
        have HB6 := Lib.hid (bnext HB5.out hb6)
        have HQ6 := Lib.hid (box_after HB6.out HQS3.out)
        clear hHeld hb6
        refine hK.out _ _ ⟨HQ6.out, HQ6.out⟩ (fun hHeld => ?_)
        clear hK K
        go_simp
        refine tkV 5 rfl (fun wz hSz => by go_simp; all_goals with_reducible rfl) ?_
        go_simp
        refine rd1 6 rfl (fun K hK => ?_)
        go_simp
        rw [proofN_eq s (by have := HL1.out; omega)]
        refine (proveI_any F w6 p m (HO3.out.keepB HB6.out) HI.out (fun k h => Nat.lt_of_lt_of_le (HFW.out k h) HB6.out.size) dg HDO.out (proofN s) (by unfold proofN; omega) (by have := HL1.out; unfold proofN; omega) (by have := HL1.out; have := HLI.out; unfold proofN; omega)).mono ?_
        rintro E w7 ⟨pa, pc, rfl, hn7, ho7, hk7⟩
        have HQ7 : Hid (w7.heap[w.heap.size + 1]? = some (.cells (smC D s ma ca ra mc cc rc) 103 (0, 0))) := box_kept hk7 HQ6.out (fun h => absurd (HFB.out _ h) (by omega))
        have HN7 := Lib.hid hn7
        have HO7 := Lib.hid ho7
        have HK7 : Hid (Kept (fun k => ¬ F k) w w7) := (HK3.out.trans (Kept.of_below (S := fun k => ¬ F k) HB6.out) fun _ _ h => h).trans hk7 fun _ _ h => h
        clear hHeld hn7 ho7 hk7
        refine hK.out _ _ ⟨HQ7.out, HQ7.out⟩ (fun hHeld => ?_)
        clear hK K
        go_simp
        refine tkV 7 rfl (fun wz hSz => by go_simp; all_goals with_reducible rfl) ?_
        go_simp
        refine wpAnyH_done (by kernel_rfl) ?_ _
        obtain ⟨L, hL⟩ : ∃ x, drawsL m.st (proofN s) = x := ⟨_, rfl⟩
        have HLN : Hid (L.length = proofN s) := by rw [← hL]; exact drawsL_len _ _
        rw [hL] at HN7 HF
        obtain ⟨N, hN⟩ : ∃ x, proofN s = x := ⟨_, rfl⟩
        have HN40 : Hid (N ≤ 40) := by rw [← hN]; show proofN s ≤ 40; have := HL1.out; unfold proofN; omega
        rw [hN] at HLN HN7 HO7 HF ⊢
        have hnl := (sliceR.lens HN7.out).2
        unfold maxLen at hnl
        clear hL hN hHeld
        go_wp2_with fail
        go_loopw [13, 64] (fun vb vi wr => ∃ (k : Nat) (ys : List Int) (a : Option Addr) (c : Nat), k ≤ N ∧ vi = .int .i64 k ∧ vb = .slice a ys.length c ∧ Hid (ys = digsAll (L.take k)) ∧ ys.length ≤ 8 * k ∧ bytesR.rel (fun k => w.heap.size ≤ k) wr [.slice a ys.length c] ys ∧ Below w7.heap.size w7 wr) (fun _ vi _ => N - (intOf vi).toNat)
        case atStart => exact ⟨0, [], none, 0, Nat.zero_le _, rfl, rfl, rfl, by simp, sliceR.nil, Below.refl _ _⟩
        case round =>
          obtain ⟨k, ys, a, c, hk, rfl, rfl, hye, hyl, hys, hbr⟩ := hrel
          by_cases hlt : k < N
          · obtain ⟨b, off, rfl, hbl, n0, n1, hc⟩ := nums_at (numsR.keepB HN7.out hbr) k (by rw [HLN.out]; exact hlt)
            have HT : Hid (digsAll (L.take (k + 1)) = digsAll (L.take k) ++ digs 8 (L[k]'(by rw [HLN.out]; exact hlt))) := by show _ = _; rw [List.take_succ_eq_append_getElem (by rw [HLN.out]; exact hlt), digsAll_snoc]
            obtain ⟨x, hx⟩ : ∃ x, L[k]'(by rw [HLN.out]; exact hlt) = x := ⟨_, rfl⟩
            rw [hx] at n0 n1 hc HT
            have HXO : Hid (okU x) := okU_of n0 n1
            have HN4 := HN40.out
            clear hx n0 n1
            go_wp2_with fail
            refine (UintF _ (8 * k) wr a c ys hys hyl (by omega) x HXO.out).mono ?_
            rintro e w8 ⟨y8, a8, c8, Ey8, l8, rfl, h8, hb8⟩
            have HYE : Hid (y8 = digsAll (L.take (k + 1))) := by show _ = _; rw [Ey8.out, hye.out, HT.out]
            go_wp2_with fail
            go_roundw
            case rel => exact ⟨k + 1, y8, a8, c8, by omega, by go_num, rfl, HYE, by omega, bytesR.mono h8 fun j _ (hj : wr.heap.size ≤ j) => Nat.le_trans (Nat.le_trans HK7.out.size hbr.size) hj, bnext hbr hb8⟩
            case measure => simp [intOf]; omega
          · obtain rfl : k = N := by omega
            have HYF : Hid (ys = digsAll L) := by
              show _ = _
              rw [hye.out, List.take_of_length_le (by rw [HLN.out]; exact Nat.le_refl _)]
            have HN4 := HN40.out
            go_wp2_with fail
            go_ret2
            rw [HF.out]
            exact ⟨ys, a, c, HYF.out, rfl, hys, by omega, HO7.out.keepB hbr, HK7.out.trans (Kept.of_below (S := fun _ => True) hbr) fun _ _ _ => trivial⟩
    · have HF : Hid (proveG m r.mode D s t = (9, [], m)) := by show _ = _; rw [HG.out, if_pos HV.out, if_neg hz]
      have n1 : (relG m D s t == 0) = false := by rw [beq_eq_false_iff_ne]; exact hz
      have n2 : (relG m D s t != 0) = true := by rw [bne_iff_ne]; exact hz
      clear hz
      generalize relG m D s t = ev at *
      go_wp2_with fail
      go_ret2
      rw [HF.out]
      exact ⟨[], none, 0, rfl, rfl, sliceR.nil, by simp, HO3.out, HK3.out⟩
end Go.Proofs.YtdjcdejapkkcmaaGreatDoor
/- The builder: the note of a dummy. -/
namespace Go.Proofs.YtdjcdejapkkcmaaGreatDoor
open Go.ChangeShapes Go.WideShapes Go.ChangeAt Go.RowKit Go.Sort

/-- The held condition of Dummy's region: nothing below has changed. -/
structure DumS (w : World) (w' : World) : Prop where
  bel : Below w.heap.size w w'
def dumS (seed : Int) (D : Nat) : SpentM :=
  ⟨⟨0, ownerS (hashS 22 [seed, 0]) 0, hashS 22 [seed, 1], hashS 22 [seed, 2]⟩, hashS 22 [seed, 0], 0, 0, List.replicate D 0, true⟩
theorem dum_fin {w wx : World} {g D : Nat} {seed ky : Int} {t : TypeId} {fr : Nat × Nat} {cs : Array Value} (hk : hashS 22 [seed, 0] = ky) (h1 : Below w.heap.size w wx) (h2 : wx.heap[w.heap.size]? = some (.cells cs t fr)) (h3 : numsR.rel (fun k => w.heap.size < k) wx [.slice (some ⟨g, 0, none⟩) D D] (List.replicate D 0)) :
    (wx.setRow w.heap.size #[.int .u64 0, .int .u64 (ownerS ky 0), .int .u64 (hashS 22 [seed, 1]), .int .u64 (hashS 22 [seed, 2]), .int .u64 ky, .int .i64 0, .int .i64 0, .slice (some ⟨g, 0, none⟩) D D, .bool true]).heap[w.heap.size]? = some (.cells #[.int .u64 0, .int .u64 (ownerS ky 0), .int .u64 (hashS 22 [seed, 1]), .int .u64 (hashS 22 [seed, 2]), .int .u64 ky, .int .i64 0, .int .i64 0, .slice (some ⟨g, 0, none⟩) D D, .bool true] t fr) ∧
    ((∃ a c, Ending.returned (.agg #[.int .u64 0, .int .u64 (ownerS ky 0), .int .u64 (hashS 22 [seed, 1]), .int .u64 (hashS 22 [seed, 2]), .int .u64 ky, .int .i64 0, .int .i64 0, .slice (some ⟨g, 0, none⟩) D D, .bool true]) = .returned (.agg (spentCells (dumS seed D) a c).toArray) ∧ numsR.rel (fun k => w.heap.size ≤ k) (wx.setRow w.heap.size #[.int .u64 0, .int .u64 (ownerS ky 0), .int .u64 (hashS 22 [seed, 1]), .int .u64 (hashS 22 [seed, 2]), .int .u64 ky, .int .i64 0, .int .i64 0, .slice (some ⟨g, 0, none⟩) D D, .bool true]) [.slice a D c] (List.replicate D 0)) ∧ Below w.heap.size w (wx.setRow w.heap.size #[.int .u64 0, .int .u64 (ownerS ky 0), .int .u64 (hashS 22 [seed, 1]), .int .u64 (hashS 22 [seed, 2]), .int .u64 ky, .int .i64 0, .int .i64 0, .slice (some ⟨g, 0, none⟩) D D, .bool true])) := by
  refine ⟨setRow_heap _ _ _ _ _ _ h2, ⟨some ⟨g, 0, none⟩, D, ?_, ?_⟩, below_setRow (g := w.heap.size) h1 (Nat.le_refl _) _⟩
  · unfold spentCells dumS
    simp only [List.length_replicate]
    rw [hk]
  · exact numsR.mono (numsR.keep h3 ((kept_setRow wx w.heap.size _).mono fun k _ hk => Nat.ne_of_gt hk)) fun k _ hk => Nat.le_of_lt hk
set_option maxRecDepth 100000 in
set_option maxHeartbeats 2000000 in
theorem dummy_any (w : World) (seed : Int) (hs : okU seed) (D : Nat) (h1 : 1 ≤ D) (h2 : D ≤ 12) :
    Calls Tryz.prog 11 #[.int .u64 seed, .int .i64 D] w fun e w' => (∃ a c, e = .returned (.agg (spentCells (dumS seed D) a c).toArray) ∧ numsR.rel (fun k => w.heap.size ≤ k) w' [.slice a D c] (List.replicate D 0)) ∧ Below w.heap.size w w' := by
  have q0 := box_new w (.cells #[.int .u64 0, .int .u64 0, .int .u64 0, .int .u64 0, .int .u64 0, .int .i64 0, .int .i64 0, .slice none 0 0, .bool false] 58)
  have HQ0 := Lib.hid q0
  have HB := Lib.hid (bnew (Below.refl w.heap.size w) (.cells #[.int .u64 0, .int .u64 0, .int .u64 0, .int .u64 0, .int .u64 0, .int .i64 0, .int .i64 0, .slice none 0 0, .bool false] 58))
  have HS := Lib.hid hs
  have hw1 : wrap64 (D : Int) = (D : Int) := by unfold wrap64; omega
  clear q0 hs
  go_enter Tryz.func11, Tryz.ntmps11
  go_wp2_with fail
  refine (bhash_any _ 22 seed 0 (by omega) HS.out (okU_of (by omega) (by omega))).mono ?_
  rintro e w1 ⟨rfl, hb1⟩
  have HB1 := Lib.hid (bnext HB.out hb1)
  have HQ1 := Lib.hid (box_after hb1 HQ0.out)
  have hk := hashS_ok 22 [seed, 0]
  obtain ⟨ky, hky⟩ : ∃ x, hashS 22 [seed, 0] = x := ⟨_, rfl⟩
  rw [hky] at hk ⊢
  have HK := Lib.hid hk
  have HKY := Lib.hid hky
  clear hb1 hk hky
  go_wp2_with fail
  -- ORDERS
  have HSDwa0 : Hid (Below w.heap.size w w1.drew) := HB1.out.drew
  have HQDwa0 := Lib.hid (show w1.drew.heap[w.heap.size]? = _ from HQ1.out)
  have HDN : Hid ((D : Int) = (D : Int)) := rfl
  have HD1 := Lib.hid h1
  have HD2 := Lib.hid h2
  clear h1 h2 HB HQ0 HB1 HQ1
  refine wp_region_held_drew (S := DumS w) (by kernel_rfl) (⟨HSDwa0.out⟩) (fun hHeld => ?_)
  obtain ⟨wa, hwa⟩ : ∃ x, w1.drew = x := ⟨_, rfl⟩
  rw [hwa] at hHeld HSDwa0 HQDwa0 ⊢
  have HSDwa := HSDwa0
  have HQDwa := HQDwa0
  clear hwa HSDwa0 HQDwa0
  go_simp
  refine tkV 0 rfl (fun wz hSz => by go_simp; all_goals with_reducible rfl) ?_
  go_simp
  refine tkV 2 rfl (fun wz hSz => by go_simp; all_goals with_reducible rfl) ?_
  go_simp
  refine tkV 4 rfl (fun wz hSz => by go_simp; all_goals with_reducible rfl) ?_
  go_simp
  refine tkV 7 rfl (fun wz hSz => by go_simp; all_goals with_reducible rfl) ?_
  go_simp
  refine tkV 8 rfl (fun wz hSz => by go_simp; all_goals with_reducible rfl) ?_
  go_simp
  refine rd2 1 9 rfl rfl (fun K hK => ?_) (fun K hK => ?_)
  · skip
    go_simp
    refine (owner_any _ ky 0 HK.out).mono ?_
    rintro E w3 ⟨rfl, hb⟩
    have HSDw3 := Lib.hid (bnext HSDwa.out hb)
    have HQDw3 := Lib.hid (box_after hb HQDwa.out)
    clear hHeld hb
    refine hK.out _ _ ⟨HSDw3.out⟩ (fun hHeld => ?_)
    clear hK K
    go_simp
    refine rd2 3 9 rfl rfl (fun K hK => ?_) (fun K hK => ?_)
    · skip
      go_simp
      refine (bhash_any _ 22 seed 1 (by omega) HS.out (okU_of (by omega) (by omega))).mono ?_
      rintro E w4 ⟨rfl, hb⟩
      have HSDw4 := Lib.hid (bnext HSDw3.out hb)
      have HQDw4 := Lib.hid (box_after hb HQDw3.out)
      clear hHeld hb
      refine hK.out _ _ ⟨HSDw4.out⟩ (fun hHeld => ?_)
      clear hK K
      go_simp
      refine rd2 5 9 rfl rfl (fun K hK => ?_) (fun K hK => ?_)
      · skip
        go_simp
        refine (bhash_any _ 22 seed 2 (by omega) HS.out (okU_of (by omega) (by omega))).mono ?_
        rintro E w5 ⟨rfl, hb⟩
        have HSDw5 := Lib.hid (bnext HSDw4.out hb)
        have HQDw5 := Lib.hid (box_after hb HQDw4.out)
        clear hHeld hb
        refine hK.out _ _ ⟨HSDw5.out⟩ (fun hHeld => ?_)
        clear hK K
        go_simp
        refine tkV 6 rfl (fun wz hSz => by go_simp; all_goals with_reducible rfl) ?_
        go_simp
        refine rd1 9 rfl (fun K hK => ?_)
        refine step_make_n rfl _ _ rfl u64R 0 Tryz.etyNums rfl (fun _ _ => ⟨rfl, okU_of (by omega) (by omega)⟩) rfl rfl HDN.out HDN.out (by have := HD2.out; omega) (by have := HD2.out; unfold maxLen; omega) (Nat.zero_le _) ?_
        intro w6 ho hb
        have HSDw6 := Lib.hid (bnext HSDw5.out hb)
        have HQDw6 := Lib.hid (box_after hb HQDw5.out)
        have HZw6 : Hid (numsR.rel (fun k => w.heap.size < k) w6 [.slice (some ⟨w5.heap.size, 0, none⟩) D D] (List.replicate D 0)) := by
          have h := Own.slice ho
          refine numsR.mono h fun k _ hk => ?_
          have := box_lt HQDw5.out
          omega
        clear hHeld hb ho
        refine hK.out _ _ ⟨HSDw6.out⟩ (fun hHeld => ?_)
        clear hK K
        go_simp
        refine tkV 10 rfl (fun wz hSz => by go_simp; all_goals with_reducible rfl) ?_
        go_simp
        refine rd1 11 rfl (fun K hK => ?_)
        refine step_store_row rfl _ _ _ rfl (w.heap.size) _ rfl rfl _ _ HQDw6.out (by kernel_rfl) rfl (by kernel_rfl) ?_
        clear hHeld
        refine hK.out _ _ ⟨below_setRow (g := w.heap.size) HSDw6.out (Nat.le_refl _) _⟩ (fun hHeld => ?_)
        clear hK K
        refine wpAnyH_done (by kernel_rfl) ?_ _
        go_wp2_with fail
        obtain ⟨q1, q2⟩ := dum_fin (seed := seed) HKY.out HSDw6.out HQDw6.out HZw6.out
        exact bodyPost_ret (ret_c Tryz.results11 rfl q1 Tryz.underlying58 rfl (by kernel_rfl)) rfl q2
      · skip
        refine step_make_n rfl _ _ rfl u64R 0 Tryz.etyNums rfl (fun _ _ => ⟨rfl, okU_of (by omega) (by omega)⟩) rfl rfl HDN.out HDN.out (by have := HD2.out; omega) (by have := HD2.out; unfold maxLen; omega) (Nat.zero_le _) ?_
        intro w5 ho hb
        have HSDw5 := Lib.hid (bnext HSDw4.out hb)
        have HQDw5 := Lib.hid (box_after hb HQDw4.out)
        have HZw5 : Hid (numsR.rel (fun k => w.heap.size < k) w5 [.slice (some ⟨w4.heap.size, 0, none⟩) D D] (List.replicate D 0)) := by
          have h := Own.slice ho
          refine numsR.mono h fun k _ hk => ?_
          have := box_lt HQDw4.out
          omega
        clear hHeld hb ho
        refine hK.out _ _ ⟨HSDw5.out⟩ (fun hHeld => ?_)
        clear hK K
        go_simp
        refine rd1 5 rfl (fun K hK => ?_)
        go_simp
        refine (bhash_any _ 22 seed 2 (by omega) HS.out (okU_of (by omega) (by omega))).mono ?_
        rintro E w6 ⟨rfl, hb⟩
        have HSDw6 := Lib.hid (bnext HSDw5.out hb)
        have HQDw6 := Lib.hid (box_after hb HQDw5.out)
        have HZw6 := Lib.hid (numsR.keepB HZw5.out hb)
        clear hHeld hb
        refine hK.out _ _ ⟨HSDw6.out⟩ (fun hHeld => ?_)
        clear hK K
        go_simp
        refine tkV 6 rfl (fun wz hSz => by go_simp; all_goals with_reducible rfl) ?_
        go_simp
        refine tkV 10 rfl (fun wz hSz => by go_simp; all_goals with_reducible rfl) ?_
        go_simp
        refine rd1 11 rfl (fun K hK => ?_)
        refine step_store_row rfl _ _ _ rfl (w.heap.size) _ rfl rfl _ _ HQDw6.out (by kernel_rfl) rfl (by kernel_rfl) ?_
        clear hHeld
        refine hK.out _ _ ⟨below_setRow (g := w.heap.size) HSDw6.out (Nat.le_refl _) _⟩ (fun hHeld => ?_)
        clear hK K
        refine wpAnyH_done (by kernel_rfl) ?_ _
        go_wp2_with fail
        obtain ⟨q1, q2⟩ := dum_fin (seed := seed) HKY.out HSDw6.out HQDw6.out HZw6.out
        exact bodyPost_ret (ret_c Tryz.results11 rfl q1 Tryz.underlying58 rfl (by kernel_rfl)) rfl q2
    · skip
      refine step_make_n rfl _ _ rfl u64R 0 Tryz.etyNums rfl (fun _ _ => ⟨rfl, okU_of (by omega) (by omega)⟩) rfl rfl HDN.out HDN.out (by have := HD2.out; omega) (by have := HD2.out; unfold maxLen; omega) (Nat.zero_le _) ?_
      intro w4 ho hb
      have HSDw4 := Lib.hid (bnext HSDw3.out hb)
      have HQDw4 := Lib.hid (box_after hb HQDw3.out)
      have HZw4 : Hid (numsR.rel (fun k => w.heap.size < k) w4 [.slice (some ⟨w3.heap.size, 0, none⟩) D D] (List.replicate D 0)) := by
        have h := Own.slice ho
        refine numsR.mono h fun k _ hk => ?_
        have := box_lt HQDw3.out
        omega
      clear hHeld hb ho
      refine hK.out _ _ ⟨HSDw4.out⟩ (fun hHeld => ?_)
      clear hK K
      go_simp
      refine rd1 3 rfl (fun K hK => ?_)
      go_simp
      refine (bhash_any _ 22 seed 1 (by omega) HS.out (okU_of (by omega) (by omega))).mono ?_
      rintro E w5 ⟨rfl, hb⟩
      have HSDw5 := Lib.hid (bnext HSDw4.out hb)
      have HQDw5 := Lib.hid (box_after hb HQDw4.out)
      have HZw5 := Lib.hid (numsR.keepB HZw4.out hb)
      clear hHeld hb
      refine hK.out _ _ ⟨HSDw5.out⟩ (fun hHeld => ?_)
      clear hK K
      go_simp
      refine rd1 5 rfl (fun K hK => ?_)
      go_simp
      refine (bhash_any _ 22 seed 2 (by omega) HS.out (okU_of (by omega) (by omega))).mono ?_
      rintro E w6 ⟨rfl, hb⟩
      have HSDw6 := Lib.hid (bnext HSDw5.out hb)
      have HQDw6 := Lib.hid (box_after hb HQDw5.out)
      have HZw6 := Lib.hid (numsR.keepB HZw5.out hb)
      clear hHeld hb
      refine hK.out _ _ ⟨HSDw6.out⟩ (fun hHeld => ?_)
      clear hK K
      go_simp
      refine tkV 6 rfl (fun wz hSz => by go_simp; all_goals with_reducible rfl) ?_
      go_simp
      refine tkV 10 rfl (fun wz hSz => by go_simp; all_goals with_reducible rfl) ?_
      go_simp
      refine rd1 11 rfl (fun K hK => ?_)
      refine step_store_row rfl _ _ _ rfl (w.heap.size) _ rfl rfl _ _ HQDw6.out (by kernel_rfl) rfl (by kernel_rfl) ?_
      clear hHeld
      refine hK.out _ _ ⟨below_setRow (g := w.heap.size) HSDw6.out (Nat.le_refl _) _⟩ (fun hHeld => ?_)
      clear hK K
      refine wpAnyH_done (by kernel_rfl) ?_ _
      go_wp2_with fail
      obtain ⟨q1, q2⟩ := dum_fin (seed := seed) HKY.out HSDw6.out HQDw6.out HZw6.out
      exact bodyPost_ret (ret_c Tryz.results11 rfl q1 Tryz.underlying58 rfl (by kernel_rfl)) rfl q2
  · skip
    refine step_make_n rfl _ _ rfl u64R 0 Tryz.etyNums rfl (fun _ _ => ⟨rfl, okU_of (by omega) (by omega)⟩) rfl rfl HDN.out HDN.out (by have := HD2.out; omega) (by have := HD2.out; unfold maxLen; omega) (Nat.zero_le _) ?_
    intro w3 ho hb
    have HSDw3 := Lib.hid (bnext HSDwa.out hb)
    have HQDw3 := Lib.hid (box_after hb HQDwa.out)
    have HZw3 : Hid (numsR.rel (fun k => w.heap.size < k) w3 [.slice (some ⟨wa.heap.size, 0, none⟩) D D] (List.replicate D 0)) := by
      have h := Own.slice ho
      refine numsR.mono h fun k _ hk => ?_
      have := box_lt HQDwa.out
      omega
    clear hHeld hb ho
    refine hK.out _ _ ⟨HSDw3.out⟩ (fun hHeld => ?_)
    clear hK K
    go_simp
    refine rd1 1 rfl (fun K hK => ?_)
    go_simp
    refine (owner_any _ ky 0 HK.out).mono ?_
    rintro E w4 ⟨rfl, hb⟩
    have HSDw4 := Lib.hid (bnext HSDw3.out hb)
    have HQDw4 := Lib.hid (box_after hb HQDw3.out)
    have HZw4 := Lib.hid (numsR.keepB HZw3.out hb)
    clear hHeld hb
    refine hK.out _ _ ⟨HSDw4.out⟩ (fun hHeld => ?_)
    clear hK K
    go_simp
    refine rd1 3 rfl (fun K hK => ?_)
    go_simp
    refine (bhash_any _ 22 seed 1 (by omega) HS.out (okU_of (by omega) (by omega))).mono ?_
    rintro E w5 ⟨rfl, hb⟩
    have HSDw5 := Lib.hid (bnext HSDw4.out hb)
    have HQDw5 := Lib.hid (box_after hb HQDw4.out)
    have HZw5 := Lib.hid (numsR.keepB HZw4.out hb)
    clear hHeld hb
    refine hK.out _ _ ⟨HSDw5.out⟩ (fun hHeld => ?_)
    clear hK K
    go_simp
    refine rd1 5 rfl (fun K hK => ?_)
    go_simp
    refine (bhash_any _ 22 seed 2 (by omega) HS.out (okU_of (by omega) (by omega))).mono ?_
    rintro E w6 ⟨rfl, hb⟩
    have HSDw6 := Lib.hid (bnext HSDw5.out hb)
    have HQDw6 := Lib.hid (box_after hb HQDw5.out)
    have HZw6 := Lib.hid (numsR.keepB HZw5.out hb)
    clear hHeld hb
    refine hK.out _ _ ⟨HSDw6.out⟩ (fun hHeld => ?_)
    clear hK K
    go_simp
    refine tkV 6 rfl (fun wz hSz => by go_simp; all_goals with_reducible rfl) ?_
    go_simp
    refine tkV 10 rfl (fun wz hSz => by go_simp; all_goals with_reducible rfl) ?_
    go_simp
    refine rd1 11 rfl (fun K hK => ?_)
    refine step_store_row rfl _ _ _ rfl (w.heap.size) _ rfl rfl _ _ HQDw6.out (by kernel_rfl) rfl (by kernel_rfl) ?_
    clear hHeld
    refine hK.out _ _ ⟨below_setRow (g := w.heap.size) HSDw6.out (Nat.le_refl _) _⟩ (fun hHeld => ?_)
    clear hK K
    refine wpAnyH_done (by kernel_rfl) ?_ _
    go_wp2_with fail
    obtain ⟨q1, q2⟩ := dum_fin (seed := seed) HKY.out HSDw6.out HQDw6.out HZw6.out
    exact bodyPost_ret (ret_c Tryz.results11 rfl q1 Tryz.underlying58 rfl (by kernel_rfl)) rfl q2
end Go.Proofs.YtdjcdejapkkcmaaGreatDoor
