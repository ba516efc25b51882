/- The relation: one spent note. -/
import Derived.Test.YthggdacincfplaaGreatDoorRelA
import Derived.BigQuiet
namespace Go.Proofs.YthggdacincfplaaGreatDoor
open Go.ChangeShapes Go.WideShapes Go.ChangeAt Go.RowKit Go.Sort

def checkInE (anchor : Int) (i : SpentM) (pub : Int) : Int :=
  if i.note.owner = ownerS i.key i.number then
    (if markK i.key i.note.rho = true ∧ markV i.key i.note.rho = pub then
      (if i.dummy = true then (if i.note.value = 0 then 0 else 13)
       else (if noteB i.note = true ∧ climbS (commitV i.note) i.position i.path = anchor then 0 else 11))
     else 12)
  else 21
theorem commitV_ok (n : NoteM) : okU (commitV n) := by
  unfold commitV
  split
  · exact hashS_ok _ _
  · exact okU_of (by omega) (by omega)
set_option maxRecDepth 100000 in
set_option maxHeartbeats 4000000 in
theorem checkIn_any (S : Nat → Prop) (w : World) (p : Nat) (st : Int) (ho : OrAt false st p w) (D : Nat) (s : StM) (ma ca ra : Option Addr) (mc cc rc : Nat) (i : SpentM) (hok : SpentOk i) (pa : Option Addr) (pc : Nat) (hpa : numsR.rel S w [.slice pa i.path.length pc] i.path)
    (h1 : i.path.length ≤ 12) (h2 : 0 ≤ i.position) (h3 : i.position ≤ 4095) (pub : Int) :
    Calls Tryz.prog 46 #[.pointer (some ⟨p, 0, none⟩), .agg #[.int .i64 D, .int .u64 s.anchor, .slice ma s.marks.length mc, .slice ca s.commits.length cc, .slice ra s.rhos.length rc, .int .u64 s.dep, .int .u64 s.wd, .int .u64 s.fee, .int .u64 s.acc, .int .u64 s.bind], .agg #[.int .u64 i.note.value, .int .u64 i.note.owner, .int .u64 i.note.rho, .int .u64 i.note.blind, .int .u64 i.key, .int .i64 i.number, .int .i64 i.position, .slice pa i.path.length pc, .bool i.dummy], .int .u64 pub] w fun e w' => e = .returned (.int .i64 (checkInE s.anchor i pub)) ∧ Below w.heap.size w w' := by
  have hbA := bnew (Below.refl w.heap.size w) (.cells #[.int .i64 D, .int .u64 s.anchor, .slice ma s.marks.length mc, .slice ca s.commits.length cc, .slice ra s.rhos.length rc, .int .u64 s.dep, .int .u64 s.wd, .int .u64 s.fee, .int .u64 s.acc, .int .u64 s.bind] 44)
  have hbB := bnew hbA (.cells #[.int .u64 i.note.value, .int .u64 i.note.owner, .int .u64 i.note.rho, .int .u64 i.note.blind, .int .u64 i.key, .int .i64 i.number, .int .i64 i.position, .slice pa i.path.length pc, .bool i.dummy] 118)
  have qA := box_old (o' := .cells #[.int .u64 i.note.value, .int .u64 i.note.owner, .int .u64 i.note.rho, .int .u64 i.note.blind, .int .u64 i.key, .int .i64 i.number, .int .i64 i.position, .slice pa i.path.length pc, .bool i.dummy] 118) (box_new w (.cells #[.int .i64 D, .int .u64 s.anchor, .slice ma s.marks.length mc, .slice ca s.commits.length cc, .slice ra s.rhos.length rc, .int .u64 s.dep, .int .u64 s.wd, .int .u64 s.fee, .int .u64 s.acc, .int .u64 s.bind] 44))
  have qB := box_new (w.alloc (.cells #[.int .i64 D, .int .u64 s.anchor, .slice ma s.marks.length mc, .slice ca s.commits.length cc, .slice ra s.rhos.length rc, .int .u64 s.dep, .int .u64 s.wd, .int .u64 s.fee, .int .u64 s.acc, .int .u64 s.bind] 44)) (.cells #[.int .u64 i.note.value, .int .u64 i.note.owner, .int .u64 i.note.rho, .int .u64 i.note.blind, .int .u64 i.key, .int .i64 i.number, .int .i64 i.position, .slice pa i.path.length pc, .bool i.dummy] 118)
  have eA : (w.alloc (.cells #[.int .i64 D, .int .u64 s.anchor, .slice ma s.marks.length mc, .slice ca s.commits.length cc, .slice ra s.rhos.length rc, .int .u64 s.dep, .int .u64 s.wd, .int .u64 s.fee, .int .u64 s.acc, .int .u64 s.bind] 44)).heap.size = w.heap.size + 1 := World.size_alloc ..
  rw [eA] at qB
  have HA := Lib.hid qA
  have HBx := Lib.hid qB
  have HBel := Lib.hid hbB
  have HO := Lib.hid (ho.keepB hbB)
  have HP := Lib.hid (numsR.keepB hpa hbB)
  have HOK := Lib.hid hok
  have HU : Hid (checkInE s.anchor i pub = if i.note.owner = ownerS i.key i.number then (if markK i.key i.note.rho = true ∧ markV i.key i.note.rho = pub then (if i.dummy = true then (if i.note.value = 0 then 0 else 13) else (if noteB i.note = true ∧ climbS (commitV i.note) i.position i.path = s.anchor then 0 else 11)) else 12) else 21) := rfl
  clear hbA hbB qA qB eA ho hpa hok
  go_enter Tryz.func46, Tryz.ntmps46
  go_wp2_with fail
  generalize (w.alloc (.cells #[.int .i64 D, .int .u64 s.anchor, .slice ma s.marks.length mc, .slice ca s.commits.length cc, .slice ra s.rhos.length rc, .int .u64 s.dep, .int .u64 s.wd, .int .u64 s.fee, .int .u64 s.acc, .int .u64 s.bind] 44)).alloc (.cells #[.int .u64 i.note.value, .int .u64 i.note.owner, .int .u64 i.note.rho, .int .u64 i.note.blind, .int .u64 i.key, .int .i64 i.number, .int .i64 i.position, .slice pa i.path.length pc, .bool i.dummy] 118) = W at *
  have xq := box_regrown HBx.out
  refine wp_region_quiet_below (by kernel_rfl) (by kernel_rfl) ?_
  repeat (first | go_big_quiet_step (exact Calls.regrown_of (owner_any _ i.key i.number HOK.out.key)) | quiet_step (exact Calls.regrown_of (owner_any _ i.key i.number HOK.out.key)))
  refine wpQuiet_nil ?_
  intro w1 hw'
  obtain ⟨⟨dq, osq⟩, hw''⟩ := hw'
  have hb1 := below_regrown W dq osq
  rw [← hw''] at hb1
  clear hw'' xq
  obtain ⟨x0, x1⟩ := box_cells (box_after hb1 HBx.out)
  by_cases hown : i.note.owner = ownerS i.key i.number
  · have hb : (i.note.owner == ownerS i.key i.number) = true := by rw [beq_iff_eq]; exact hown
    have hb' : (i.note.owner != ownerS i.key i.number) = false := by rw [bne_eq_false_iff_eq]; exact hown
    have HU2 : Hid (checkInE s.anchor i pub = if markK i.key i.note.rho = true ∧ markV i.key i.note.rho = pub then (if i.dummy = true then (if i.note.value = 0 then 0 else 13) else (if noteB i.note = true ∧ climbS (commitV i.note) i.position i.path = s.anchor then 0 else 11)) else 12) := by show _ = _; rw [HU.out, if_pos hown]
    clear hown HU
    generalize ownerS i.key i.number = ow at *
    go_wp2_with fail
    refine (marked_any w1 p st (HO.out.keepB hb1) i.key i.note.rho HOK.out.key HOK.out.note.rho).mono ?_
    rintro e w2 ⟨rfl, hb2⟩
    have hbk := bnext hb1 hb2
    clear x0 x1 hb2
    obtain ⟨x0, x1⟩ := box_cells (box_after hbk HBx.out)
    cases hmk : markK i.key i.note.rho with
    | false =>
      have HF : Hid (checkInE s.anchor i pub = 12) := by show _ = _; rw [HU2.out, if_neg (fun h => by rw [hmk] at h; cases h.1)]
      go_wp2_with fail
      go_ret
      exact ⟨ret_int HF.out.symm, bnext HBel.out hbk⟩
    | true =>
      by_cases hmv : markV i.key i.note.rho = pub
      · have c1 : (markV i.key i.note.rho == pub) = true := by rw [beq_iff_eq]; exact hmv
        have c1' : (markV i.key i.note.rho != pub) = false := by rw [bne_eq_false_iff_eq]; exact hmv
        have HU3 : Hid (checkInE s.anchor i pub = if i.dummy = true then (if i.note.value = 0 then 0 else 13) else (if noteB i.note = true ∧ climbS (commitV i.note) i.position i.path = s.anchor then 0 else 11)) := by show _ = _; rw [HU2.out, if_pos ⟨hmk, hmv⟩]
        clear HU2 hmv
        generalize markV i.key i.note.rho = mv at *
        cases hdm : i.dummy with
        | true =>
          rw [hdm] at x0
          by_cases hvz : i.note.value = 0
          · have c2 : (i.note.value == 0) = true := by rw [beq_iff_eq]; exact hvz
            have c2' : (i.note.value != 0) = false := by rw [bne_eq_false_iff_eq]; exact hvz
            have HF : Hid (checkInE s.anchor i pub = 0) := by show _ = _; rw [HU3.out, if_pos hdm, if_pos hvz]
            clear hvz
            go_wp2_with fail
            go_ret
            exact ⟨ret_int HF.out.symm, bnext HBel.out hbk⟩
          · have c2 : (i.note.value == 0) = false := by rw [beq_eq_false_iff_ne]; exact hvz
            have c2' : (i.note.value != 0) = true := by rw [bne_iff_ne]; exact hvz
            have HF : Hid (checkInE s.anchor i pub = 13) := by show _ = _; rw [HU3.out, if_pos hdm, if_neg hvz]
            clear hvz
            go_wp2_with fail
            go_ret
            exact ⟨ret_int HF.out.symm, bnext HBel.out hbk⟩
        | false =>
          rw [hdm] at x0
          have HU4 : Hid (checkInE s.anchor i pub = if noteB i.note = true ∧ climbS (commitV i.note) i.position i.path = s.anchor then 0 else 11) := by show _ = _; rw [HU3.out, if_neg (by rw [hdm]; simp)]
          go_wp2_with fail
          refine (commitment_any w2 p st (HO.out.keepB hbk) i.note HOK.out.note).mono ?_
          rintro e w3 ⟨rfl, hb3⟩
          have hbk3 := bnext hbk hb3
          clear x0 x1 hb3
          cases hnb : noteB i.note with
          | false =>
            have HF : Hid (checkInE s.anchor i pub = 11) := by show _ = _; rw [HU4.out, if_neg (fun h => by rw [hnb] at h; cases h.1)]
            go_wp2_with fail
            go_quiet (fail)
            go_wp2_with fail
            go_ret
            exact ⟨ret_int HF.out.symm, bnext HBel.out (bdrewN hbk3 _)⟩
          | true =>
            have xq := box_regrown (box_after hbk3 HBx.out)
            have yq := box_regrown (box_after hbk3 HA.out)
            rw [hdm] at xq
            have hcl : ∀ (d : Nat) (os : Array Obj), Calls Tryz.prog 97 #[.int .u64 (commitV i.note), .int .i64 i.position, .slice pa i.path.length pc] (grow (redrawn w3 d) os) fun e w' => e = .returned (.int .u64 (climbS (commitV i.note) i.position i.path)) ∧ Below (grow (redrawn w3 d) os).heap.size (grow (redrawn w3 d) os) w' := fun d os =>
              climb_any S _ (commitV i.note) i.position (commitV_ok _) pa pc i.path (numsR.keepB (numsR.keepB HP.out hbk3) (below_regrown w3 d os)) h1 h2 h3
            go_wp2_with fail
            refine wp_region_quiet_below (by kernel_rfl) (by kernel_rfl) ?_
            repeat (first | go_big_quiet_step (exact Calls.regrown_of (hcl _ _)) | quiet_step (exact Calls.regrown_of (hcl _ _)))
            refine wpQuiet_nil ?_
            intro w4 hw'
            obtain ⟨⟨dq, osq⟩, hw''⟩ := hw'
            have hb4 := below_regrown w3 dq osq
            rw [← hw''] at hb4
            clear hw'' xq yq hcl
            have hfin := bnext HBel.out (bnext hbk3 hb4)
            by_cases hcm : climbS (commitV i.note) i.position i.path = s.anchor
            · have c3 : (climbS (commitV i.note) i.position i.path == s.anchor) = true := by rw [beq_iff_eq]; exact hcm
              have c3' : (climbS (commitV i.note) i.position i.path != s.anchor) = false := by rw [bne_eq_false_iff_eq]; exact hcm
              have HF : Hid (checkInE s.anchor i pub = 0) := by show _ = _; rw [HU4.out, if_pos ⟨hnb, hcm⟩]
              clear hcm HU4 HU3
              generalize climbS (commitV i.note) i.position i.path = cl at *
              go_wp2_with fail
              go_ret
              exact ⟨ret_int HF.out.symm, hfin⟩
            · have c3 : (climbS (commitV i.note) i.position i.path == s.anchor) = false := by rw [beq_eq_false_iff_ne]; exact hcm
              have c3' : (climbS (commitV i.note) i.position i.path != s.anchor) = true := by rw [bne_iff_ne]; exact hcm
              have HF : Hid (checkInE s.anchor i pub = 11) := by show _ = _; rw [HU4.out, if_neg (fun h => hcm h.2)]
              clear hcm HU4 HU3
              generalize climbS (commitV i.note) i.position i.path = cl at *
              go_wp2_with fail
              go_ret
              exact ⟨ret_int HF.out.symm, hfin⟩
      · have c1 : (markV i.key i.note.rho == pub) = false := by rw [beq_eq_false_iff_ne]; exact hmv
        have c1' : (markV i.key i.note.rho != pub) = true := by rw [bne_iff_ne]; exact hmv
        have HF : Hid (checkInE s.anchor i pub = 12) := by show _ = _; rw [HU2.out, if_neg (fun h => hmv h.2)]
        clear HU2 hmv
        generalize markV i.key i.note.rho = mv at *
        go_wp2_with fail
        go_ret
        exact ⟨ret_int HF.out.symm, bnext HBel.out hbk⟩
  · have hb : (i.note.owner == ownerS i.key i.number) = false := by rw [beq_eq_false_iff_ne]; exact hown
    have hb' : (i.note.owner != ownerS i.key i.number) = true := by rw [bne_iff_ne]; exact hown
    have HF : Hid (checkInE s.anchor i pub = 21) := by show _ = _; rw [HU.out, if_neg hown]
    clear hown HU
    generalize ownerS i.key i.number = ow at *
    go_wp2_with fail
    go_ret
    exact ⟨ret_int HF.out.symm, bnext HBel.out hb1⟩
end Go.Proofs.YthggdacincfplaaGreatDoor
