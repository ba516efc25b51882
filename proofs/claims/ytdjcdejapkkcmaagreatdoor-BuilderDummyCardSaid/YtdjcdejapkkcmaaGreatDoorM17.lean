/- The builder: the error of one note to be spent. -/
import Derived.Test.YtdjcdejapkkcmaaGreatDoorM16
import Derived.Test.YtdjcdejapkkcmaaGreatDoorM12
import Derived.Test.YtdjcdejapkkcmaaGreatDoorM11
import Derived.BigQuiet
namespace Go.Proofs.YtdjcdejapkkcmaaGreatDoor
open Go.ChangeShapes Go.WideShapes Go.ChangeAt Go.RowKit Go.Sort

abbrev spC (i : SpentM) (pa : Option Addr) (pc : Nat) : Array Value := #[.int .u64 i.note.value, .int .u64 i.note.owner, .int .u64 i.note.rho, .int .u64 i.note.blind, .int .u64 i.key, .int .i64 i.number, .int .i64 i.position, .slice pa i.path.length pc, .bool i.dummy]
/-- The error of a note to be spent, if its commitment is v, known or not. -/
def exInG (anchor : Int) (i : SpentM) (v : Int) (k : Bool) : Int :=
  if i.note.owner = ownerS i.key i.number then
    (if i.dummy = true then (if i.note.value = 0 then 0 else 13)
     else (if k = true ∧ climbS v i.position i.path = anchor then 0 else 11))
  else 21
set_option maxRecDepth 100000 in
set_option maxHeartbeats 4000000 in
theorem examineIn_gen (F : Nat → Prop) (S : Nat → Prop) (w : World) (p : Nat) (m : OrM) (ho : OrG F p w m) (anchor : Int) (i : SpentM) (hok : SpentOk i) (pa : Option Addr) (pc : Nat) (hpa : numsR.rel S w [.slice pa i.path.length pc] i.path)
    (h1 : i.path.length ≤ 12) (h2 : 0 ≤ i.position) (h3 : i.position ≤ 4095) :
    Calls Tryz.prog 60 #[.pointer (some ⟨p, 0, none⟩), .int .u64 anchor, .agg (spC i pa pc)] w fun e w' => e = .returned (.int .i64 (exInG anchor i (m.cmt i.note).1 (m.cmt i.note).2)) ∧ Below w.heap.size w w' := by
  have hbB := bnew (Below.refl w.heap.size w) (.cells (spC i pa pc) 58)
  have HBx := Lib.hid (box_new w (.cells (spC i pa pc) 58))
  have HBel := Lib.hid hbB
  have HO := Lib.hid (ho.keepB hbB)
  have HP := Lib.hid (numsR.keepB hpa hbB)
  have HOK := Lib.hid hok
  have HC0 := Lib.hid (cmt_ok ho.1 i.note)
  obtain ⟨v, hv⟩ : ∃ v, (m.cmt i.note).1 = v := ⟨_, rfl⟩
  obtain ⟨k, hk⟩ : ∃ k, (m.cmt i.note).2 = k := ⟨_, rfl⟩
  have HCV := Lib.hid hv
  have HCK := Lib.hid hk
  rw [hv] at HC0 ⊢
  rw [hk]
  have HU : Hid (∀ v k, exInG anchor i v k = if i.note.owner = ownerS i.key i.number then (if i.dummy = true then (if i.note.value = 0 then 0 else 13) else (if k = true ∧ climbS v i.position i.path = anchor then 0 else 11)) else 21) := fun _ _ => rfl
  clear hbB ho hpa hok hv hk
  go_enter Tryz.func60, Tryz.ntmps60
  go_upto_region 1 with (fail)
  generalize w.alloc (.cells (spC i pa pc) 58) = W at *
  have xq := box_regrown HBx.out
  refine wp_region_quiet_below (by kernel_rfl) (by kernel_rfl) ?_
  repeat (first | go_big_quiet_step (exact Calls.regrown_of (owner_any _ i.key i.number HOK.out.key)) | quiet_step (exact Calls.regrown_of (owner_any _ i.key i.number HOK.out.key)))
  refine wpQuiet_nil ?_
  intro w1 hw'
  obtain ⟨⟨dq, osq⟩, hw''⟩ := hw'
  have hb1 := below_regrown W dq osq
  rw [← hw''] at hb1
  clear hw'' xq
  obtain ⟨x0, x1⟩ := box_cells (box_after hb1 HBx.out)
  by_cases hown : i.note.owner = ownerS i.key i.number
  · have hb : (i.note.owner == ownerS i.key i.number) = true := by rw [beq_iff_eq]; exact hown
    have hb' : (i.note.owner != ownerS i.key i.number) = false := by rw [bne_eq_false_iff_eq]; exact hown
    have HU2 : Hid (∀ v k, exInG anchor i v k = if i.dummy = true then (if i.note.value = 0 then 0 else 13) else (if k = true ∧ climbS v i.position i.path = anchor then 0 else 11)) := fun v k => by rw [HU.out, if_pos hown]
    clear hown HU
    generalize ownerS i.key i.number = ow at *
    cases hdm : i.dummy with
    | true =>
      unfold spC at x0
      rw [hdm] at x0
      by_cases hvz : i.note.value = 0
      · have c2 : (i.note.value == 0) = true := by rw [beq_iff_eq]; exact hvz
        have c2' : (i.note.value != 0) = false := by rw [bne_eq_false_iff_eq]; exact hvz
        have HF : Hid (exInG anchor i v k = 0) := by show _ = _; rw [HU2.out, if_pos hdm, if_pos hvz]
        clear hvz
        go_wp2_with fail
        go_ret
        exact ⟨ret_int HF.out.symm, bnext HBel.out hb1⟩
      · have c2 : (i.note.value == 0) = false := by rw [beq_eq_false_iff_ne]; exact hvz
        have c2' : (i.note.value != 0) = true := by rw [bne_iff_ne]; exact hvz
        have HF : Hid (exInG anchor i v k = 13) := by show _ = _; rw [HU2.out, if_pos hdm, if_neg hvz]
        clear hvz
        go_wp2_with fail
        go_ret
        exact ⟨ret_int HF.out.symm, bnext HBel.out hb1⟩
    | false =>
      unfold spC at x0
      rw [hdm] at x0
      have HU4 : Hid (∀ v k, exInG anchor i v k = if k = true ∧ climbS v i.position i.path = anchor then 0 else 11) := fun v k => by rw [HU2.out, if_neg (by rw [hdm]; simp)]
      clear HU2
      go_wp2_with fail
      refine (commitment_gen F w1 p m (HO.out.keepB hb1) i.note HOK.out.note).mono ?_
      rw [HCV.out, HCK.out]
      rintro e w3 ⟨rfl, hb3⟩
      have hbk3 := bnext hb1 hb3
      clear x0 x1 hb3
      obtain ⟨x0, x1⟩ := box_cells (box_after hbk3 HBx.out)
      unfold spC at x0
      rw [hdm] at x0
      cases k with
      | false =>
        have HF : Hid (exInG anchor i v false = 11) := by show _ = _; rw [HU4.out, if_neg (fun h => by cases h.1)]
        go_wp2_with fail
        go_ret
        exact ⟨ret_int HF.out.symm, bnext HBel.out hbk3⟩
      | true =>
        go_wp2_with fail
        refine (climb_any S _ v i.position HC0.out pa pc i.path (numsR.keepB HP.out hbk3) h1 h2 h3).mono ?_
        rintro e w4 ⟨rfl, hb4⟩
        have HFB := Lib.hid (bnext HBel.out (bnext hbk3 hb4))
        clear hb4
        by_cases hcm : climbS v i.position i.path = anchor
        · have c3 : (climbS v i.position i.path == anchor) = true := by rw [beq_iff_eq]; exact hcm
          have c3' : (climbS v i.position i.path != anchor) = false := by rw [bne_eq_false_iff_eq]; exact hcm
          have HF : Hid (exInG anchor i v true = 0) := by show _ = _; rw [HU4.out, if_pos ⟨rfl, hcm⟩]
          clear hcm HU4
          generalize climbS v i.position i.path = cl at *
          go_wp2_with fail
          go_ret
          exact ⟨ret_int HF.out.symm, HFB.out⟩
        · have c3 : (climbS v i.position i.path == anchor) = false := by rw [beq_eq_false_iff_ne]; exact hcm
          have c3' : (climbS v i.position i.path != anchor) = true := by rw [bne_iff_ne]; exact hcm
          have HF : Hid (exInG anchor i v true = 11) := by show _ = _; rw [HU4.out, if_neg (fun h => hcm h.2)]
          clear hcm HU4
          generalize climbS v i.position i.path = cl at *
          go_wp2_with fail
          go_ret
          exact ⟨ret_int HF.out.symm, HFB.out⟩
  · have hb : (i.note.owner == ownerS i.key i.number) = false := by rw [beq_eq_false_iff_ne]; exact hown
    have hb' : (i.note.owner != ownerS i.key i.number) = true := by rw [bne_iff_ne]; exact hown
    have HF : Hid (exInG anchor i v k = 21) := by show _ = _; rw [HU.out, if_neg hown]
    clear hown HU
    generalize ownerS i.key i.number = ow at *
    go_wp2_with fail
    go_ret
    exact ⟨ret_int HF.out.symm, bnext HBel.out hb1⟩
end Go.Proofs.YtdjcdejapkkcmaaGreatDoor
/- The builder: examine. -/
namespace Go.Proofs.YtdjcdejapkkcmaaGreatDoor
open Go.ChangeShapes Go.WideShapes Go.ChangeAt Go.RowKit Go.Sort

/-- The error of note k. -/
def exAt (m : OrM) (q : ReqM) (k : Nat) : Int := match q.ins[k]? with | some i => exInG q.anchor i (m.cmt i.note).1 (m.cmt i.note).2 | none => 0
def ownOk (q : ReqM) : Bool := !(decide (0 < q.dep) && (q.acc != hashS 7 [q.secret]))
def partsB (D : Nat) (q : ReqM) : Bool := reqB q && (insOk D q.ins && q.outs.all payB)
/-- The error of a request. -/
def examE (m : OrM) (se : Int) (D : Nat) (q : ReqM) : Int :=
  if se = 0 then (if partsB D q = true then (if firstE (exAt m q) q.ins.length = 0 then (if ownOk q = true then (if balIn q = balOut q then 0 else 13) else 21) else firstE (exAt m q) q.ins.length) else 1) else se
theorem insOk_at {D : Nat} {l : List SpentM} (h : insOk D l = true) (k : Nat) (hk : k < l.length) : inB D l[k] = true := by
  cases hp : insF D l k with
  | false => have := allUp_false hp hk; unfold insOk at h; rw [h] at this; cases this
  | true => rw [insF_at D l k hk, Bool.and_eq_true] at hp; exact hp.1
theorem inB_facts {D : Nat} {i : SpentM} (h : inB D i = true) (hD : D ≤ 12) : i.path.length ≤ 12 ∧ 0 ≤ i.position ∧ i.position ≤ 4095 := by
  unfold inB at h
  simp only [Bool.and_eq_true, decide_eq_true_eq] at h
  obtain ⟨-, -, -, h1, -, h2, h3⟩ := h
  have := (pow12 ⟨D, by omega⟩).2.2
  simp only at this
  omega
theorem exAt_at (m : OrM) (q : ReqM) (k : Nat) (h : k < q.ins.length) : exAt m q k = exInG q.anchor q.ins[k] (m.cmt q.ins[k].note).1 (m.cmt q.ins[k].note).2 := by unfold exAt; rw [List.getElem?_eq_getElem h]
/-- What examine gives. -/
def ExamTo (m : OrM) (se : Int) (D : Nat) (q : ReqM) (w : World) (e : Ending) (w' : World) : Prop := e = .returned (.int .i64 (examE m se D q)) ∧ Below w.heap.size w w'
set_option maxRecDepth 100000 in
set_option maxHeartbeats 4000000 in
theorem examine_bad (F : Nat → Prop) (S : Nat → Prop) (w : World) (htab : TabAt w) (p : Nat) (m : OrM) (ho : OrG F p w m) (r : RuM) (hr : r.mode ≠ 1) (q : ReqM) (hq : ReqOk q) (ia oa : Option Addr) (ic oc : Nat) (h : ReqAt S w q ia ic oa oc) (se : Int) (hse : settE m.ideal r.mode r.depth r.bl r.bu r.qu r.rew r.win r.fin r.work = se) (hs0 : se ≠ 0) :
    Calls Tryz.prog 29 #[.pointer (some ⟨p, 0, none⟩), .agg (ruC r), .agg (reqC q ia ic oa oc)] w fun e w' => e = .returned (.int .i64 se) ∧ Below w.heap.size w w' := by
  have g1 := (sliceR.lens h.ins).2
  have g2 := (sliceR.lens h.outs).2
  unfold maxLen at g1 g2
  have hbA := bnew (Below.refl w.heap.size w) (.cells (ruC r) 26)
  have hbB := bnew hbA (.cells (reqC q ia ic oa oc) 39)
  have qA := box_old (o' := .cells (reqC q ia ic oa oc) 39) (box_new w (.cells (ruC r) 26))
  have qB := box_new (w.alloc (.cells (ruC r) 26)) (.cells (reqC q ia ic oa oc) 39)
  have eA : (w.alloc (.cells (ruC r) 26)).heap.size = w.heap.size + 1 := World.size_alloc ..
  rw [eA] at qB
  have HA := Lib.hid qA
  have HX := Lib.hid qB
  have HB := Lib.hid hbB
  have HO := Lib.hid (ho.keepB hbB)
  have HT := Lib.hid (htab.keepB hbB)
  have H := Lib.hid (h.keepB hbB)
  have HQ := Lib.hid hq
  have HR := Lib.hid hr
  have HSE := Lib.hid hse
  have b1 : (se == 0) = false := by rw [beq_eq_false_iff_ne]; exact hs0
  have b2 : (se != 0) = true := by rw [bne_iff_ne]; exact hs0
  clear hbA hbB qA qB eA ho htab h hq hr hse hs0
  go_enter Tryz.func29, Tryz.ntmps29
  go_upto_region 1 with (fail)
  generalize (w.alloc (.cells (ruC r) 26)).alloc (.cells (reqC q ia ic oa oc) 39) = W at *
  obtain ⟨x0, x1⟩ := box_cells HX.out
  obtain ⟨y0, y1⟩ := box_cells HA.out
  go_wp2_with fail
  refine (setting_any W p m.ideal m.st HO.out.at r.mode r.depth r.bl r.bu r.qu r.rew r.win r.fin r.work).mono ?_
  rw [HSE.out]
  rintro e w1 ⟨rfl, hb1⟩
  have HB1 := Lib.hid (bnext HB.out hb1)
  have HX1 := Lib.hid (box_after hb1 HX.out)
  have HA1 := Lib.hid (box_after hb1 HA.out)
  have H1 := Lib.hid (H.out.keepB hb1)
  have HO1 := Lib.hid (HO.out.keepB hb1)
  have HT1 := Lib.hid (HT.out.keepB hb1)
  clear x0 x1 y0 y1 hb1 HB HX HA H HO HT
  obtain ⟨x0, x1⟩ := box_cells HX1.out
  go_wp2_with fail
  go_ret
  exact ⟨rfl, HB1.out⟩
set_option maxRecDepth 100000 in
set_option maxHeartbeats 4000000 in
theorem examine_ok (F : Nat → Prop) (S : Nat → Prop) (w : World) (htab : TabAt w) (p : Nat) (m : OrM) (ho : OrG F p w m) (r : RuM) (hr : r.mode ≠ 1) (q : ReqM) (hq : ReqOk q) (ia oa : Option Addr) (ic oc : Nat) (h : ReqAt S w q ia ic oa oc) (D : Nat) (hD : r.depth = D) (D0 : 1 ≤ D) (D1 : D ≤ 12) (hse : settE m.ideal r.mode r.depth r.bl r.bu r.qu r.rew r.win r.fin r.work = 0) :
    Calls Tryz.prog 29 #[.pointer (some ⟨p, 0, none⟩), .agg (ruC r), .agg (reqC q ia ic oa oc)] w (ExamTo m 0 D q w) := by
  have g1 := (sliceR.lens h.ins).2
  have g2 := (sliceR.lens h.outs).2
  unfold maxLen at g1 g2
  have hbA := bnew (Below.refl w.heap.size w) (.cells (ruC r) 26)
  have hbB := bnew hbA (.cells (reqC q ia ic oa oc) 39)
  have qA := box_old (o' := .cells (reqC q ia ic oa oc) 39) (box_new w (.cells (ruC r) 26))
  have qB := box_new (w.alloc (.cells (ruC r) 26)) (.cells (reqC q ia ic oa oc) 39)
  have eA : (w.alloc (.cells (ruC r) 26)).heap.size = w.heap.size + 1 := World.size_alloc ..
  rw [eA] at qB
  have HA := Lib.hid qA
  have HX := Lib.hid qB
  have HB := Lib.hid hbB
  have HO := Lib.hid (ho.keepB hbB)
  have HT := Lib.hid (htab.keepB hbB)
  have H := Lib.hid (h.keepB hbB)
  have HQ := Lib.hid hq
  have HR := Lib.hid hr
  have HSE := Lib.hid hse
  have HDI := Lib.hid hD
  have HU : Hid (examE m 0 D q = if partsB D q = true then (if firstE (exAt m q) q.ins.length = 0 then (if ownOk q = true then (if balIn q = balOut q then 0 else 13) else 21) else firstE (exAt m q) q.ins.length) else 1) := rfl
  have HPU : Hid (partsB D q = (reqB q && (insOk D q.ins && q.outs.all payB))) := rfl
  have b3 : (r.mode == 1) = false := by rw [beq_eq_false_iff_ne]; exact hr
  clear hbA hbB qA qB eA ho htab h hq hr hse hD
  go_enter Tryz.func29, Tryz.ntmps29
  go_upto_region 1 with (fail)
  generalize (w.alloc (.cells (ruC r) 26)).alloc (.cells (reqC q ia ic oa oc) 39) = W at *
  obtain ⟨x0, x1⟩ := box_cells HX.out
  obtain ⟨y0, y1⟩ := box_cells HA.out
  go_wp2_with fail
  refine (setting_any W p m.ideal m.st HO.out.at r.mode r.depth r.bl r.bu r.qu r.rew r.win r.fin r.work).mono ?_
  rw [HSE.out]
  rintro e w1 ⟨rfl, hb1⟩
  have HB1 := Lib.hid (bnext HB.out hb1)
  have HX1 := Lib.hid (box_after hb1 HX.out)
  have HA1 := Lib.hid (box_after hb1 HA.out)
  have H1 := Lib.hid (H.out.keepB hb1)
  have HO1 := Lib.hid (HO.out.keepB hb1)
  have HT1 := Lib.hid (HT.out.keepB hb1)
  clear x0 x1 y0 y1 hb1 HB HX HA H HO HT
  obtain ⟨x0, x1⟩ := box_cells HX1.out
  obtain ⟨y0, y1⟩ := box_cells HA1.out
  go_wp2_with fail
  refine (validRequest_any w1 q HQ.out ia oa ic oc).mono ?_
  rintro e w2 ⟨rfl, hb2⟩
  have HB2 := Lib.hid (bnext HB1.out hb2)
  have HX2 := Lib.hid (box_after hb2 HX1.out)
  have HA2 := Lib.hid (box_after hb2 HA1.out)
  have H2 := Lib.hid (H1.out.keepB hb2)
  have HO2 := Lib.hid (HO1.out.keepB hb2)
  have HT2 := Lib.hid (HT1.out.keepB hb2)
  clear x0 x1 y0 y1 hb2 HB1 HX1 HA1 H1 HO1 HT1
  obtain ⟨x0, x1⟩ := box_cells HX2.out
  obtain ⟨y0, y1⟩ := box_cells HA2.out
  cases hv1 : reqB q with
  | false =>
    have HF : Hid (examE m 0 D q = 1) := by show _ = _; rw [HU.out, if_neg (by rw [HPU.out, hv1]; simp)]
    go_wp2_with fail
    go_ret
    exact ⟨ret_int HF.out.symm, HB2.out⟩
  | true =>
    go_wp2_with fail
    rw [HDI.out]
    refine (validIns_any S w2 D D0 D1 ia ic q.ins H2.out.ins).mono ?_
    rintro e w3 ⟨rfl, hb3⟩
    have HB3 := Lib.hid (bnext HB2.out hb3)
    have HX3 := Lib.hid (box_after hb3 HX2.out)
    have HA3 := Lib.hid (box_after hb3 HA2.out)
    have H3 := Lib.hid (H2.out.keepB hb3)
    have HO3 := Lib.hid (HO2.out.keepB hb3)
    have HT3 := Lib.hid (HT2.out.keepB hb3)
    clear x0 x1 y0 y1 hb3 HB2 HX2 HA2 H2 HO2 HT2
    obtain ⟨x0, x1⟩ := box_cells HX3.out
    obtain ⟨y0, y1⟩ := box_cells HA3.out
    cases hv2 : insOk D q.ins with
    | false =>
      have HF : Hid (examE m 0 D q = 1) := by show _ = _; rw [HU.out, if_neg (by rw [HPU.out, hv1, hv2]; simp)]
      go_wp2_with fail
      go_ret
      exact ⟨ret_int HF.out.symm, HB3.out⟩
    | true =>
      go_wp2_with fail
      refine (bvalidOuts_any S w3 HT3.out oa oc q.outs H3.out.outs).mono ?_
      rintro e w4 ⟨rfl, hb4⟩
      have HB4 := Lib.hid (bnext HB3.out hb4)
      have HX4 := Lib.hid (box_after hb4 HX3.out)
      have HA4 := Lib.hid (box_after hb4 HA3.out)
      have H4 := Lib.hid (H3.out.keepB hb4)
      have HO4 := Lib.hid (HO3.out.keepB hb4)
      have HT4 := Lib.hid (HT3.out.keepB hb4)
      clear x0 x1 y0 y1 hb4 HB3 HX3 HA3 H3 HO3 HT3
      obtain ⟨x0, x1⟩ := box_cells HX4.out
      obtain ⟨y0, y1⟩ := box_cells HA4.out
      cases hv3 : q.outs.all payB with
      | false =>
        have HF : Hid (examE m 0 D q = 1) := by show _ = _; rw [HU.out, if_neg (by rw [HPU.out, hv1, hv2, hv3]; simp)]
        go_wp2_with fail
        go_ret
        exact ⟨ret_int HF.out.symm, HB4.out⟩
      | true =>
        have HPT : Hid (partsB D q = true) := by show _ = _; rw [HPU.out, hv1, hv2, hv3]; rfl
        have HU2 : Hid (examE m 0 D q = if firstE (exAt m q) q.ins.length = 0 then (if ownOk q = true then (if balIn q = balOut q then 0 else 13) else 21) else firstE (exAt m q) q.ins.length) := by show _ = _; rw [HU.out, if_pos HPT.out]
        have HV2 := Lib.hid hv2
        clear HU HPU hv1 hv2 hv3
        go_wp2_with fail
        go_loopw [41] (fun vi wr => ∃ k : Nat, k ≤ q.ins.length ∧ vi = .int .i64 k ∧ Hid (firstE (exAt m q) k = 0) ∧ Below w4.heap.size w4 wr) (fun vi _ => q.ins.length - (intOf vi).toNat)
        case atStart => exact ⟨0, Nat.zero_le _, rfl, rfl, Below.refl _ _⟩
        case round =>
          obtain ⟨k, hk, rfl, hall, hbr⟩ := hrel
          have HXr := Lib.hid (box_after hbr HX4.out)
          have HAr := Lib.hid (box_after hbr HA4.out)
          clear x0 x1 y0 y1
          obtain ⟨x0, x1⟩ := box_cells HXr.out
          by_cases hlt : k < q.ins.length
          · obtain ⟨b, off, pa, pc, rfl, hbl, hok, hpa, c0, c1, c2, c3, c4, c5, c6, c7, c8⟩ := spents_at (spentsR.keepB H4.out.ins hbr) k hlt
            have hif := inB_facts (insOk_at HV2.out k hlt) D1
            have HEA := Lib.hid (exAt_at m q k hlt)
            have HFS : Hid (∀ n, firstE (exAt m q) k = 0 → exAt m q k ≠ 0 → k < n → firstE (exAt m q) n = exAt m q k) := fun n h1 h2 h3 => firstE_stop h1 h2 n h3
            have HFY : Hid (firstE (exAt m q) k = 0 → exAt m q k = 0 → firstE (exAt m q) (k + 1) = 0) := fun h1 h2 => firstE_step h1 h2
            obtain ⟨i, hi⟩ : ∃ x, q.ins[k] = x := ⟨_, rfl⟩
            rw [hi] at hok hpa c0 c1 c2 c3 c4 c5 c6 c7 c8 hif HEA
            have hbn := bnew (Below.refl wr.heap.size wr) (.cells (spC i pa pc) 58)
            have HIN := Lib.hid (box_new wr (.cells (spC i pa pc) 58))
            have HPA := Lib.hid (numsR.keepB hpa hbn)
            have HBN := Lib.hid (bnext hbr hbn)
            have HXn := Lib.hid (box_after hbn HXr.out)
            have HOK := Lib.hid hok
            have HIF := Lib.hid hif
            have HLT := Lib.hid hlt
            clear hi hok hpa hbn hif
            go_upto_region 9 with (fail)
            generalize wr.alloc (.cells (spC i pa pc) 58) = wn at *
            clear c0 c1 c2 c3 c4 c5 c6 c7 c8 x0 x1
            obtain ⟨x0, x1⟩ := box_cells HXn.out
            obtain ⟨y0, y1⟩ := box_cells HIN.out
            go_wp2_with fail
            refine (examineIn_gen F S wn p m (HO4.out.keepB HBN.out) q.anchor i HOK.out pa pc HPA.out HIF.out.1 HIF.out.2.1 HIF.out.2.2).mono ?_
            rintro e w5 ⟨rfl, hb5⟩
            have HB5 := Lib.hid (bnext HBN.out hb5)
            clear hb5 x0 x1 y0 y1
            obtain ⟨ev, hev⟩ : ∃ x, exInG q.anchor i (m.cmt i.note).1 (m.cmt i.note).2 = x := ⟨_, rfl⟩
            rw [hev] at HEA ⊢
            clear hev
            by_cases h0 : ev = 0
            · subst h0
              have HY : Hid (firstE (exAt m q) (k + 1) = 0) := HFY.out hall.out HEA.out
              go_wp2_with fail
              go_roundw
              case rel => exact ⟨k + 1, by omega, by go_num, HY, HB5.out⟩
              case measure => simp [intOf]; omega
            · have n1 : (ev == 0) = false := by rw [beq_eq_false_iff_ne]; exact h0
              have n2 : (ev != 0) = true := by rw [bne_iff_ne]; exact h0
              have HF : Hid (ev = examE m 0 D q) := by
                have e2 := HFS.out q.ins.length hall.out (by rw [HEA.out]; exact h0) HLT.out
                show _ = _
                rw [HU2.out, e2, HEA.out, if_neg h0]
              clear h0
              go_wp2_with fail
              go_ret
              exact ⟨ret_int HF.out, bnext HB4.out HB5.out⟩
          · obtain rfl : k = q.ins.length := by omega
            have HU3 : Hid (examE m 0 D q = if ownOk q = true then (if balIn q = balOut q then 0 else 13) else 21) := by show _ = _; rw [HU2.out, if_pos hall.out]
            have HBr := Lib.hid (bnext HB4.out hbr)
            have Hr := Lib.hid (H4.out.keepB hbr)
            clear HU2
            have HOU : Hid (ownOk q = !(decide (0 < q.dep) && (q.acc != hashS 7 [q.secret]))) := rfl
            by_cases hdp : 0 < q.dep
            · have xq := box_regrown HXr.out
              have HDP : Hid (decide (0 < q.dep) = true) := decide_eq_true hdp
              have hac : ∀ (d : Nat) (os : Array Obj), Calls Tryz.prog 22 #[.int .u64 q.secret] (grow (redrawn wr d) os) fun e w' => e = .returned (.int .u64 (hashS 7 [q.secret])) ∧ Below (grow (redrawn wr d) os).heap.size (grow (redrawn wr d) os) w' := fun d os => account_any _ q.secret HQ.out.secret
              obtain ⟨hsx, hhs⟩ : ∃ x, hashS 7 [q.secret] = x := ⟨_, rfl⟩
              rw [hhs] at HOU hac
              clear hhs
              go_wp2_with fail
              refine wp_region_quiet_below (by kernel_rfl) (by kernel_rfl) ?_
              repeat (first | go_big_quiet_step (exact Calls.regrown_of (hac _ _)) | quiet_step (exact Calls.regrown_of (hac _ _)))
              refine wpQuiet_nil ?_
              intro ws hw'
              obtain ⟨⟨dq, osq⟩, hw''⟩ := hw'
              have hbq := below_regrown wr dq osq
              rw [← hw''] at hbq
              have HBs := Lib.hid (bnext HBr.out hbq)
              have HXs := Lib.hid (box_after hbq HXr.out)
              have HAs := Lib.hid (box_after hbq HAr.out)
              have Hs := Lib.hid (Hr.out.keepB hbq)
              clear hw'' xq hac hbq
              by_cases hoq : q.acc = hsx
              · have o1 : (q.acc == hsx) = true := by rw [beq_iff_eq]; exact hoq
                have o2 : (q.acc != hsx) = false := by rw [bne_eq_false_iff_eq]; exact hoq
                have HOW : Hid (ownOk q = true) := by show _ = _; rw [HOU.out, o2]; simp
                clear hoq
                clear x0 x1
                obtain ⟨x0, x1⟩ := box_cells HXs.out
                obtain ⟨y0, y1⟩ := box_cells HAs.out
                go_wp2_with fail
                refine (balanced_any S ws q ia oa ic oc Hs.out).mono ?_
                rintro e w6 ⟨rfl, hb6⟩
                have HB6 := Lib.hid (bnext HBs.out hb6)
                have HA6 := Lib.hid (box_after hb6 HAs.out)
                clear x0 x1 y0 y1 hb6
                obtain ⟨y0, y1⟩ := box_cells HA6.out
                have HU4 : Hid (examE m 0 D q = if balIn q = balOut q then 0 else 13) := by show _ = _; rw [HU3.out, if_pos HOW.out]
                by_cases hbl : balIn q = balOut q
                · have e1 : (balIn q == balOut q) = true := by rw [beq_iff_eq]; exact hbl
                  have HF : Hid (0 = examE m 0 D q) := by show _ = _; rw [HU4.out, if_pos hbl]
                  rw [e1]
                  clear hbl e1
                  go_wp2_with fail
                  go_ret
                  exact ⟨ret_int HF.out, HB6.out⟩
                · have e1 : (balIn q == balOut q) = false := by rw [beq_eq_false_iff_ne]; exact hbl
                  have HF : Hid (13 = examE m 0 D q) := by show _ = _; rw [HU4.out, if_neg hbl]
                  rw [e1]
                  clear hbl e1
                  go_wp2_with fail
                  go_ret
                  exact ⟨ret_int HF.out, HB6.out⟩
              · have o1 : (q.acc == hsx) = false := by rw [beq_eq_false_iff_ne]; exact hoq
                have o2 : (q.acc != hsx) = true := by rw [bne_iff_ne]; exact hoq
                have HOW : Hid (ownOk q = false) := by show _ = _; rw [HOU.out, o2, HDP.out]; rfl
                have HF : Hid (21 = examE m 0 D q) := by show _ = _; rw [HU3.out, if_neg (by rw [HOW.out]; simp)]
                clear hoq
                go_wp2_with fail
                go_ret
                exact ⟨ret_int HF.out, HBs.out⟩
            · have HOW : Hid (ownOk q = true) := by show _ = _; rw [HOU.out, decide_eq_false hdp]; rfl
              have hd2 : decide (0 < q.dep) = false := decide_eq_false hdp
              clear hdp
              have xq := box_regrown HXr.out
              go_wp2_with fail
              refine wp_region_quiet_below (by kernel_rfl) (by kernel_rfl) ?_
              repeat (first | go_big_quiet_step (fail) | quiet_step (fail))
              refine wpQuiet_nil ?_
              intro ws hw'
              obtain ⟨⟨dq, osq⟩, hw''⟩ := hw'
              have hbq := below_regrown wr dq osq
              rw [← hw''] at hbq
              have HBs := Lib.hid (bnext HBr.out hbq)
              have HXs := Lib.hid (box_after hbq HXr.out)
              have HAs := Lib.hid (box_after hbq HAr.out)
              have Hs := Lib.hid (Hr.out.keepB hbq)
              clear hw'' xq hbq
              clear x0 x1
              obtain ⟨x0, x1⟩ := box_cells HXs.out
              obtain ⟨y0, y1⟩ := box_cells HAs.out
              go_wp2_with fail
              refine (balanced_any S ws q ia oa ic oc Hs.out).mono ?_
              rintro e w6 ⟨rfl, hb6⟩
              have HB6 := Lib.hid (bnext HBs.out hb6)
              have HA6 := Lib.hid (box_after hb6 HAs.out)
              clear x0 x1 y0 y1 hb6
              obtain ⟨y0, y1⟩ := box_cells HA6.out
              have HU4 : Hid (examE m 0 D q = if balIn q = balOut q then 0 else 13) := by show _ = _; rw [HU3.out, if_pos HOW.out]
              by_cases hbl : balIn q = balOut q
              · have e1 : (balIn q == balOut q) = true := by rw [beq_iff_eq]; exact hbl
                have HF : Hid (0 = examE m 0 D q) := by show _ = _; rw [HU4.out, if_pos hbl]
                rw [e1]
                clear hbl e1
                go_wp2_with fail
                go_ret
                exact ⟨ret_int HF.out, HB6.out⟩
              · have e1 : (balIn q == balOut q) = false := by rw [beq_eq_false_iff_ne]; exact hbl
                have HF : Hid (13 = examE m 0 D q) := by show _ = _; rw [HU4.out, if_neg hbl]
                rw [e1]
                clear hbl e1
                go_wp2_with fail
                go_ret
                exact ⟨ret_int HF.out, HB6.out⟩
theorem examine_gen (F : Nat → Prop) (S : Nat → Prop) (w : World) (htab : TabAt w) (p : Nat) (m : OrM) (ho : OrG F p w m) (r : RuM) (hr : r.mode ≠ 1) (q : ReqM) (hq : ReqOk q) (ia oa : Option Addr) (ic oc : Nat) (h : ReqAt S w q ia ic oa oc) :
    Calls Tryz.prog 29 #[.pointer (some ⟨p, 0, none⟩), .agg (ruC r), .agg (reqC q ia ic oa oc)] w (ExamTo m (settE m.ideal r.mode r.depth r.bl r.bu r.qu r.rew r.win r.fin r.work) r.depth.toNat q w) := by
  by_cases hs0 : settE m.ideal r.mode r.depth r.bl r.bu r.qu r.rew r.win r.fin r.work = 0
  · have hd : 1 ≤ r.depth ∧ r.depth ≤ 12 := by
      have h0 := hs0
      unfold settE at h0
      split at h0
      · rename_i hz
        obtain ⟨-, -, d0, d1⟩ := ruleE_ok (r := r) hz
        exact ⟨d0, d1⟩
      · exact absurd h0 (by assumption)
    rw [hs0]
    exact examine_ok F S w htab p m ho r hr q hq ia oa ic oc h r.depth.toNat (by omega) (by omega) (by omega) hs0
  · refine (examine_bad F S w htab p m ho r hr q hq ia oa ic oc h _ rfl hs0).mono ?_
    rintro e w1 ⟨rfl, hb⟩
    exact ⟨ret_int (by unfold examE; rw [if_neg hs0]), hb⟩
end Go.Proofs.YtdjcdejapkkcmaaGreatDoor
/- The relation: one spent note, whatever the oracle. -/
namespace Go.Proofs.YtdjcdejapkkcmaaGreatDoor
open Go.ChangeShapes Go.WideShapes Go.ChangeAt Go.RowKit Go.Sort

def checkInG (m : OrM) (anchor : Int) (i : SpentM) (pub : Int) : Int :=
  if i.note.owner = ownerS i.key i.number then
    (if (m.mkd i.key i.note.rho).2 = true ∧ (m.mkd i.key i.note.rho).1 = pub then
      (if i.dummy = true then (if i.note.value = 0 then 0 else 13)
       else (if (m.cmt i.note).2 = true ∧ climbS (m.cmt i.note).1 i.position i.path = anchor then 0 else 11))
     else 12)
  else 21
set_option maxRecDepth 100000 in
set_option maxHeartbeats 4000000 in
theorem checkIn_gen (F : Nat → Prop) (S : Nat → Prop) (w : World) (p : Nat) (m : OrM) (ho : OrG F p w m) (D : Nat) (s : StM) (ma ca ra : Option Addr) (mc cc rc : Nat) (i : SpentM) (hok : SpentOk i) (pa : Option Addr) (pc : Nat) (hpa : numsR.rel S w [.slice pa i.path.length pc] i.path)
    (h1 : i.path.length ≤ 12) (h2 : 0 ≤ i.position) (h3 : i.position ≤ 4095) (pub : Int) :
    Calls Tryz.prog 115 #[.pointer (some ⟨p, 0, none⟩), .agg #[.int .i64 D, .int .u64 s.anchor, .slice ma s.marks.length mc, .slice ca s.commits.length cc, .slice ra s.rhos.length rc, .int .u64 s.dep, .int .u64 s.wd, .int .u64 s.fee, .int .u64 s.acc, .int .u64 s.bind], .agg #[.int .u64 i.note.value, .int .u64 i.note.owner, .int .u64 i.note.rho, .int .u64 i.note.blind, .int .u64 i.key, .int .i64 i.number, .int .i64 i.position, .slice pa i.path.length pc, .bool i.dummy], .int .u64 pub] w fun e w' => e = .returned (.int .i64 (checkInG m s.anchor i pub)) ∧ Below w.heap.size w w' := by
  have hbA := bnew (Below.refl w.heap.size w) (.cells #[.int .i64 D, .int .u64 s.anchor, .slice ma s.marks.length mc, .slice ca s.commits.length cc, .slice ra s.rhos.length rc, .int .u64 s.dep, .int .u64 s.wd, .int .u64 s.fee, .int .u64 s.acc, .int .u64 s.bind] 103)
  have hbB := bnew hbA (.cells #[.int .u64 i.note.value, .int .u64 i.note.owner, .int .u64 i.note.rho, .int .u64 i.note.blind, .int .u64 i.key, .int .i64 i.number, .int .i64 i.position, .slice pa i.path.length pc, .bool i.dummy] 58)
  have qA := box_old (o' := .cells #[.int .u64 i.note.value, .int .u64 i.note.owner, .int .u64 i.note.rho, .int .u64 i.note.blind, .int .u64 i.key, .int .i64 i.number, .int .i64 i.position, .slice pa i.path.length pc, .bool i.dummy] 58) (box_new w (.cells #[.int .i64 D, .int .u64 s.anchor, .slice ma s.marks.length mc, .slice ca s.commits.length cc, .slice ra s.rhos.length rc, .int .u64 s.dep, .int .u64 s.wd, .int .u64 s.fee, .int .u64 s.acc, .int .u64 s.bind] 103))
  have qB := box_new (w.alloc (.cells #[.int .i64 D, .int .u64 s.anchor, .slice ma s.marks.length mc, .slice ca s.commits.length cc, .slice ra s.rhos.length rc, .int .u64 s.dep, .int .u64 s.wd, .int .u64 s.fee, .int .u64 s.acc, .int .u64 s.bind] 103)) (.cells #[.int .u64 i.note.value, .int .u64 i.note.owner, .int .u64 i.note.rho, .int .u64 i.note.blind, .int .u64 i.key, .int .i64 i.number, .int .i64 i.position, .slice pa i.path.length pc, .bool i.dummy] 58)
  have eA : (w.alloc (.cells #[.int .i64 D, .int .u64 s.anchor, .slice ma s.marks.length mc, .slice ca s.commits.length cc, .slice ra s.rhos.length rc, .int .u64 s.dep, .int .u64 s.wd, .int .u64 s.fee, .int .u64 s.acc, .int .u64 s.bind] 103)).heap.size = w.heap.size + 1 := World.size_alloc ..
  rw [eA] at qB
  have HA := Lib.hid qA
  have HBx := Lib.hid qB
  have HBel := Lib.hid hbB
  have HO := Lib.hid (ho.keepB hbB)
  have HP := Lib.hid (numsR.keepB hpa hbB)
  have HOK := Lib.hid hok
  have hU : (checkInG m s.anchor i pub = if i.note.owner = ownerS i.key i.number then (if (m.mkd i.key i.note.rho).2 = true ∧ (m.mkd i.key i.note.rho).1 = pub then (if i.dummy = true then (if i.note.value = 0 then 0 else 13) else (if (m.cmt i.note).2 = true ∧ climbS ((m.cmt i.note).1) i.position i.path = s.anchor then 0 else 11)) else 12) else 21) := rfl
  have hco := cmt_ok ho.1 i.note
  obtain ⟨mkk, hmkk⟩ : ∃ x, (m.mkd i.key i.note.rho).2 = x := ⟨_, rfl⟩
  obtain ⟨mvv, hmvv⟩ : ∃ x, (m.mkd i.key i.note.rho).1 = x := ⟨_, rfl⟩
  obtain ⟨ckk, hckk⟩ : ∃ x, (m.cmt i.note).2 = x := ⟨_, rfl⟩
  obtain ⟨cvv, hcvv⟩ : ∃ x, (m.cmt i.note).1 = x := ⟨_, rfl⟩
  rw [hmkk, hmvv, hckk, hcvv] at hU
  rw [hcvv] at hco
  have HU := Lib.hid hU
  have HCO := Lib.hid hco
  have HMKK := Lib.hid hmkk
  have HMVV := Lib.hid hmvv
  have HCKK := Lib.hid hckk
  have HCVV := Lib.hid hcvv
  clear hbA hbB qA qB eA ho hpa hok hU hco hmkk hmvv hckk hcvv
  go_enter Tryz.func115, Tryz.ntmps115
  go_wp2_with fail
  generalize (w.alloc (.cells #[.int .i64 D, .int .u64 s.anchor, .slice ma s.marks.length mc, .slice ca s.commits.length cc, .slice ra s.rhos.length rc, .int .u64 s.dep, .int .u64 s.wd, .int .u64 s.fee, .int .u64 s.acc, .int .u64 s.bind] 103)).alloc (.cells #[.int .u64 i.note.value, .int .u64 i.note.owner, .int .u64 i.note.rho, .int .u64 i.note.blind, .int .u64 i.key, .int .i64 i.number, .int .i64 i.position, .slice pa i.path.length pc, .bool i.dummy] 58) = W at *
  have xq := box_regrown HBx.out
  refine wp_region_quiet_below (by kernel_rfl) (by kernel_rfl) ?_
  repeat (first | go_big_quiet_step (exact Calls.regrown_of (owner_any _ i.key i.number HOK.out.key)) | quiet_step (exact Calls.regrown_of (owner_any _ i.key i.number HOK.out.key)))
  refine wpQuiet_nil ?_
  intro w1 hw'
  obtain ⟨⟨dq, osq⟩, hw''⟩ := hw'
  have hb1 := below_regrown W dq osq
  rw [← hw''] at hb1
  clear hw'' xq
  obtain ⟨x0, x1⟩ := box_cells (box_after hb1 HBx.out)
  by_cases hown : i.note.owner = ownerS i.key i.number
  · have hb : (i.note.owner == ownerS i.key i.number) = true := by rw [beq_iff_eq]; exact hown
    have hb' : (i.note.owner != ownerS i.key i.number) = false := by rw [bne_eq_false_iff_eq]; exact hown
    have HU2 : Hid (checkInG m s.anchor i pub = if mkk = true ∧ mvv = pub then (if i.dummy = true then (if i.note.value = 0 then 0 else 13) else (if ckk = true ∧ climbS (cvv) i.position i.path = s.anchor then 0 else 11)) else 12) := by show _ = _; rw [HU.out, if_pos hown]
    clear hown HU
    generalize ownerS i.key i.number = ow at *
    go_wp2_with fail
    refine (marked_gen F w1 p m (HO.out.keepB hb1) i.key i.note.rho HOK.out.key HOK.out.note.rho).mono ?_
    rw [HMVV.out, HMKK.out]
    rintro e w2 ⟨rfl, hb2⟩
    have hbk := bnext hb1 hb2
    clear x0 x1 hb2
    obtain ⟨x0, x1⟩ := box_cells (box_after hbk HBx.out)
    cases hmk : mkk with
    | false =>
      have HF : Hid (checkInG m s.anchor i pub = 12) := by show _ = _; rw [HU2.out, if_neg (fun h => by rw [hmk] at h; cases h.1)]
      go_wp2_with fail
      go_ret
      exact ⟨ret_int HF.out.symm, bnext HBel.out hbk⟩
    | true =>
      by_cases hmv : mvv = pub
      · have c1 : (mvv == pub) = true := by rw [beq_iff_eq]; exact hmv
        have c1' : (mvv != pub) = false := by rw [bne_eq_false_iff_eq]; exact hmv
        have HU3 : Hid (checkInG m s.anchor i pub = if i.dummy = true then (if i.note.value = 0 then 0 else 13) else (if ckk = true ∧ climbS (cvv) i.position i.path = s.anchor then 0 else 11)) := by show _ = _; rw [HU2.out, if_pos ⟨hmk, hmv⟩]
        clear HU2 hmv
        generalize mvv = mv at *
        cases hdm : i.dummy with
        | true =>
          rw [hdm] at x0
          by_cases hvz : i.note.value = 0
          · have c2 : (i.note.value == 0) = true := by rw [beq_iff_eq]; exact hvz
            have c2' : (i.note.value != 0) = false := by rw [bne_eq_false_iff_eq]; exact hvz
            have HF : Hid (checkInG m s.anchor i pub = 0) := by show _ = _; rw [HU3.out, if_pos hdm, if_pos hvz]
            clear hvz
            go_wp2_with fail
            go_ret
            exact ⟨ret_int HF.out.symm, bnext HBel.out hbk⟩
          · have c2 : (i.note.value == 0) = false := by rw [beq_eq_false_iff_ne]; exact hvz
            have c2' : (i.note.value != 0) = true := by rw [bne_iff_ne]; exact hvz
            have HF : Hid (checkInG m s.anchor i pub = 13) := by show _ = _; rw [HU3.out, if_pos hdm, if_neg hvz]
            clear hvz
            go_wp2_with fail
            go_ret
            exact ⟨ret_int HF.out.symm, bnext HBel.out hbk⟩
        | false =>
          rw [hdm] at x0
          have HU4 : Hid (checkInG m s.anchor i pub = if ckk = true ∧ climbS (cvv) i.position i.path = s.anchor then 0 else 11) := by show _ = _; rw [HU3.out, if_neg (by rw [hdm]; simp)]
          go_wp2_with fail
          refine (commitment_gen F w2 p m (HO.out.keepB hbk) i.note HOK.out.note).mono ?_
          rw [HCVV.out, HCKK.out]
          rintro e w3 ⟨rfl, hb3⟩
          have hbk3 := bnext hbk hb3
          clear x0 x1 hb3
          cases hnb : ckk with
          | false =>
            have HF : Hid (checkInG m s.anchor i pub = 11) := by show _ = _; rw [HU4.out, if_neg (fun h => by rw [hnb] at h; cases h.1)]
            go_wp2_with fail
            go_quiet (fail)
            go_wp2_with fail
            go_ret
            exact ⟨ret_int HF.out.symm, bnext HBel.out (bdrewN hbk3 _)⟩
          | true =>
            have xq := box_regrown (box_after hbk3 HBx.out)
            have yq := box_regrown (box_after hbk3 HA.out)
            rw [hdm] at xq
            have hcl : ∀ (d : Nat) (os : Array Obj), Calls Tryz.prog 104 #[.int .u64 (cvv), .int .i64 i.position, .slice pa i.path.length pc] (grow (redrawn w3 d) os) fun e w' => e = .returned (.int .u64 (climbS (cvv) i.position i.path)) ∧ Below (grow (redrawn w3 d) os).heap.size (grow (redrawn w3 d) os) w' := fun d os =>
              climb_any S _ (cvv) i.position HCO.out pa pc i.path (numsR.keepB (numsR.keepB HP.out hbk3) (below_regrown w3 d os)) h1 h2 h3
            go_wp2_with fail
            refine wp_region_quiet_below (by kernel_rfl) (by kernel_rfl) ?_
            repeat (first | go_big_quiet_step (exact Calls.regrown_of (hcl _ _)) | quiet_step (exact Calls.regrown_of (hcl _ _)))
            refine wpQuiet_nil ?_
            intro w4 hw'
            obtain ⟨⟨dq, osq⟩, hw''⟩ := hw'
            have hb4 := below_regrown w3 dq osq
            rw [← hw''] at hb4
            clear hw'' xq yq hcl
            have hfin := bnext HBel.out (bnext hbk3 hb4)
            by_cases hcm : climbS (cvv) i.position i.path = s.anchor
            · have c3 : (climbS (cvv) i.position i.path == s.anchor) = true := by rw [beq_iff_eq]; exact hcm
              have c3' : (climbS (cvv) i.position i.path != s.anchor) = false := by rw [bne_eq_false_iff_eq]; exact hcm
              have HF : Hid (checkInG m s.anchor i pub = 0) := by show _ = _; rw [HU4.out, if_pos ⟨hnb, hcm⟩]
              clear hcm HU4 HU3
              generalize climbS (cvv) i.position i.path = cl at *
              go_wp2_with fail
              go_ret
              exact ⟨ret_int HF.out.symm, hfin⟩
            · have c3 : (climbS (cvv) i.position i.path == s.anchor) = false := by rw [beq_eq_false_iff_ne]; exact hcm
              have c3' : (climbS (cvv) i.position i.path != s.anchor) = true := by rw [bne_iff_ne]; exact hcm
              have HF : Hid (checkInG m s.anchor i pub = 11) := by show _ = _; rw [HU4.out, if_neg (fun h => hcm h.2)]
              clear hcm HU4 HU3
              generalize climbS (cvv) i.position i.path = cl at *
              go_wp2_with fail
              go_ret
              exact ⟨ret_int HF.out.symm, hfin⟩
      · have c1 : (mvv == pub) = false := by rw [beq_eq_false_iff_ne]; exact hmv
        have c1' : (mvv != pub) = true := by rw [bne_iff_ne]; exact hmv
        have HF : Hid (checkInG m s.anchor i pub = 12) := by show _ = _; rw [HU2.out, if_neg (fun h => hmv h.2)]
        clear HU2 hmv
        generalize mvv = mv at *
        go_wp2_with fail
        go_ret
        exact ⟨ret_int HF.out.symm, bnext HBel.out hbk⟩
  · have hb : (i.note.owner == ownerS i.key i.number) = false := by rw [beq_eq_false_iff_ne]; exact hown
    have hb' : (i.note.owner != ownerS i.key i.number) = true := by rw [bne_iff_ne]; exact hown
    have HF : Hid (checkInG m s.anchor i pub = 21) := by show _ = _; rw [HU.out, if_neg hown]
    clear hown HU
    generalize ownerS i.key i.number = ow at *
    go_wp2_with fail
    go_ret
    exact ⟨ret_int HF.out.symm, bnext HBel.out hb1⟩
end Go.Proofs.YtdjcdejapkkcmaaGreatDoor
