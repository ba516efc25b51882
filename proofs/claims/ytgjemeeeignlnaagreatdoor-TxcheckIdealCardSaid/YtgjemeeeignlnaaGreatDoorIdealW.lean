/- The law TxcheckIdeal: its walk. In the ideal mode Check accepts exactly what the oracle has issued. -/
import Derived.Test.YtgjemeeeignlnaaGreatDoorMSt
namespace Go.Proofs.YtgjemeeeignlnaaGreatDoor
open Go.ChangeShapes Go.WideShapes Go.ChangeAt Go.RowKit Go.Sort

theorem wf_wrap8 (x : Int) : (Lit.int .u8 (x % 256)).wf = true := by
  simp [Lit.wf, IntKind.min, IntKind.max, IntKind.signed, IntKind.bits]; omega
set_option maxRecDepth 100000 in
set_option maxHeartbeats 4000000 in
theorem ideal_law (w : World) (m d bl bu qu rew win fin work : Int) (hd : d < 9223372036854775808) (t : TxM) (ma oa pa : Option Addr) (mc oc pc : Nat) (h : TxIn (fun k => k < w.heap.size) w t ma oa pa mc oc pc) (seed oth at' chg more : Int) (ho0 : 0 ≤ oth) (ho1 : oth < 256) (ha0 : 0 ≤ at') (ha1 : at' < 65536) :
    Calls Tryz.prog 3 #[.agg #[.int .i64 m, .int .i64 d, .int .i64 bl, .int .i64 bu, .int .i64 qu, .int .u64 rew, .int .i64 win, .int .i64 fin, .int .u64 work], .agg #[.int .u64 t.anchor, .slice ma t.marks.length mc, .slice oa t.outs.length oc, .int .u64 t.dep, .int .u64 t.wd, .int .u64 t.fee, .int .u64 t.acc, .int .u64 t.nonce, .int .i64 t.exp, .slice pa t.proof.length pc], .agg #[.int .u64 seed, .int .u8 oth, .int .u16 at', .int .u8 chg, .int .i64 more]] w fun e w' => e = .returned (.bool true) ∧ Below w.heap.size w w' := by
  have hbB := (bnew (bnew (bnew (Below.refl w.heap.size w) (.cells #[.int .i64 m, .int .i64 d, .int .i64 bl, .int .i64 bu, .int .i64 qu, .int .u64 rew, .int .i64 win, .int .i64 fin, .int .u64 work] 26)) (.cells #[.int .u64 t.anchor, .slice ma t.marks.length mc, .slice oa t.outs.length oc, .int .u64 t.dep, .int .u64 t.wd, .int .u64 t.fee, .int .u64 t.acc, .int .u64 t.nonce, .int .i64 t.exp, .slice pa t.proof.length pc] 31)) (.cells #[.int .u64 seed, .int .u8 oth, .int .u16 at', .int .u8 chg, .int .i64 more] 34))
  have HA0 := Lib.hid (three_new w (.cells #[.int .i64 m, .int .i64 d, .int .i64 bl, .int .i64 bu, .int .i64 qu, .int .u64 rew, .int .i64 win, .int .i64 fin, .int .u64 work] 26) (.cells #[.int .u64 t.anchor, .slice ma t.marks.length mc, .slice oa t.outs.length oc, .int .u64 t.dep, .int .u64 t.wd, .int .u64 t.fee, .int .u64 t.acc, .int .u64 t.nonce, .int .i64 t.exp, .slice pa t.proof.length pc] 31) (.cells #[.int .u64 seed, .int .u8 oth, .int .u16 at', .int .u8 chg, .int .i64 more] 34)).2.2
  have HA1 := Lib.hid (three_new w (.cells #[.int .i64 m, .int .i64 d, .int .i64 bl, .int .i64 bu, .int .i64 qu, .int .u64 rew, .int .i64 win, .int .i64 fin, .int .u64 work] 26) (.cells #[.int .u64 t.anchor, .slice ma t.marks.length mc, .slice oa t.outs.length oc, .int .u64 t.dep, .int .u64 t.wd, .int .u64 t.fee, .int .u64 t.acc, .int .u64 t.nonce, .int .i64 t.exp, .slice pa t.proof.length pc] 31) (.cells #[.int .u64 seed, .int .u8 oth, .int .u16 at', .int .u8 chg, .int .i64 more] 34)).2.1
  have HA2 := Lib.hid (three_new w (.cells #[.int .i64 m, .int .i64 d, .int .i64 bl, .int .i64 bu, .int .i64 qu, .int .u64 rew, .int .i64 win, .int .i64 fin, .int .u64 work] 26) (.cells #[.int .u64 t.anchor, .slice ma t.marks.length mc, .slice oa t.outs.length oc, .int .u64 t.dep, .int .u64 t.wd, .int .u64 t.fee, .int .u64 t.acc, .int .u64 t.nonce, .int .i64 t.exp, .slice pa t.proof.length pc] 31) (.cells #[.int .u64 seed, .int .u8 oth, .int .u16 at', .int .u8 chg, .int .i64 more] 34)).1
  have HBel := Lib.hid hbB
  have H := Lib.hid (h.keepB hbB)
  clear hbB h
  go_enter Tryz.func3, Tryz.ntmps3
  go_upto_region 1 with (fail)
  generalize ((w.alloc (.cells #[.int .i64 m, .int .i64 d, .int .i64 bl, .int .i64 bu, .int .i64 qu, .int .u64 rew, .int .i64 win, .int .i64 fin, .int .u64 work] 26)).alloc (.cells #[.int .u64 t.anchor, .slice ma t.marks.length mc, .slice oa t.outs.length oc, .int .u64 t.dep, .int .u64 t.wd, .int .u64 t.fee, .int .u64 t.acc, .int .u64 t.nonce, .int .i64 t.exp, .slice pa t.proof.length pc] 31)).alloc (.cells #[.int .u64 seed, .int .u8 oth, .int .u16 at', .int .u8 chg, .int .i64 more] 34) = W at *
  obtain ⟨x0, x1⟩ := box_cells HA0.out
  obtain ⟨y0, y1⟩ := box_cells HA1.out
  obtain ⟨z0, z1⟩ := box_cells HA2.out
  go_wp2_with fail
  refine (awake_any W).mono ?_
  rintro e w1 ⟨rfl, hb1⟩
  clear x0 x1 y0 y1 z0 z1
  obtain ⟨x0, x1⟩ := box_cells (box_after hb1 HA0.out)
  obtain ⟨y0, y1⟩ := box_cells (box_after hb1 HA1.out)
  obtain ⟨z0, z1⟩ := box_cells (box_after hb1 HA2.out)
  go_wp2_with fail
  refine (small_any _ w1 t ma oa pa mc oc pc 1200 (H.out.keepB hb1)).mono ?_
  rintro e w2 ⟨rfl, hb2⟩
  have hb2d := bnext hb1 hb2
  clear x0 x1 y0 y1 z0 z1
  obtain ⟨x0, x1⟩ := box_cells (box_after hb2d HA0.out)
  obtain ⟨y0, y1⟩ := box_cells (box_after hb2d HA1.out)
  obtain ⟨z0, z1⟩ := box_cells (box_after hb2d HA2.out)
  cases hs : smallB t 1200 with
  | false =>
    go_wp2_with fail
    refine (awake_any _).mono ?_
    rintro e wf ⟨rfl, hbf⟩
    go_wp2_with fail
    go_ret
    exact ⟨rfl, bnext HBel.out (bnext hb2d hbf)⟩
  | true =>
    clear hs
    by_cases hm0 : more < -100
    · go_wp2_with fail
      refine (awake_any _).mono ?_
      rintro e wf ⟨rfl, hbf⟩
      go_wp2_with fail
      go_ret
      exact ⟨rfl, bnext HBel.out (bnext hb2d hbf)⟩
    · by_cases hm1 : 100 < more
      · go_wp2_with fail
        refine (awake_any _).mono ?_
        rintro e wf ⟨rfl, hbf⟩
        go_wp2_with fail
        go_ret
        exact ⟨rfl, bnext HBel.out (bnext hb2d hbf)⟩
      · go_upto_region 4 with (fail)
        have hk3 : ∀ (S : Nat → Prop), ¬ S w.heap.size → Kept S w2 (w2.setCell ⟨w.heap.size, 0, none⟩ (.int .i64 3)) := fun S hq => (Kept.refl S w2).setCell (fun _ => hq) _
        have HR3 : Hid ((w2.setCell ⟨w.heap.size, 0, none⟩ (.int .i64 3)).heap[w.heap.size]? = some (.cells #[.int .i64 3, .int .i64 d, .int .i64 bl, .int .i64 bu, .int .i64 qu, .int .u64 rew, .int .i64 win, .int .i64 fin, .int .u64 work] 26 (0, 0))) := box_set (box_after hb2d HA0.out)
        have HT3 := Lib.hid (box_kept (hk3 (fun k => k = w.heap.size + 1) (fun h => by have h' : w.heap.size = w.heap.size + 1 := h; omega)) (box_after hb2d HA1.out) rfl)
        have HI3 := Lib.hid (box_kept (hk3 (fun k => k = w.heap.size + 2) (fun h => by have h' : w.heap.size = w.heap.size + 2 := h; omega)) (box_after hb2d HA2.out) rfl)
        have HB3 := Lib.hid (Kept.behind (bnext HBel.out hb2d) (hk3 (fun k => k < w.heap.size) (fun h => Nat.lt_irrefl _ h)) (Nat.le_trans HBel.out.size hb2d.size) (fun _ h => h))
        have H3 := Lib.hid ((H.out.keepB hb2d).keep (hk3 (fun k => k < w.heap.size) (fun h => Nat.lt_irrefl _ h)))
        clear hk3 x0 x1 y0 y1 z0 z1 hb1 hb2 hb2d HA0 HA1 HA2 H HBel
        generalize w2.setCell ⟨w.heap.size, 0, none⟩ (.int .i64 3) = w3 at *
        obtain ⟨G, hG⟩ : ∃ G, w.heap.size = G := ⟨_, rfl⟩
        have HGW := Lib.hid hG
        rw [hG] at HR3 HT3 HI3 HB3 H3 ⊢
        clear hG
        go_cut [7, 8] from 33 (fun v7 v8 wc => ∃ p mk ms mp q, v7 = .pointer (some ⟨p, 0, none⟩) ∧ v8 = .pointer (some ⟨q, 0, none⟩) ∧ w3.heap.size ≤ p ∧ w3.heap.size ≤ mp ∧ w3.heap.size ≤ q ∧ p ≠ q ∧ mp ≠ q ∧ Hid (OrX seed 0 none p mk ms mp wc) ∧ Hid (wc.heap[q]? = some (.cells #[.bool true, .int .u64 seed, .int .i64 0, .slice none 0 0, .slice none 0 0, .slice none 0 0] 44 (0, 0))) ∧ Below w3.heap.size w3 wc)
        case first =>
          go_region_held3 (fun w' => Below w3.heap.size w3 w' ∧ (∀ o, w'.cell? ⟨G + 2, o, none⟩ = (#[.int .u64 seed, .int .u8 oth, .int .u16 at', .int .u8 chg, .int .i64 more] : Array Value)[o]?))
            (first
              | with_reducible exact LiK.drew (LiK.of HI3.out (Below.refl _ _))
              | with_reducible exact HK1.out
              | with_reducible exact LiK.of HI3.out (bnew HK1.out.1 _)
              | with_reducible exact LiK.drew (LiK.of HI3.out (bnew (Below.refl _ _) _))
              | exact LiK.of HI3.out (below_cells HK1.out.1 hqq [.bool true, .int .u64 seed, .int .i64 0, .slice none 0 0, .slice none 0 0, .slice none 0 0] 0 HK1.out.1.size))
            (first
              | (go_at_call 6; refine (idealX_any _ seed).mono ?_; rintro e w4 ⟨p, mk, ms, mp, rfl, hp1, hp2, hor, hb4⟩
                 have HK1 := Lib.hid (LiK.of HI3.out (bnext (‹Below w3.heap.size w3 _ ∧ _› : LiK #[.int .u64 seed, .int .u8 oth, .int .u16 at', .int .u8 chg, .int .i64 more] (G + 2) w3 _).1 hb4))
                 first
                   | (have hqA : w4.heap[w3.heap.size]? = some (.cells #[.bool false, .int .u64 0, .int .i64 0, .slice none 0 0, .slice none 0 0, .slice none 0 0] 44 (0, 0)) := box_after hb4 (box_new w3 (.cells #[.bool false, .int .u64 0, .int .i64 0, .slice none 0 0, .slice none 0 0, .slice none 0 0] 44)); obtain ⟨k0, k1⟩ := box_cells hqA; have HQ := Lib.hid hqA; clear hqA; have hqq : w3.heap.size ≤ w3.heap.size := Nat.le_refl _)
                   | have hzA := HK1.out.1.size))
          · have hlt := hor.lt
            have HOF := Lib.hid (hor.keepB (bnew (Below.refl _ _) (.cells #[.bool true, .int .u64 seed, .int .i64 0, .slice none 0 0, .slice none 0 0, .slice none 0 0] 44)))
            have HQF := Lib.hid (box_new w4 (.cells #[.bool true, .int .u64 seed, .int .i64 0, .slice none 0 0, .slice none 0 0, .slice none 0 0] 44))
            have HBF := Lib.hid (bnew HK1.out.1 (.cells #[.bool true, .int .u64 seed, .int .i64 0, .slice none 0 0, .slice none 0 0, .slice none 0 0] 44))
            go_wp2_with fail
            go_meet
            case rel => exact ⟨p, mk, ms, mp, w4.heap.size, rfl, rfl, hp1, hp2, hzA, Nat.ne_of_lt hlt.1, Nat.ne_of_lt hlt.2, HOF.out, HQF.out, HBF.out⟩
          · have hp1' : (w3.alloc (.cells #[.bool false, .int .u64 0, .int .i64 0, .slice none 0 0, .slice none 0 0, .slice none 0 0] 44)).heap.size ≤ p := hp1
            have hp2' : (w3.alloc (.cells #[.bool false, .int .u64 0, .int .i64 0, .slice none 0 0, .slice none 0 0, .slice none 0 0] 44)).heap.size ≤ mp := hp2
            rw [World.size_alloc] at hp1' hp2'
            have hkF := fun (S : Nat → Prop) (hq : ¬ S w3.heap.size) => kept6 w4 hq (.bool true) (.int .u64 seed) (.int .i64 0) (.slice none 0 0) (.slice none 0 0) (.slice none 0 0)
            have HQF : Hid (((((((w4.setCell ⟨w3.heap.size, 0, none⟩ (.bool true)).setCell ⟨w3.heap.size, 1, none⟩ (.int .u64 seed)).setCell ⟨w3.heap.size, 2, none⟩ (.int .i64 0)).setCell ⟨w3.heap.size, 3, none⟩ (.slice none 0 0)).setCell ⟨w3.heap.size, 4, none⟩ (.slice none 0 0)).setCell ⟨w3.heap.size, 5, none⟩ (.slice none 0 0)).heap[w3.heap.size]? = some (.cells #[.bool true, .int .u64 seed, .int .i64 0, .slice none 0 0, .slice none 0 0, .slice none 0 0] 44 (0, 0))) := put6 HQ.out
            have HOF := Lib.hid (hor.keep (hkF (fun k => k ≠ w3.heap.size) (fun h => h rfl)) (by omega) (by omega))
            have HBF := Lib.hid (Kept.behind HK1.out.1 (hkF (fun k => k < w3.heap.size) (Nat.lt_irrefl _)) HK1.out.1.size (fun _ h => h))
            clear hkF hor
            go_wp2_with fail
            go_meet
            case rel => exact ⟨p, mk, ms, mp, w3.heap.size, rfl, rfl, by omega, by omega, Nat.le_refl _, by omega, by omega, HOF.out, HQF.out, HBF.out⟩
        case rest =>
          obtain ⟨p, mk, ms, mp, q, rfl, rfl, hp, hmp, hq, hpq, hmq, hor, hpq6, hbc⟩ := hcut
          obtain ⟨wa, hwa⟩ : ∃ x, x = wc := ⟨wc, rfl⟩
          subst hwa
          have hG3 := box_lt HI3.out
          have HLA : Hid (LaAt #[.int .i64 3, .int .i64 d, .int .i64 bl, .int .i64 bu, .int .i64 qu, .int .u64 rew, .int .i64 win, .int .i64 fin, .int .u64 work] #[.int .u64 t.anchor, .slice ma t.marks.length mc, .slice oa t.outs.length oc, .int .u64 t.dep, .int .u64 t.wd, .int .u64 t.fee, .int .u64 t.acc, .int .u64 t.nonce, .int .i64 t.exp, .slice pa t.proof.length pc] #[.int .u64 seed, .int .u8 oth, .int .u16 at', .int .u8 chg, .int .i64 more] #[.bool true, .int .u64 seed, .int .i64 0, .slice none 0 0, .slice none 0 0, .slice none 0 0] G q w wa) := ⟨box_after hbc HR3.out, box_after hbc HT3.out, box_after hbc HI3.out, hpq6.out, HB3.out.trans (hbc.mono (show G ≤ w3.heap.size by omega))⟩
          have H4 := Lib.hid (H3.out.keepB hbc)
          have HLT4 := Lib.hid hor.out.lt
          have HQL4 := Lib.hid (box_lt hpq6.out)
          have hGp : G + 2 < p := by omega
          have hGmp : G + 2 < mp := by omega
          have hGq : G + 2 < q := by omega
          clear HR3 HT3 HI3 HB3 H3 hbc hp hmp hq hG3 hpq6
          obtain ⟨x0, x1⟩ := box_cells HLA.out.rules
          obtain ⟨y0, y1⟩ := box_cells HLA.out.tx
          obtain ⟨z0, z1⟩ := box_cells HLA.out.iss
          have hwo : IntKind.u64.wrap oth = oth := by rw [IntKind.wrap_u64]; omega
          go_wp2_with fail
          refine (rSt_any _ wa t ma oa pa mc oc pc H4.out d).mono ?_
          rintro e w5 ⟨s, sa, sb, sc, sd, se, sf, HSE, rfl, hsi, hb5⟩
          have HWS := Lib.hid hb5.size
          have hsml := rstM_small d t
          have hsdp := rstM_depth d t hd
          rw [HSE.out] at hsml hsdp
          obtain ⟨fe, hfe⟩ : ∃ fe, IntKind.u64.wrap (s.fee + oth) = fe := ⟨_, rfl⟩
          have hfe2 := wrapU_in (s.fee + oth)
          rw [hfe] at hfe2
          have hs2 : StIn (fun k => k < G ∨ wa.heap.size ≤ k) w5 ⟨s.depth, s.anchor, s.marks, s.commits, s.rhos, s.dep, s.wd, fe, s.acc, s.bind⟩ sa sb sc sd se sf := ⟨hsi.anchor, hsi.dep, hsi.wd, okU_of hfe2.1 hfe2.2, hsi.acc, hsi.bind, hsi.marks, hsi.commits, hsi.rhos⟩
          clear x0 x1 y0 y1 z0 z1 hsi
          have hb6 := bnew hb5 (.cells #[.int .i64 s.depth, .int .u64 s.anchor, .slice sa s.marks.length sd, .slice sb s.commits.length se, .slice sc s.rhos.length sf, .int .u64 s.dep, .int .u64 s.wd, .int .u64 s.fee, .int .u64 s.acc, .int .u64 s.bind] 46)
          obtain ⟨z0, z1⟩ := box_cells (box_after hb6 HLA.out.iss)
          go_upto_region 9 with (fail)
          clear hb6 z0 z1
          have HS2 := Lib.hid (hs2.keepB (bnew (Below.refl _ _) (.cells #[.int .i64 s.depth, .int .u64 s.anchor, .slice sa s.marks.length sd, .slice sb s.commits.length se, .slice sc s.rhos.length sf, .int .u64 s.dep, .int .u64 s.wd, .int .u64 fe, .int .u64 s.acc, .int .u64 s.bind] 46)))
          have HR6 := Lib.hid (box_new w5 (.cells #[.int .i64 s.depth, .int .u64 s.anchor, .slice sa s.marks.length sd, .slice sb s.commits.length se, .slice sc s.rhos.length sf, .int .u64 s.dep, .int .u64 s.wd, .int .u64 fe, .int .u64 s.acc, .int .u64 s.bind] 46))
          have HB6 := Lib.hid (bnew hb5 (.cells #[.int .i64 s.depth, .int .u64 s.anchor, .slice sa s.marks.length sd, .slice sb s.commits.length se, .slice sc s.rhos.length sf, .int .u64 s.dep, .int .u64 s.wd, .int .u64 fe, .int .u64 s.acc, .int .u64 s.bind] 46))
          clear hs2 hfe hfe2 hb5 HSE
          generalize w5.alloc (.cells #[.int .i64 s.depth, .int .u64 s.anchor, .slice sa s.marks.length sd, .slice sb s.commits.length se, .slice sc s.rhos.length sf, .int .u64 s.dep, .int .u64 s.wd, .int .u64 fe, .int .u64 s.acc, .int .u64 s.bind] 46) = w6 at *
          obtain ⟨r, hr⟩ : ∃ r, w5.heap.size = r := ⟨_, rfl⟩
          rw [hr] at HR6 ⊢
          have hrc : wa.heap.size ≤ r := by rw [← hr]; exact HWS.out
          clear hr
          obtain ⟨s2, hs2⟩ : ∃ s2 : StM, (⟨s.depth, s.anchor, s.marks, s.commits, s.rhos, s.dep, s.wd, fe, s.acc, s.bind⟩ : StM) = s2 := ⟨_, rfl⟩
          have q1 : s.depth = s2.depth := by rw [← hs2]
          have q2 : s.anchor = s2.anchor := by rw [← hs2]
          have q3 : s.marks = s2.marks := by rw [← hs2]
          have q4 : s.commits = s2.commits := by rw [← hs2]
          have q5 : s.rhos = s2.rhos := by rw [← hs2]
          have q6 : s.dep = s2.dep := by rw [← hs2]
          have q7 : s.wd = s2.wd := by rw [← hs2]
          have q8 : fe = s2.fee := by rw [← hs2]
          have q9 : s.acc = s2.acc := by rw [← hs2]
          have q10 : s.bind = s2.bind := by rw [← hs2]
          rw [hs2] at HS2
          rw [q1, q2, q3, q4, q5, q6, q7, q8, q9, q10] at HR6 ⊢
          rw [q3, q4, q5] at hsml
          rw [q1] at hsdp
          clear q1 q2 q3 q4 q5 q6 q7 q8 q9 q10 hs2
          obtain ⟨Z, hZ⟩ : ∃ Z : Int, 64 + 32 * ((s2.marks.length + s2.commits.length : Nat) : Int) = Z := ⟨_, rfl⟩
          obtain ⟨Z8, hZ8⟩ : ∃ Z8 : Int, Z.tdiv 8 = Z8 := ⟨_, rfl⟩
          have hZ0 : 0 ≤ Z8 ∧ Z8 ≤ 200 := by
            rw [← hZ8, Int.tdiv_eq_ediv_of_nonneg (by omega)]; omega
          have y0 := box_regrown HR6.out
          have z0 := box_regrown (HLA.out.keepB HB6.out).iss
          have hc : ∀ (dd : Nat) (os : Array Obj), Calls Tryz.prog 8 #[.agg #[.int .i64 s2.depth, .int .u64 s2.anchor, .slice sa s2.marks.length sd, .slice sb s2.commits.length se, .slice sc s2.rhos.length sf, .int .u64 s2.dep, .int .u64 s2.wd, .int .u64 s2.fee, .int .u64 s2.acc, .int .u64 s2.bind]] (grow (redrawn w6 dd) os) fun e w' => e = .returned (.int .i64 Z) ∧ Below (grow (redrawn w6 dd) os).heap.size (grow (redrawn w6 dd) os) w' := fun dd os => rsize_any _ _ _ _ _ _ _ _ _ _ _ _ _ _ _ _ _ (by omega) Z hZ
          clear hZ
          refine wp_region_quiet_below (by kernel_rfl) (by kernel_rfl) ?_
          repeat (first | go_big_quiet_step (exact Calls.regrown_of (hc _ _)) | quiet_step (exact Calls.regrown_of (hc _ _)))
          refine wpQuiet_nil ?_
          intro wq hw'
          obtain ⟨⟨dq, osq⟩, hw''⟩ := hw'
          have hbwq := below_regrown w6 dq osq
          rw [← hw''] at hbwq
          clear hw'' y0 z0 hc
          go_upto_region 10 with (fail)
          obtain ⟨N, hN⟩ : ∃ N : Int, Z8 + more = N := ⟨_, rfl⟩
          have hN1 : N ≤ 1000 := by omega
          have HS7 := Lib.hid (HS2.out.keepB hbwq)
          have HB7 := Lib.hid (bnext HB6.out hbwq)
          have HR7 := Lib.hid (box_after hbwq HR6.out)
          clear HS2 HB6 HR6 hbwq hZ8 hZ0
          obtain ⟨y0, y1⟩ := box_cells HR7.out
          go_wp2_with fail
          refine (rdigest_any (fun k => k < G ∨ wa.heap.size ≤ k) wq s2 sa sb sc sd se sf HS7.out (by omega) (by omega) (by omega) hsdp).mono ?_
          rintro e w7 ⟨rfl, hb7⟩
          have hdg := hashS_ok 24 ((digestL s2).map redP)
          obtain ⟨dg, hdge⟩ : ∃ dg, hashS 24 ((digestL s2).map redP) = dg := ⟨_, rfl⟩
          have HDG := Lib.hid hdge
          rw [hdge] at hdg ⊢
          have HDK := Lib.hid hdg
          clear hdge hdg y0 y1
          have hb7d := bnext HB7.out hb7
          have HO7 := Lib.hid (hor.out.keepB hb7d)
          go_wp2_with fail
          try rw [hN]
          clear hN
          refine (proveZ_any w7 seed p mk ms mp HO7.out dg HDK.out N hN1).mono ?_
          rintro e w8 ⟨rp, L, len, a8, c8, st8, n8, HP8, hlen, HLE, rfl, hr8, ho8, hk8⟩
          have hc7 : wa.heap.size ≤ w7.heap.size := hb7d.size
          have hlt4 := HLT4.out
          have hql4 := HQL4.out
          have HN8 := Lib.hid hr8
          have HO8 := Lib.hid ho8
          have HR8 := Lib.hid (box_kept hk8 (box_after hb7 HR7.out) (by constructor <;> omega))
          have HS8 := Lib.hid ((HS7.out.keepB hb7).keep (hk8.mono fun k _ hS => by rcases (show k < G ∨ wa.heap.size ≤ k from hS) with h | h <;> constructor <;> omega))
          have HLA8 := Lib.hid ((HLA.out.keepB hb7d).keep hk8 (fun k hk => by constructor <;> omega) ⟨Ne.symm hpq, Ne.symm hmq⟩)
          have H8 := Lib.hid ((H4.out.keepB hb7d).keep (hk8.mono fun k _ hS => by have h' : k < G := hS; constructor <;> omega))
          have HW8 := Lib.hid (Nat.le_trans hc7 hk8.size)
          clear HS7 HB7 HR7 hb7 hb7d HO7 hr8 ho8 hk8 HLA H4 hor
          go_upto_region 11 with (fail)
          go_cut [12, 13] from 64 (fun v12 v13 wz => ∃ y rp9 L9 len9 a9 c9 st9 n9 qa ql qc, v12 = .slice a9 len9 c9 ∧ v13 = .pointer (some ⟨y, 0, none⟩) ∧ Hid ((N < 0 → rp9 = none ∧ L9 = [] ∧ st9 = seed ∧ n9 = 0) ∧ (0 ≤ N → rp9 = some (dg, drawsL seed N.toNat) ∧ L9 = drawsL seed N.toNat ∧ st9 = stN seed N.toNat ∧ n9 = N)) ∧ len9 ≤ 1000 ∧ Hid (L9.length = len9) ∧
              numsR.rel (fun k => w8.heap.size ≤ k) wz [.slice a9 len9 c9] L9 ∧ RpIn (fun k => w8.heap.size ≤ k) wz rp9 qa ql qc ∧ wz.heap[y]? = some (.cells #[.int .u64 st9, .int .i64 n9, .slice none 0 0, .slice none 0 0, .slice qa ql qc] 42 (0, 0)) ∧ Below w8.heap.size w8 wz)
          case first =>
            go_region_held3 (fun w' => Below w8.heap.size w8 w' ∧ (∀ o, w'.cell? ⟨q, o, none⟩ = (#[.bool true, .int .u64 seed, .int .i64 0, .slice none 0 0, .slice none 0 0, .slice none 0 0] : Array Value)[o]?) ∧ (∀ o, w'.cell? ⟨r, o, none⟩ = (#[.int .i64 s2.depth, .int .u64 s2.anchor, .slice sa s2.marks.length sd, .slice sb s2.commits.length se, .slice sc s2.rhos.length sf, .int .u64 s2.dep, .int .u64 s2.wd, .int .u64 s2.fee, .int .u64 s2.acc, .int .u64 s2.bind] : Array Value)[o]?))
              (first
                | with_reducible exact PaK.drew (PaK.of HLA8.out.place HR8.out (Below.refl _ _))
                | with_reducible exact HK1.out
                | with_reducible exact HK2.out
                | with_reducible exact PaK.of HLA8.out.place HR8.out (bnew HK2.out.1 _)
                | with_reducible exact PaK.of HLA8.out.place HR8.out (bnew HK1.out.1 _)
                | with_reducible exact PaK.drew (PaK.of HLA8.out.place HR8.out (bnew (Below.refl _ _) _))
                | exact PaK.of HLA8.out.place HR8.out (below_cells HK2.out.1 hqq [.int .u64 st9, .int .i64 n9, .slice none 0 0, .slice none 0 0, .slice qa ql qc] 0 HK2.out.1.size))
              (first
                | (go_at_call 10; refine (rdigest_any (fun k => k < G ∨ wa.heap.size ≤ k) _ s2 sa sb sc sd se sf (HS8.out.keepB (‹Below w8.heap.size w8 _ ∧ _› : PaK #[.bool true, .int .u64 seed, .int .i64 0, .slice none 0 0, .slice none 0 0, .slice none 0 0] #[.int .i64 s2.depth, .int .u64 s2.anchor, .slice sa s2.marks.length sd, .slice sb s2.commits.length se, .slice sc s2.rhos.length sf, .int .u64 s2.dep, .int .u64 s2.wd, .int .u64 s2.fee, .int .u64 s2.acc, .int .u64 s2.bind] q r w8 _).1) (by omega) (by omega) (by omega) hsdp).mono ?_; rintro e w9 ⟨rfl, hb9⟩
                   rw [HDG.out]
                   have HK1 := Lib.hid (PaK.of HLA8.out.place HR8.out (bnext (‹Below w8.heap.size w8 _ ∧ _› : PaK #[.bool true, .int .u64 seed, .int .i64 0, .slice none 0 0, .slice none 0 0, .slice none 0 0] #[.int .i64 s2.depth, .int .u64 s2.anchor, .slice sa s2.marks.length sd, .slice sb s2.commits.length se, .slice sc s2.rhos.length sf, .int .u64 s2.dep, .int .u64 s2.wd, .int .u64 s2.fee, .int .u64 s2.acc, .int .u64 s2.bind] q r w8 _).1 hb9)))
                | (go_at_call 11; refine (rproveZ_any _ seed dg HDK.out N hN1).mono ?_; rintro e w10 ⟨rp9, L9, len9, a9, c9, st9, n9, qa, ql, qc, HP10, hl9, HL9, rfl, hr9, hp9, hb10⟩
                   have HK2 := Lib.hid (PaK.of HLA8.out.place HR8.out (bnext (‹Below w8.heap.size w8 _ ∧ _› : PaK #[.bool true, .int .u64 seed, .int .i64 0, .slice none 0 0, .slice none 0 0, .slice none 0 0] #[.int .i64 s2.depth, .int .u64 s2.anchor, .slice sa s2.marks.length sd, .slice sb s2.commits.length se, .slice sc s2.rhos.length sf, .int .u64 s2.dep, .int .u64 s2.wd, .int .u64 s2.fee, .int .u64 s2.acc, .int .u64 s2.bind] q r w8 _).1 hb10))
                   have HN9 := Lib.hid hr9
                   have HP9 := Lib.hid hp9
                   clear hr9 hp9
                   first
                     | (have hqB : w9.heap[w8.heap.size]? = some (.cells #[.int .u64 0, .int .i64 0, .slice none 0 0, .slice none 0 0, .slice none 0 0] 42 (0, 0)) := box_after hb9 (box_new w8 (.cells #[.int .u64 0, .int .i64 0, .slice none 0 0, .slice none 0 0, .slice none 0 0] 42)); have hqA : w10.heap[w8.heap.size]? = some (.cells #[.int .u64 0, .int .i64 0, .slice none 0 0, .slice none 0 0, .slice none 0 0] 42 (0, 0)) := box_after hb10 hqB; obtain ⟨k0, k1⟩ := box_cells hqA; have HQ := Lib.hid hqA; have HQB := Lib.hid (box_lt hqB); clear hqA hqB; have hqq : w8.heap.size ≤ w8.heap.size := Nat.le_refl _)
                     | (have hqA : w10.heap[w9.heap.size]? = some (.cells #[.int .u64 0, .int .i64 0, .slice none 0 0, .slice none 0 0, .slice none 0 0] 42 (0, 0)) := box_after hb10 (box_new w9 (.cells #[.int .u64 0, .int .i64 0, .slice none 0 0, .slice none 0 0, .slice none 0 0] 42)); obtain ⟨k0, k1⟩ := box_cells hqA; have HQ := Lib.hid hqA; clear hqA; have hqq : w8.heap.size ≤ w9.heap.size := HK1.out.1.size)
                     | have hzA := HK2.out.1.size))
            · have HQF := Lib.hid (box_new w10 (.cells #[.int .u64 st9, .int .i64 n9, .slice none 0 0, .slice none 0 0, .slice qa ql qc] 42))
              have HNF := Lib.hid (numsR.keepB HN9.out (bnew (Below.refl _ _) (.cells #[.int .u64 st9, .int .i64 n9, .slice none 0 0, .slice none 0 0, .slice qa ql qc] 42)))
              have HPF := Lib.hid (RpIn.keepB HP9.out (bnew (Below.refl _ _) (.cells #[.int .u64 st9, .int .i64 n9, .slice none 0 0, .slice none 0 0, .slice qa ql qc] 42)))
              have HBF := Lib.hid (bnew HK2.out.1 (.cells #[.int .u64 st9, .int .i64 n9, .slice none 0 0, .slice none 0 0, .slice qa ql qc] 42))
              have hll : w8.heap.size ≤ w9.heap.size := HK1.out.1.size
              go_wp2_with fail
              go_meet
              case rel => exact ⟨w10.heap.size, rp9, L9, len9, a9, c9, st9, n9, qa, ql, qc, rfl, rfl, HP10, hl9, HL9, numsR.mono HNF.out fun k _ h => Nat.le_trans hll h, RpIn.mono HPF.out fun k _ h => Nat.le_trans hll h, HQF.out, HBF.out⟩
            · have hlw : w9.heap.size < _ := (show w9.heap.size < (w9.alloc (.cells #[.int .u64 0, .int .i64 0, .slice none 0 0, .slice none 0 0, .slice none 0 0] 42)).heap.size by rw [World.size_alloc]; omega)
              have hkF := fun (S : Nat → Prop) (hq : ¬ S w9.heap.size) => kept5 w10 hq (.int .u64 st9) (.int .i64 n9) (.slice none 0 0) (.slice none 0 0) (.slice qa ql qc)
              have HQF : Hid (((((((w10.setCell ⟨w9.heap.size, 0, none⟩ (.int .u64 st9)).setCell ⟨w9.heap.size, 1, none⟩ (.int .i64 n9)).setCell ⟨w9.heap.size, 2, none⟩ (.slice none 0 0)).setCell ⟨w9.heap.size, 3, none⟩ (.slice none 0 0)).setCell ⟨w9.heap.size, 4, none⟩ (.slice qa ql qc))).heap[w9.heap.size]? = some (.cells #[.int .u64 st9, .int .i64 n9, .slice none 0 0, .slice none 0 0, .slice qa ql qc] 42 (0, 0))) := put5 HQ.out
              have HNF := Lib.hid (numsR.keep HN9.out (hkF _ (Nat.not_le_of_lt hlw)))
              have HPF := Lib.hid (RpIn.keep HP9.out (hkF _ (Nat.not_le_of_lt hlw)))
              have HBF := Lib.hid (Kept.behind HK2.out.1 (hkF (fun k => k < w8.heap.size) (Nat.not_lt_of_le hqq)) HK2.out.1.size (fun _ h => h))
              have hll : w8.heap.size ≤ _ := Nat.le_trans hqq (Nat.le_of_lt hlw)
              clear hkF
              go_wp2_with fail
              go_meet
              case rel => exact ⟨w9.heap.size, rp9, L9, len9, a9, c9, st9, n9, qa, ql, qc, rfl, rfl, HP10, hl9, HL9, numsR.mono HNF.out fun k _ h => Nat.le_trans hll h, RpIn.mono HPF.out fun k _ h => Nat.le_trans hll h, HQF.out, HBF.out⟩
            · have hlw : w8.heap.size < _ := HQB.out
              have hkF := fun (S : Nat → Prop) (hq : ¬ S w8.heap.size) => kept5 w10 hq (.int .u64 st9) (.int .i64 n9) (.slice none 0 0) (.slice none 0 0) (.slice qa ql qc)
              have HQF : Hid (((((((w10.setCell ⟨w8.heap.size, 0, none⟩ (.int .u64 st9)).setCell ⟨w8.heap.size, 1, none⟩ (.int .i64 n9)).setCell ⟨w8.heap.size, 2, none⟩ (.slice none 0 0)).setCell ⟨w8.heap.size, 3, none⟩ (.slice none 0 0)).setCell ⟨w8.heap.size, 4, none⟩ (.slice qa ql qc))).heap[w8.heap.size]? = some (.cells #[.int .u64 st9, .int .i64 n9, .slice none 0 0, .slice none 0 0, .slice qa ql qc] 42 (0, 0))) := put5 HQ.out
              have HNF := Lib.hid (numsR.keep HN9.out (hkF _ (Nat.not_le_of_lt hlw)))
              have HPF := Lib.hid (RpIn.keep HP9.out (hkF _ (Nat.not_le_of_lt hlw)))
              have HBF := Lib.hid (Kept.behind HK2.out.1 (hkF (fun k => k < w8.heap.size) (Nat.not_lt_of_le hqq)) HK2.out.1.size (fun _ h => h))
              have hll : w8.heap.size ≤ _ := Nat.le_trans hqq (Nat.le_of_lt hlw)
              clear hkF
              go_wp2_with fail
              go_meet
              case rel => exact ⟨w8.heap.size, rp9, L9, len9, a9, c9, st9, n9, qa, ql, qc, rfl, rfl, HP10, hl9, HL9, numsR.mono HNF.out fun k _ h => Nat.le_trans hll h, RpIn.mono HPF.out fun k _ h => Nat.le_trans hll h, HQF.out, HBF.out⟩
          case rest =>
            obtain ⟨y, rp9, L9, len9, a9, c9, st9, n9, qa, ql, qc, rfl, rfl, HP9, hl9, HL9, hr9, hp9, hy, hbz⟩ := hcut
            obtain ⟨wz, hwz⟩ : ∃ x, x = wc := ⟨wc, rfl⟩
            subst hwz
            obtain ⟨e1, e2, e3, e4⟩ := proveZ_same HP8.out HP9.out
            subst e1 e2 e3 e4
            have HRP := Lib.hid (proveZ_ok HDK.out HP9.out)
            have HLAz := Lib.hid (HLA8.out.keepB hbz)
            have HOz := Lib.hid (HO8.out.keepB hbz)
            have HNz := Lib.hid (numsR.keepB HN8.out hbz)
            have HN9z := Lib.hid hr9
            have HPz := Lib.hid hp9
            have Hz := Lib.hid (H8.out.keepB hbz)
            have hqz := box_lt HLA8.out.place
            clear HLA8 HO8 HN8 H8 hr9 hp9 HR8 HS8 HP8 HP9 hbz
            obtain ⟨y0, y1⟩ := box_cells hy
            obtain ⟨z0, z1⟩ := box_cells HLAz.out.place
            clear hy
            go_upto_region 13 with (fail)
            have hk12 : ∀ (S : Nat → Prop), ¬ S q → Kept S wz (((((wz.setCell ⟨q, 1, none⟩ (.int .u64 st9)).setCell ⟨q, 2, none⟩ (.int .i64 n9)).setCell ⟨q, 3, none⟩ (.slice none 0 0)).setCell ⟨q, 4, none⟩ (.slice none 0 0)).setCell ⟨q, 5, none⟩ (.slice qa ql qc)) := fun S hS => kept51 wz hS _ _ _ _ _
            have hp12 : (((((wz.setCell ⟨q, 1, none⟩ (.int .u64 st9)).setCell ⟨q, 2, none⟩ (.int .i64 n9)).setCell ⟨q, 3, none⟩ (.slice none 0 0)).setCell ⟨q, 4, none⟩ (.slice none 0 0)).setCell ⟨q, 5, none⟩ (.slice qa ql qc)).heap[q]? = some (.cells #[.bool true, .int .u64 st9, .int .i64 n9, .slice none 0 0, .slice none 0 0, .slice qa ql qc] 44 (0, 0)) := put51 HLAz.out.place
            have HLA12 : Hid (LaAt #[.int .i64 3, .int .i64 d, .int .i64 bl, .int .i64 bu, .int .i64 qu, .int .u64 rew, .int .i64 win, .int .i64 fin, .int .u64 work] #[.int .u64 t.anchor, .slice ma t.marks.length mc, .slice oa t.outs.length oc, .int .u64 t.dep, .int .u64 t.wd, .int .u64 t.fee, .int .u64 t.acc, .int .u64 t.nonce, .int .i64 t.exp, .slice pa t.proof.length pc] #[.int .u64 seed, .int .u8 oth, .int .u16 at', .int .u8 chg, .int .i64 more] #[.bool true, .int .u64 st9, .int .i64 n9, .slice none 0 0, .slice none 0 0, .slice qa ql qc] G q w (((((wz.setCell ⟨q, 1, none⟩ (.int .u64 st9)).setCell ⟨q, 2, none⟩ (.int .i64 n9)).setCell ⟨q, 3, none⟩ (.slice none 0 0)).setCell ⟨q, 4, none⟩ (.slice none 0 0)).setCell ⟨q, 5, none⟩ (.slice qa ql qc))) := ⟨box_kept (hk12 (fun k => k ≠ q) (fun h => h rfl)) HLAz.out.rules (by omega), box_kept (hk12 (fun k => k ≠ q) (fun h => h rfl)) HLAz.out.tx (by omega), box_kept (hk12 (fun k => k ≠ q) (fun h => h rfl)) HLAz.out.iss (by omega), hp12, Kept.behind HLAz.out.below (hk12 (fun k => k < G) (by omega)) (by have := box_lt HLAz.out.rules; omega) (fun _ h => h)⟩
            have HO12 := Lib.hid (HOz.out.keep (hk12 (fun k => k ≠ q) (fun h => h rfl)) hpq hmq)
            have HN12 := Lib.hid (numsR.keep HNz.out (hk12 (fun k => w7.heap.size ≤ k) (by omega)))
            have hw8 := HW8.out
            have HM12 := Lib.hid (numsR.keep HN9z.out (hk12 (fun k => w8.heap.size ≤ k) (by omega)))
            have HP12 := Lib.hid (RpIn.keep HPz.out (hk12 (fun k => w8.heap.size ≤ k) (by omega)))
            have H12 := Lib.hid (Hz.out.keep (hk12 (fun k => k < G) (by omega)))
            clear hk12 hp12 HLAz HOz HNz HN9z HPz Hz y0 y1 z0 z1
            generalize (((((wz.setCell ⟨q, 1, none⟩ (.int .u64 st9)).setCell ⟨q, 2, none⟩ (.int .i64 n9)).setCell ⟨q, 3, none⟩ (.slice none 0 0)).setCell ⟨q, 4, none⟩ (.slice none 0 0)).setCell ⟨q, 5, none⟩ (.slice qa ql qc)) = w12 at *
            go_wp2_with fail
            refine (rsame_any _ _ w12 a8 a9 len len9 c8 c9 L9 L9 HLE.out HL9.out HN12.out HM12.out (by omega)).mono ?_
            rintro e w13 ⟨rfl, hb13⟩
            rw [decide_eq_true (rfl : L9 = L9)]
            have HLA13 := Lib.hid (HLA12.out.keepB hb13)
            have HO13 := Lib.hid (HO12.out.keepB hb13)
            have HP13 := Lib.hid (RpIn.bound (HP12.out.keepB hb13))
            have H13 := Lib.hid (H12.out.keepB hb13)
            go_wp2_with fail
            refine (rbytes42_any _ w13 a8 len c8 L9 HLE.out (numsR.keepB HN12.out hb13) (by omega)).mono ?_
            intro e w14 hg
            obtain ⟨a15, c15, rfl, ho15, -, hb14⟩ := hg.read
            clear hg
            obtain ⟨BL, hBL⟩ : ∃ BL, digsAll L9 = BL := ⟨_, rfl⟩
            have hbl : BL.length ≤ 8000 := by rw [← hBL, digsAll_len, HLE.out]; omega
            rw [hBL] at ho15 ⊢
            have HLA14 := Lib.hid (HLA13.out.keepB hb14)
            have HOW := Lib.hid ho15
            have hG13 := box_lt HLA13.out.iss
            have hq13 := box_lt HLA13.out.place
            have hp13 := HO13.out.lt
            obtain ⟨y0, y1⟩ := box_cells HLA14.out.tx
            clear hBL ho15
            go_upto_region 16 with (fail)
            have hk15 : ∀ (S : Nat → Prop), ¬ S (G + 1) → Kept S w14 (w14.setCell ⟨G + 1, 9, none⟩ (.slice a15 BL.length c15)) := fun S hS => (Kept.refl S w14).setCell (fun _ => hS) _
            have ht15 : (w14.setCell ⟨G + 1, 9, none⟩ (.slice a15 BL.length c15)).heap[G + 1]? = some (.cells #[.int .u64 t.anchor, .slice ma t.marks.length mc, .slice oa t.outs.length oc, .int .u64 t.dep, .int .u64 t.wd, .int .u64 t.fee, .int .u64 t.acc, .int .u64 t.nonce, .int .i64 t.exp, .slice a15 BL.length c15] 31 (0, 0)) := box_set HLA14.out.tx
            have HLA15 : Hid (LaAt #[.int .i64 3, .int .i64 d, .int .i64 bl, .int .i64 bu, .int .i64 qu, .int .u64 rew, .int .i64 win, .int .i64 fin, .int .u64 work] #[.int .u64 t.anchor, .slice ma t.marks.length mc, .slice oa t.outs.length oc, .int .u64 t.dep, .int .u64 t.wd, .int .u64 t.fee, .int .u64 t.acc, .int .u64 t.nonce, .int .i64 t.exp, .slice a15 BL.length c15] #[.int .u64 seed, .int .u8 oth, .int .u16 at', .int .u8 chg, .int .i64 more] #[.bool true, .int .u64 st9, .int .i64 n9, .slice none 0 0, .slice none 0 0, .slice qa ql qc] G q w (w14.setCell ⟨G + 1, 9, none⟩ (.slice a15 BL.length c15))) := ⟨box_kept (hk15 (fun k => k ≠ G + 1) (fun h => h rfl)) HLA14.out.rules (by omega), ht15, box_kept (hk15 (fun k => k ≠ G + 1) (fun h => h rfl)) HLA14.out.iss (by omega), box_kept (hk15 (fun k => k ≠ G + 1) (fun h => h rfl)) HLA14.out.place (by omega), Kept.behind HLA14.out.below (hk15 (fun k => k < G) (by omega)) (by have := box_lt HLA14.out.rules; omega) (fun _ h => h)⟩
            have HO15 := Lib.hid ((HO13.out.keepB hb14).keep (hk15 (fun k => k ≠ G + 1) (fun h => h rfl)) (by omega) (by omega))
            have HP15 := Lib.hid (RpIn.keep (HP13.out.keepB hb14) (hk15 (fun k => w8.heap.size ≤ k ∧ k < w13.heap.size) (fun h => by have h' : w8.heap.size ≤ G + 1 := h.1; omega)))
            have H15 := Lib.hid ((H13.out.keepB hb14).keep (hk15 (fun k => k < G) (by omega)))
            have HOW15 := Lib.hid (HOW.out.keep (hk15 (fun x => False ∨ w13.heap.size ≤ x) (fun h => by rcases (show False ∨ w13.heap.size ≤ G + 1 from h) with h | h; exact h; omega)))
            clear hk15 ht15 HLA14 HOW HLA13 HO13 HP13 H13 HLA12 HO12 HN12 HM12 HP12 H12 hb13 hb14 y0 y1
            generalize w14.setCell ⟨G + 1, 9, none⟩ (.slice a15 BL.length c15) = w15 at *
            obtain ⟨y0, y1⟩ := box_cells HLA15.out.tx
            go_upto_if 85 with (fail)
            go_cut [6] from 82 (fun v6 wv => v6 = .bool false ∧ ∃ P3 a3 c3, P3.length ≤ 8000 ∧ Hid (LaAt #[.int .i64 3, .int .i64 d, .int .i64 bl, .int .i64 bu, .int .i64 qu, .int .u64 rew, .int .i64 win, .int .i64 fin, .int .u64 work] #[.int .u64 t.anchor, .slice ma t.marks.length mc, .slice oa t.outs.length oc, .int .u64 t.dep, .int .u64 t.wd, .int .u64 t.fee, .int .u64 t.acc, .int .u64 t.nonce, .int .i64 t.exp, .slice a3 P3.length c3] #[.int .u64 seed, .int .u8 oth, .int .u16 at', .int .u8 chg, .int .i64 more] #[.bool true, .int .u64 st9, .int .i64 n9, .slice none 0 0, .slice none 0 0, .slice qa ql qc] G q w wv) ∧ Hid (OrX st9 n9 (keyO rp9) p mk ms mp wv) ∧ Hid (RpIn (fun k => w8.heap.size ≤ k ∧ k < w13.heap.size) wv rp9 qa ql qc) ∧ Hid (TxIn (fun k => k < G) wv t ma oa pa mc oc pc) ∧ Hid (bytesR.rel (fun _ => True) wv [.slice a3 P3.length c3] P3))
            case first =>
              by_cases hz : BL.length = 0
              · have hz1 : ¬ (0 : Int) < BL.length := by omega
                clear hz
                go_wp2_with fail
                go_meet
                case rel => exact ⟨rfl, BL, a15, c15, hbl, HLA15, HO15, HP15, H15, bytesR.mono HOW15.out.slice fun _ _ _ => trivial⟩
              · have hz1 : (0 : Int) < BL.length := by omega
                obtain ⟨A, hA⟩ := Int.eq_ofNat_of_zero_le ha0
                obtain ⟨i, hi⟩ : ∃ i, A % BL.length = i := ⟨_, rfl⟩
                have hilt : i < BL.length := by rw [← hi]; exact Nat.mod_lt _ (by omega)
                have him : at'.tmod (BL.length : Int) = (i : Int) := by rw [hA, Int.tmod_eq_emod_of_nonneg (by omega), ← hi]; rfl
                obtain ⟨g, cap, he, -, -, hgl, hgB, hgc, hgf, hset⟩ := HOW15.out.setInt i hilt
                simp only [Value.slice.injEq] at he
                obtain ⟨rfl, -, rfl⟩ := he
                obtain ⟨z0, z1⟩ := box_cells HLA15.out.iss
                obtain ⟨x, hx⟩ : ∃ x, BL[i] = x := ⟨_, rfl⟩
                rw [hx] at hgc
                have hw8 : (Lit.int .u8 ((x + chg) % 256)).wf = true := wf_wrap8 _
                obtain ⟨hs1, hs2⟩ := hset ((x + chg) % 256) hw8
                have HS1 := Lib.hid hs1
                have HS2' := Lib.hid hs2
                have HSL := Lib.hid (show (BL.set i ((x + chg) % 256)).length = BL.length from List.length_set)
                have hi0 : (0 : Int) ≤ (i : Int) := by omega
                have hi1 : (i : Int) < (BL.length : Int) := by omega
                have hwa : IntKind.i64.wrap at' = at' := by rw [IntKind.wrap_i64]; omega
                clear hA hi hset hs1 hs2 hx hz hw8
                go_wp2_with fail
                go_region
                have hkD := HS2'.out.drew
                have hoD := Own.keepB HS1.out ((Below.refl _ _).drew)
                have hgg : w13.heap.size ≤ g := hgB
                have HLAF : Hid (LaAt #[.int .i64 3, .int .i64 d, .int .i64 bl, .int .i64 bu, .int .i64 qu, .int .u64 rew, .int .i64 win, .int .i64 fin, .int .u64 work] #[.int .u64 t.anchor, .slice ma t.marks.length mc, .slice oa t.outs.length oc, .int .u64 t.dep, .int .u64 t.wd, .int .u64 t.fee, .int .u64 t.acc, .int .u64 t.nonce, .int .i64 t.exp, .slice (some ⟨g, 0, none⟩) (BL.set i ((x + chg) % 256)).length c15] #[.int .u64 seed, .int .u8 oth, .int .u16 at', .int .u8 chg, .int .i64 more] #[.bool true, .int .u64 st9, .int .i64 n9, .slice none 0 0, .slice none 0 0, .slice qa ql qc] G q w (w15.setCell ⟨g, i, none⟩ (.int .u8 ((x + chg) % 256))).drew) := by
                  have := HLA15.out.keep hkD (fun k hk => by omega) (by omega)
                  rw [← HSL.out] at this
                  exact this
                have HOF := Lib.hid (HO15.out.keep hkD (by omega) (by omega))
                have HPF := Lib.hid (RpIn.keep HP15.out (hkD.mono fun k _ h => by have := h.2; omega))
                have HTF := Lib.hid (H15.out.keep (hkD.mono fun k _ h => by have h' : k < G := h; omega))
                have HBF := Lib.hid (bytesR.mono hoD.slice (S' := fun _ => True) fun _ _ _ => trivial)
                have hlF : (BL.set i ((x + chg) % 256)).length ≤ 8000 := by rw [HSL.out]; exact hbl
                clear hkD hoD HS1 HS2' HLA15 HO15 HP15 H15 HOW15
                go_wp2_with fail
                go_meet
                case rel => exact ⟨rfl, BL.set i ((x + chg) % 256), some ⟨g, 0, none⟩, c15, hlF, HLAF, HOF, HPF, HTF, by rw [HSL.out]; exact HBF⟩
            case rest =>
              obtain ⟨rfl, P3, a3, c3, hP3, HLA, HO, HP, HT, HBy⟩ := hcut
              obtain ⟨wv, hwv⟩ : ∃ x, x = wc := ⟨wc, rfl⟩
              subst hwv
              have ht3 : TxIn (fun _ => True) wv ⟨t.anchor, t.marks, t.outs, t.dep, t.wd, t.fee, t.acc, t.nonce, t.exp, P3⟩ ma oa a3 mc oc c3 := ⟨HT.out.anchor, HT.out.dep, HT.out.wd, HT.out.fee, HT.out.acc, HT.out.nonce, HT.out.exp, numsR.mono HT.out.marks fun _ _ _ => trivial, outsR.mono HT.out.outs fun _ _ _ => trivial, HBy.out⟩
              obtain ⟨t3, ht3e⟩ : ∃ t3 : TxM, (⟨t.anchor, t.marks, t.outs, t.dep, t.wd, t.fee, t.acc, t.nonce, t.exp, P3⟩ : TxM) = t3 := ⟨_, rfl⟩
              have q1 : t.anchor = t3.anchor := by rw [← ht3e]
              have q2 : t.marks = t3.marks := by rw [← ht3e]
              have q3 : t.outs = t3.outs := by rw [← ht3e]
              have q4 : t.dep = t3.dep := by rw [← ht3e]
              have q5 : t.wd = t3.wd := by rw [← ht3e]
              have q6 : t.fee = t3.fee := by rw [← ht3e]
              have q7 : t.acc = t3.acc := by rw [← ht3e]
              have q8 : t.nonce = t3.nonce := by rw [← ht3e]
              have q9 : t.exp = t3.exp := by rw [← ht3e]
              have q10 : P3 = t3.proof := by rw [← ht3e]
              rw [ht3e] at ht3
              rw [q1, q2, q3, q4, q5, q6, q7, q8, q9, q10] at HLA
              rw [q1, q2, q3, q4, q5, q6, q7, q8, q9]
              have hp3 : t3.proof.length ≤ 1000000 := by rw [← q10]; omega
              have HEQ := Lib.hid (checkI_checkR ht3 rp9 HRP.out d bl bu qu rew win fin work)
              have HT3 := Lib.hid ht3
              clear q1 q2 q3 q4 q5 q6 q7 q8 q9 q10 ht3e ht3 HT HBy hP3 y0 y1
              go_upto_region 18 with (fail)
              go_region_held3 (fun w' => Below wv.heap.size wv w' ∧ (∀ o, w'.cell? ⟨G, o, none⟩ = (#[.int .i64 3, .int .i64 d, .int .i64 bl, .int .i64 bu, .int .i64 qu, .int .u64 rew, .int .i64 win, .int .i64 fin, .int .u64 work] : Array Value)[o]?) ∧ (∀ o, w'.cell? ⟨G + 1, o, none⟩ = (#[.int .u64 t3.anchor, .slice ma t3.marks.length mc, .slice oa t3.outs.length oc, .int .u64 t3.dep, .int .u64 t3.wd, .int .u64 t3.fee, .int .u64 t3.acc, .int .u64 t3.nonce, .int .i64 t3.exp, .slice a3 t3.proof.length c3] : Array Value)[o]?) ∧ (∀ o, w'.cell? ⟨q, o, none⟩ = (#[.bool true, .int .u64 st9, .int .i64 n9, .slice none 0 0, .slice none 0 0, .slice qa ql qc] : Array Value)[o]?))
                (first
                  | with_reducible exact TrK.drew (TrK.of HLA.out.rules HLA.out.tx HLA.out.place (Below.refl _ _))
                  | with_reducible exact HK1.out
                  | with_reducible exact HK2.out
                  | with_reducible exact HK3.out
                  | with_reducible exact HK4.out)
                (first
                  | (go_at_call 14; refine (check_ideal (fun _ => True) _ p st9 n9 (keyO rp9) mk ms mp (HO.out.keepB (‹Below wv.heap.size wv _ ∧ _› : TrK #[.int .i64 3, .int .i64 d, .int .i64 bl, .int .i64 bu, .int .i64 qu, .int .u64 rew, .int .i64 win, .int .i64 fin, .int .u64 work] #[.int .u64 t3.anchor, .slice ma t3.marks.length mc, .slice oa t3.outs.length oc, .int .u64 t3.dep, .int .u64 t3.wd, .int .u64 t3.fee, .int .u64 t3.acc, .int .u64 t3.nonce, .int .i64 t3.exp, .slice a3 t3.proof.length c3] #[.bool true, .int .u64 st9, .int .i64 n9, .slice none 0 0, .slice none 0 0, .slice qa ql qc] G (G + 1) q wv _).1) d bl bu qu rew win fin work t3 ma oa a3 mc oc c3 (HT3.out.keepB (‹Below wv.heap.size wv _ ∧ _› : TrK #[.int .i64 3, .int .i64 d, .int .i64 bl, .int .i64 bu, .int .i64 qu, .int .u64 rew, .int .i64 win, .int .i64 fin, .int .u64 work] #[.int .u64 t3.anchor, .slice ma t3.marks.length mc, .slice oa t3.outs.length oc, .int .u64 t3.dep, .int .u64 t3.wd, .int .u64 t3.fee, .int .u64 t3.acc, .int .u64 t3.nonce, .int .i64 t3.exp, .slice a3 t3.proof.length c3] #[.bool true, .int .u64 st9, .int .i64 n9, .slice none 0 0, .slice none 0 0, .slice qa ql qc] G (G + 1) q wv _).1) hp3).mono ?_; rintro e wk1 ⟨rfl, hbk1⟩
                     have HK1 := Lib.hid (TrK.of HLA.out.rules HLA.out.tx HLA.out.place (bnext (‹Below wv.heap.size wv _ ∧ _› : TrK #[.int .i64 3, .int .i64 d, .int .i64 bl, .int .i64 bu, .int .i64 qu, .int .u64 rew, .int .i64 win, .int .i64 fin, .int .u64 work] #[.int .u64 t3.anchor, .slice ma t3.marks.length mc, .slice oa t3.outs.length oc, .int .u64 t3.dep, .int .u64 t3.wd, .int .u64 t3.fee, .int .u64 t3.acc, .int .u64 t3.nonce, .int .i64 t3.exp, .slice a3 t3.proof.length c3] #[.bool true, .int .u64 st9, .int .i64 n9, .slice none 0 0, .slice none 0 0, .slice qa ql qc] G (G + 1) q wv _).1 hbk1)))
                  | (go_at_call 15; refine (rcheck_ideal (fun _ => True) _ _ st9 n9 rp9 qa ql qc (HP.out.keepB HK1.out.1) d bl bu qu rew win fin work t3 ma oa a3 mc oc c3 (HT3.out.keepB HK1.out.1) hp3).mono ?_; rintro e wk2 ⟨rfl, hbk2⟩
                     rw [← HEQ.out]
                     have HK2 := Lib.hid (TrK.of HLA.out.rules HLA.out.tx HLA.out.place (bnext HK1.out.1 hbk2)))
                  | (go_at_call 16; refine (draws_any _ st9 n9 (keyO rp9) p mk ms mp (HO.out.keepB HK2.out.1)).mono ?_; rintro e wk3 ⟨rfl, rfl⟩
                     have HK3 := Lib.hid HK2.out)
                  | (go_at_call 17; refine (questionsX_any _ st9 n9 (keyO rp9) p mk ms mp (HO.out.keepB HK3.out.1)).mono ?_; rintro e wk4 ⟨⟨q4a, q4c, rfl⟩, hbk4⟩
                     have HK4 := Lib.hid (TrK.of HLA.out.rules HLA.out.tx HLA.out.place (bnext HK3.out.1 hbk4))))
              have hfin : Below G w _ := HLA.out.below.trans (HK4.out.1.mono (by have := box_lt HLA.out.rules; omega))
              go_wp2_with fail
              go_ret
              rw [HGW.out]
              exact ⟨rfl, hfin⟩
end Go.Proofs.YtgjemeeeignlnaaGreatDoor
