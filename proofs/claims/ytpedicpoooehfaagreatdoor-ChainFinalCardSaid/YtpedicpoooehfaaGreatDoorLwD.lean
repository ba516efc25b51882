/- The law ChainFinal: its walk. -/
import Derived.Test.YtpedicpoooehfaaGreatDoorLwC
namespace Go.Proofs.YtpedicpoooehfaaGreatDoor
open Go.ChangeShapes Go.WideShapes Go.ChangeAt Go.RowKit Go.Sort
/-- The final block is not farther below the tip than the rules say. -/
def finI (r : RuM) (m : ChM) : Prop := (m.best.length : Int) - r.fin ≤ m.hgt
theorem sub_fin {r : RuM} {m : ChM} (b : BlkM) (ya : Option Addr) (yc : Nat) (h : finI r m) : finI r (subM r m b ya yc) ∧ m.hgt ≤ (subM r m b ya yc).hgt := by
  unfold finI at h ⊢
  cases hb : betS m b with
  | false => rw [subM_no hb]; exact ⟨h, Nat.le_refl _⟩
  | true =>
    rw [subM_yes hb, finM_best]
    unfold finM
    split
    · rename_i hc
      obtain ⟨h1, h2⟩ := hc
      dsimp only at h1 h2 ⊢
      omega
    · rename_i hc
      dsimp only at hc ⊢
      omega
/-- Behind Submit, whatever it said. -/
def SubNext (c : Nat) (SB PI : Nat → Prop) (v : ChV) (w : World) (r : RuM) (m : ChM) (e : Ending) (w' : World) : Prop :=
  ∃ (x y z : Int) (m' : ChM) (SB' PI' : Nat → Prop) (v' : ChV), e = .returned (.tuple #[.int .i64 x, .int .i64 y, .int .i64 z]) ∧ ChAt c SB' PI' w' r m' (blksS m'.L m'.best) v' ∧ ChStp c SB PI v w SB' PI' v' w' ∧ ChOK r m' ∧ finI r m' ∧ m.hgt ≤ m'.hgt ∧ m'.L.length ≤ m.L.length + 1
theorem SubOut.next {c : Nat} {SB PI : Nat → Prop} {v : ChV} {w w' : World} {r : RuM} {m : ChM} {b : BlkM} {e : Ending} (h : SubOut c SB PI v w r m b e w') (ok : ChOK r m) (hf : finI r m) (h0 : 0 ≤ r.fin) (hp : posB b) : SubNext c SB PI v w r m e w' := by
  rcases h with ⟨-, rfl, PI', pv', hat, hst⟩ | ⟨hz, rfl, ya, yc, SB', PI', v', hat, hst⟩
  · exact ⟨_, _, _, m, SB, PI', _, rfl, hat, hst, ok, hf, Nat.le_refl _, Nat.le_succ _⟩
  · obtain ⟨h1, h2⟩ := sub_fin b ya yc hf
    exact ⟨_, _, _, _, SB', PI', v', rfl, hat, hst, sub_ok ok h0 (sub_zero hz) hp ya yc, h1, h2, by rw [subM_L, addM_len]; exact Nat.le_refl _⟩
theorem submit_next (c : Nat) (SB PI : Nat → Prop) (w : World) (r : RuM) (hr : RuOK r) (hmo : r.mode = 2) (m : ChM) (v : ChV) (h : ChAt c SB PI w r m (blksS m.L m.best) v) (ok : ChOK r m) (hf : finI r m) (hn : m.L.length ≤ 100) (S : Nat → Prop) (b : BlkM) (xa : Option Addr) (xc : Nat) (hb : BlkIn S w b xa xc) (hS : ∀ k, S k → ¬ ChMut c v k) (hsm : smallBk b = true) :
    Calls Tryz.prog 7 #[.pointer (some ⟨c, 0, none⟩), .agg #[.int .u64 b.parent, .int .i64 b.height, .int .u64 b.miner, .int .u64 b.work, .int .u64 b.nonce, .slice xa b.txs.length xc]] w (SubNext c SB PI v w r m) :=
  (submit_any c SB PI w r hr hmo m v h ok hn S b xa xc hb hS (fun t ht => by
    obtain ⟨h1, h2, h3, h4⟩ := (smallBk_of hsm).2 t ht
    exact ⟨by omega, by omega, by omega, fun o ho => by have := h4 o ho; omega⟩)).mono fun _ _ hso => hso.next ok hf (by have := hr.f0; omega) hb.pos
set_option maxRecDepth 100000 in
set_option maxHeartbeats 4000000 in
theorem final_law (w : World) (r : RuM) (hrw : okU r.rew) (l : List BlkM) (la : Option Addr) (lc : Nat) (h : blksR.rel (fun k => k < w.heap.size) w [.slice la l.length lc] l) :
    Calls Tryz.prog 3 #[.agg #[.int .i64 r.mode, .int .i64 r.depth, .int .i64 r.bl, .int .i64 r.bu, .int .i64 r.qu, .int .u64 r.rew, .int .i64 r.win, .int .i64 r.fin, .int .u64 r.work], .slice la l.length lc] w fun e w' => e = .returned (.bool true) ∧ Below w.heap.size w w' := by
  have g1 := (sliceR.lens h).2
  unfold maxLen at g1
  have hbA := bnew (Below.refl w.heap.size w) (.cells #[.int .i64 r.mode, .int .i64 r.depth, .int .i64 r.bl, .int .i64 r.bu, .int .i64 r.qu, .int .u64 r.rew, .int .i64 r.win, .int .i64 r.fin, .int .u64 r.work] 26)
  have HX := Lib.hid (box_new w (.cells #[.int .i64 r.mode, .int .i64 r.depth, .int .i64 r.bl, .int .i64 r.bu, .int .i64 r.qu, .int .u64 r.rew, .int .i64 r.win, .int .i64 r.fin, .int .u64 r.work] 26))
  have H := Lib.hid (blksR.keepB h hbA)
  have HB := Lib.hid hbA
  have HWS : Hid ((w.alloc (.cells #[.int .i64 r.mode, .int .i64 r.depth, .int .i64 r.bl, .int .i64 r.bu, .int .i64 r.qu, .int .u64 r.rew, .int .i64 r.win, .int .i64 r.fin, .int .u64 r.work] 26)).heap.size = w.heap.size + 1) := by show _ = _; rw [World.size_alloc]
  clear hbA h
  go_enter Tryz.func3, Tryz.ntmps3
  go_upto_region 1 with (fail)
  generalize w.alloc (.cells #[.int .i64 r.mode, .int .i64 r.depth, .int .i64 r.bl, .int .i64 r.bu, .int .i64 r.qu, .int .u64 r.rew, .int .i64 r.win, .int .i64 r.fin, .int .u64 r.work] 26) = W at *
  go_wp2_with fail
  refine (awake48_any W).mono ?_
  rintro e w1 ⟨rfl, hb1⟩
  obtain ⟨x0, x1⟩ := box_cells (box_after hb1 HX.out)
  go_wp2_with fail
  refine (right_any _ w1 r.mode r.depth r.bl r.bu r.qu r.rew r.win r.fin r.work l la lc 12 (blksR.keepB H.out hb1)).mono ?_
  rintro e w2 ⟨rfl, hb2⟩
  have HB2 := Lib.hid (bnext hb1 hb2)
  clear x0 x1 hb1 hb2
  obtain ⟨rt, hrt⟩ : ∃ x, rightL r.mode r.depth r.bl r.bu r.qu r.rew r.win r.fin r.work l 12 = x := ⟨_, rfl⟩
  have HRT := Lib.hid hrt
  rw [hrt]
  clear hrt
  cases rt with
  | false =>
    go_wp2_with fail
    refine (awake48_any w2).mono ?_
    rintro e w3 ⟨rfl, hb3⟩
    go_wp2_with fail
    go_ret
    exact ⟨rfl, bnext HB.out (bnext HB2.out hb3)⟩
  | true =>
    have HRR : Hid ((∀ b ∈ l, smallBk b = true) ∧ r.mode = 2 ∧ l.length ≤ 12 ∧ ruleE r = 0) := by
      have h1 := HRT.out
      unfold rightL at h1
      simp only [Bool.and_eq_true, beq_iff_eq] at h1
      obtain ⟨h2, h3, -, h4⟩ := fewB_of h1.1
      exact ⟨h2, h3, by omega, h1.2⟩
    have HMO := Lib.hid HRR.out.2.1
    have HL12 : Hid (l.length ≤ 12) := HRR.out.2.2.1
    have HRU := Lib.hid (ruleE_ok HRR.out.2.2.2 hrw)
    have HRE := Lib.hid HRR.out.2.2.2
    have HSMB := Lib.hid HRR.out.1
    clear HRT HRR
    obtain ⟨x0, x1⟩ := box_cells (box_after HB2.out HX.out)
    go_wp2_with fail
    refine (begin48_any w2 r HMO.out HRE.out hrw).mono ?_
    rintro e w3 ⟨c, PI, SB, v, rfl, hat, hmu, hpi, hb3⟩
    have HB3 := Lib.hid (bnext HB2.out hb3)
    have HMU : Hid (∀ k, ChMut c v k → W.heap.size ≤ k) := fun k hk => Nat.le_trans HB2.out.size (hmu k hk)
    have HAT := Lib.hid hat
    clear hat hmu hpi hb3 x0 x1 HB2
    go_upto_region 4 with (refine wpList_store_row rfl _ _ _ rfl w3.heap.size _ rfl rfl _ _ (box_new w3 _) (by kernel_rfl) rfl (by kernel_rfl) ?_)
    obtain ⟨w4, hw4, HB4, HAT4⟩ : ∃ x, _ = x ∧ Hid (Below W.heap.size W x) ∧ Hid (ChAt c SB PI x r ⟨[], [], 0, 0⟩ [] v) :=
      ⟨_, rfl, bnext HB3.out (below_setRow (g := w3.heap.size) (bnew (Below.refl _ _) _) (Nat.le_refl _) _), HAT.out.keepB (below_setRow (g := w3.heap.size) (bnew (Below.refl _ _) _) (Nat.le_refl _) _)⟩
    rw [hw4]
    clear hw4 HB3 HAT
    go_wp2_with fail
    go_loopw [8, 33] (fun v8 v33 wr => ∃ (k : Nat) (m : ChM) (SB PI : Nat → Prop) (v : ChV), k ≤ l.length ∧ v33 = .int .i64 k ∧ v8 = .int .i64 (m.hgt : Nat) ∧ Hid (ChOK r m) ∧ Hid (finI r m) ∧ Hid (m.L.length ≤ k) ∧ Hid (ChAt c SB PI wr r m (blksS m.L m.best) v) ∧ Hid (∀ j, ChMut c v j → W.heap.size ≤ j) ∧ Hid (Below W.heap.size W wr)) (fun _ vi _ => l.length - (intOf vi).toNat)
    case atStart => exact ⟨0, ⟨[], [], 0, 0⟩, SB, PI, v, Nat.zero_le _, rfl, rfl, newCh_ok r, (by show (([] : List Int).length : Int) - r.fin ≤ _; have := HRU.out.f0; simp; omega), Nat.le_refl _, HAT4, HMU, HB4⟩
    case round =>
      clear HAT4 HMU HB4
      obtain ⟨k, m, SB, PI, v, hk, rfl, rfl, HOK, HFI, HLN, HAT, HMU, HBR⟩ := hrel
      by_cases hlt : k < l.length
      · obtain ⟨bb, off, xa, xc, rfl, hbl, hb, c0, c1, c2, c3, c4, c5⟩ := blks_at (blksR.keepB H.out HBR.out) k hlt
        have HSB : Hid (smallBk l[k] = true) := HSMB.out _ (List.getElem_mem hlt)
        generalize l[k] = b at *
        have hbn := bnew (Below.refl wr.heap.size wr) (.cells #[.int .u64 b.parent, .int .i64 b.height, .int .u64 b.miner, .int .u64 b.work, .int .u64 b.nonce, .slice xa b.txs.length xc] 44)
        have HXB := Lib.hid (box_new wr (.cells #[.int .u64 b.parent, .int .i64 b.height, .int .u64 b.miner, .int .u64 b.work, .int .u64 b.nonce, .slice xa b.txs.length xc] 44))
        have HA1 := Lib.hid (HAT.out.keepB hbn)
        have HB1 := Lib.hid (bnext HBR.out hbn)
        have HIN := Lib.hid (hb.keepB hbn)
        clear hbn HAT HBR hb
        go_upto_region 10 with (fail)
        clear c0 c1 c2 c3 c4 c5
        generalize wr.alloc (.cells #[.int .u64 b.parent, .int .i64 b.height, .int .u64 b.miner, .int .u64 b.work, .int .u64 b.nonce, .slice xa b.txs.length xc] 44) = wn at *
        obtain ⟨X, hX⟩ : ∃ X, wr.heap.size = X := ⟨_, rfl⟩
        rw [hX] at HXB ⊢
        clear hX
        obtain ⟨x0, x1⟩ := box_cells HXB.out
        go_wp2_with fail
        refine (submit_next c SB PI wn r HRU.out HMO.out m v HA1.out HOK.out HFI.out (by have := HLN.out; have := HL12.out; omega) _ b xa xc HIN.out (fun j hj hm => by have h1 := HMU.out j hm; have h2 := HWS.out; have h3 : j < w.heap.size := hj; omega) HSB.out).mono ?_
        rintro e wa ⟨xx, yy, zz, m', SB', PI', v', rfl, hat', hst', hok', hfi', hge', hln'⟩
        obtain ⟨hbz, -, hmz⟩ := stp_below HB1.out HB1.out.size HMU.out hst'
        have HBZ := Lib.hid hbz
        have HMZ := Lib.hid hmz
        have HAT' := Lib.hid hat'
        have HOK' := Lib.hid hok'
        have HFI' := Lib.hid hfi'
        have HLN' : Hid (m'.L.length ≤ k + 1) := by show _ ≤ _; have := HLN.out; omega
        have hbs : m'.best.length ≤ 100 := by
          have h1 := hok'.best.len hok'.high
          have h2 := HLN'.out
          have h3 := HL12.out
          omega
        clear hbz hmz hat' hst' hok' hfi' hln' HA1 HB1 HMU HOK HFI HLN HIN HXB HSB x0 x1
        go_wp2_with fail
        refine (final_any c SB' PI' wa r m' (blksS m'.L m'.best) v' HAT'.out).mono ?_
        rintro e wb ⟨rfl, hb5⟩
        have HA5 := Lib.hid (HAT'.out.keepB hb5)
        have HB5 := Lib.hid (bnext HBZ.out hb5)
        clear hb5 HAT' HBZ
        go_wp2_with fail
        refine (best_any c SB' PI' wb r m' (blksS m'.L m'.best) v' HA5.out (by omega)).mono ?_
        rintro e wc ⟨u, rfl, hu, hb6⟩
        obtain ⟨ua, uc, rfl, -, -⟩ := own_form hu
        have HU := Lib.hid hu
        have HA6 := Lib.hid (HA5.out.keepB hb6)
        have HB6 := Lib.hid (bnext HB5.out hb6)
        clear hu hb6 HA5 HB5
        obtain ⟨x0, x1⟩ := box_cells (box_after HB6.out HX.out)
        have hf0 := HRU.out.f0
        have hf1 := HRU.out.f1
        have hfi := HFI'.out
        have hok := HOK'.out.fin
        unfold finI at hfi
        have z0 : decide ((m'.hgt : Int) < (m.hgt : Int)) = false := decide_eq_false (by omega)
        have y0 : ¬ (m'.hgt : Int) < (m.hgt : Int) := by omega
        by_cases p1 : 0 < m'.hgt
        · obtain ⟨j, hj⟩ : ∃ j, m'.hgt = j + 1 := ⟨m'.hgt - 1, by omega⟩
          have hjl : j < m'.best.length := by omega
          obtain ⟨b2, of2, hba, hbl2, h10, h11, hcc⟩ := nums_at HU.out.slice j hjl
          have hgd : m'.best[j] = m'.final := by
            have := hok.2 p1
            rw [hj, Nat.add_sub_cancel, List.getD_eq_getElem?_getD, List.getElem?_eq_getElem hjl] at this
            exact this
          rw [hgd] at hcc h10
          have z1 : decide ((0 : Int) < (m'.hgt : Int)) = true := decide_eq_true (by omega)
          have y1 : (0 : Int) < (m'.hgt : Int) := by omega
          have z2 : decide ((m'.best.length : Int) < (m'.hgt : Int)) = false := decide_eq_false (by omega)
          have y2 : ¬ (m'.best.length : Int) < (m'.hgt : Int) := by omega
          have z3 : IntKind.i64.wrap ((m'.hgt : Int) - 1) = (j : Int) := by rw [IntKind.wrap_i64]; omega
          have z4 : wrap64 ((m'.hgt : Int) - 1) = (j : Int) := by unfold wrap64; omega
          have z9 : (j : Int) < (m'.best.length : Int) := by omega
          have z10 : (0 : Int) ≤ (j : Int) := by omega
          clear hgd hj hbl2 h11
          subst hba
          by_cases p2 : r.fin < (m'.best.length : Int)
          · have z5 : decide (r.fin < (m'.best.length : Int)) = true := decide_eq_true p2
            have z7 : wrap64 ((m'.best.length : Int) - r.fin) = (m'.best.length : Int) - r.fin := by unfold wrap64; omega
            have z8 : decide ((m'.hgt : Int) < (m'.best.length : Int) - r.fin) = false := decide_eq_false (by omega)
            have y8 : ¬ (m'.hgt : Int) < (m'.best.length : Int) - r.fin := by omega
            clear hok hfi
            go_wp2_with fail
            go_roundw
            case rel => exact ⟨k + 1, m', SB', PI', v', by omega, by go_num, rfl, HOK', HFI', HLN', HA6, HMZ, HB6⟩
            case measure => simp [intOf]; omega
          · have z5 : decide (r.fin < (m'.best.length : Int)) = false := decide_eq_false p2
            clear hok hfi
            go_wp2_with fail
            go_roundw
            case rel => exact ⟨k + 1, m', SB', PI', v', by omega, by go_num, rfl, HOK', HFI', HLN', HA6, HMZ, HB6⟩
            case measure => simp [intOf]; omega
        · have z1 : decide ((0 : Int) < (m'.hgt : Int)) = false := decide_eq_false (by omega)
          have y1 : ¬ (0 : Int) < (m'.hgt : Int) := by omega
          have p2 : ¬ r.fin < (m'.best.length : Int) := by omega
          have z5 : decide (r.fin < (m'.best.length : Int)) = false := decide_eq_false p2
          clear hok hfi
          go_wp2_with fail
          go_roundw
          case rel => exact ⟨k + 1, m', SB', PI', v', by omega, by go_num, rfl, HOK', HFI', HLN', HA6, HMZ, HB6⟩
          case measure => simp [intOf]; omega
      · obtain rfl : k = l.length := by omega
        go_wp2_with fail
        go_ret
        exact ⟨rfl, bnext HB.out HBR.out⟩
end Go.Proofs.YtpedicpoooehfaaGreatDoor
