/- The chain of the program: Submit. -/
import Derived.Test.YtphacfkcifpobaaGreatDoorM21
import Derived.OwnWalk
set_option maxRecDepth 100000
namespace Go.Proofs.YtphacfkcifpobaaGreatDoor
open Go.ChangeShapes Go.WideShapes Go.ChangeAt Go.RowKit Go.Sort
theorem blkID_ok (b : BlkM) : okU (blkID b) := by
 have h := idB_in b; unfold blkID
 split
 · exact okU_of h.1 (by omega)
 · exact okU_of (by omega) (by omega)
def cntU (m : ChM) (b : BlkM) : Int := if betS m b = true then (m.best.length : Int) - comN (branF m.L b) m.best else 0
def cntA (m : ChM) (b : BlkM) : Int := if betS m b = true then ((branF m.L b).length : Int) + 1 - comN (branF m.L b) m.best else 0
def SubOut (c : Nat) (SB PI : Nat → Prop) (v : ChV) (w : World) (r : RuM) (m : ChM) (b : BlkM) (e : Ending) (w' : World) : Prop :=
 (subE r m b ≠ 0 ∧ e = .returned (.tuple #[.int .i64 0, .int .i64 0, .int .i64 (subE r m b)]) ∧ ∃ (PI' : Nat → Prop) (pv' : PoV), ChAt c SB PI' w' r m (blksS m.L m.best) { v with pv := pv' } ∧ ChStp c SB PI v w SB PI' { v with pv := pv' } w') ∨
 (subE r m b = 0 ∧ e = .returned (.tuple #[.int .i64 (cntU m b), .int .i64 (cntA m b), .int .i64 0]) ∧ ∃ (ya : Option Addr) (yc : Nat) (SB' PI' : Nat → Prop) (v' : ChV), ChAt c SB' PI' w' r (subM r m b ya yc) (blksS (subM r m b ya yc).L (subM r m b ya yc).best) v' ∧ ChStp c SB PI v w SB' PI' v' w')
theorem sub_refuse {c : Nat} {SB PI : Nat → Prop} {v : ChV} {w w' : World} {r : RuM} {m : ChM} {b : BlkM} (h : ChAt c SB PI w r m (blksS m.L m.best) v) (hb : Below w.heap.size w w') {E : Int} (he : subE r m b = E) (hne : E ≠ 0) :
   SubOut c SB PI v w r m b (.returned (.tuple #[.int .i64 0, .int .i64 0, .int .i64 E])) w' :=
 .inl ⟨by rw [he]; exact hne, by rw [he], PI, v.pv, h.keepB hb, ChStp.below hb⟩
theorem txErr_at (r : RuM) (l : List TxM) (i : Nat) (h : i < l.length) : txErr r (l.drop i) = if checkE r.depth r.bl r.bu r.qu r.rew r.win r.fin r.work l[i] = 0 then txErr r (l.drop (i + 1)) else checkE r.depth r.bl r.bu r.qu r.rew r.win r.fin r.work l[i] := by
 rw [List.drop_eq_getElem_cons h]; rfl
def conB (l l' : List Int) (n : Nat) : Bool := decide (n < l.length ∧ n < l'.length ∧ l.getD n 0 = l'.getD n 0)
theorem conB_true {l l' : List Int} {n : Nat} (ht : l.take n = l'.take n) (h : conB l l' n = true) : n + 1 ≤ l.length ∧ n + 1 ≤ l'.length ∧ Hid (l.take (n + 1) = l'.take (n + 1)) := by
 unfold conB at h; rw [decide_eq_true_eq] at h; obtain ⟨h1, h2, h3⟩ := h
 refine ⟨h1, h2, ?_⟩
 show _ = _
 rw [List.take_succ_eq_append_getElem h1, List.take_succ_eq_append_getElem h2, ht]; rw [List.getD_eq_getElem?_getD, List.getElem?_eq_getElem h1, List.getD_eq_getElem?_getD, List.getElem?_eq_getElem h2] at h3; have h4 : l[n] = l'[n] := h3; rw [h4]
theorem conB_false {l l' : List Int} {n : Nat} (h1 : n ≤ l.length) (h2 : n ≤ l'.length) (ht : l.take n = l'.take n) (h : conB l l' n = false) : comN l l' = n := by
 unfold conB at h; rw [decide_eq_false_iff_not] at h
 exact comN_stop l l' n h1 h2 ht fun a b c => h ⟨a, b, c⟩
theorem totS_ok (m : ChM) (b : BlkM) (h : okU b.work) : okU (totS m b) := by
 unfold totS
 split
 · have h1 : wrapU (b.work + ((findS m.L b.parent).map (·.tot)).getD 0) = (b.work + ((findS m.L b.parent).map (·.tot)).getD 0) % 18446744073709551616 := IntKind.wrap_u64 _
   exact okU_of (by rw [h1]; omega) (by rw [h1]; omega)
 · exact h
def StoOut (wl : World) (m : ChM) (mb : Nat) (id : Int) (b : BlkM) (tot : Int) (wp : World) : Prop :=
 ∃ (ya : Option Addr) (yc : Nat), StoAt wp mb (m.L ++ [(⟨id, b, tot, ya, yc⟩ : StB)]) ∧ BlkIn (fun k => wl.heap.size ≤ k) wp b ya yc ∧ Kept (fun k => k ≠ mb) wl wp
theorem StoOut.mk {wl w7 wp : World} {m : ChM} {mb : Nat} {id : Int} {b : BlkM} {tot : Int} (ya : Option Addr) (yc : Nat) (hlt : mb < wl.heap.size) (h : StoAt wp mb (m.L ++ [(⟨id, b, tot, ya, yc⟩ : StB)])) (hb : BlkIn (fun k => wl.heap.size ≤ k) w7 b ya yc) (h7 : Below wl.heap.size wl w7) (ho : OnlyAt mb w7 wp) : StoOut wl m mb id b tot wp :=
 ⟨ya, yc, h, hb.keep (Kept.mono ho fun k _ hk => by have : wl.heap.size ≤ k := hk; omega), (Kept.of_below h7).trans ho fun _ _ h => h⟩
section
variable {r : RuM} {m : ChM} {b : BlkM}
theorem subE_chk (h : blkCheck r.work b ≠ 0) : subE r m b = blkCheck r.work b := by unfold subE; rw [if_neg h]
theorem subE_old (h : blkCheck r.work b = 0) (h2 : (findS m.L (blkID b)).isSome = true) : subE r m b = 5 := by unfold subE; rw [if_pos h, if_pos h2]
theorem subE_par (h : blkCheck r.work b = 0) (h2 : findS m.L (blkID b) = none) (h3 : parentE m.L b ≠ 0) : subE r m b = parentE m.L b := by
 unfold subE; rw [if_pos h, h2, if_neg h3]; rfl
theorem subE_fin (h : blkCheck r.work b = 0) (h2 : findS m.L (blkID b) = none) (h3 : parentE m.L b = 0) (h4 : finB m (branF m.L b) = true) : subE r m b = 19 := by
 unfold subE; rw [if_pos h, h2, if_pos h3, if_pos h4]; rfl
theorem subE_txs (h : blkCheck r.work b = 0) (h2 : findS m.L (blkID b) = none) (h3 : parentE m.L b = 0) (h4 : finB m (branF m.L b) = false) (h5 : txErr r b.txs ≠ 0) : subE r m b = txErr r b.txs := by
 unfold subE; rw [if_pos h, h2, if_pos h3, h4, if_neg h5]; rfl
theorem subE_app (h : blkCheck r.work b = 0) (h2 : findS m.L (blkID b) = none) (h3 : parentE m.L b = 0) (h4 : finB m (branF m.L b) = false) (h5 : txErr r b.txs = 0) : subE r m b = applyE r (runW r (blksS m.L (branF m.L b))) b := by
 unfold subE; rw [if_pos h, h2, if_pos h3, h4, if_pos h5]; rfl
end
set_option maxHeartbeats 2000000 in
theorem submit_any (c : Nat) (SB PI : Nat → Prop) (w : World) (r : RuM) (hr : RuOK r) (hmo : r.mode = 2) (m : ChM) (v : ChV) (h : ChAt c SB PI w r m (blksS m.L m.best) v) (ok : ChOK r m) (hn : m.L.length ≤ 100) (S : Nat → Prop) (b : BlkM) (xa : Option Addr) (xc : Nat) (hb : BlkIn S w b xa xc) (hS : ∀ k, S k → ¬ ChMut c v k) (hsm : ∀ t ∈ b.txs, t.marks.length ≤ 100 ∧ t.outs.length ≤ 100 ∧ t.proof.length ≤ 1000000 ∧ ∀ o ∈ t.outs, o.cipher.length ≤ 1000) :
   Calls Tryz.prog 139 #[.pointer (some ⟨c, 0, none⟩), .agg #[.int .u64 b.parent, .int .i64 b.height, .int .u64 b.miner, .int .u64 b.work, .int .u64 b.nonce, .slice xa b.txs.length xc]] w (SubOut c SB PI v w r m b) := by
 have hbA := bnew (Below.refl w.heap.size w) (.cells #[.int .u64 b.parent, .int .i64 b.height, .int .u64 b.miner, .int .u64 b.work, .int .u64 b.nonce, .slice xa b.txs.length xc] 177); have HX := Lib.hid (box_new w (.cells #[.int .u64 b.parent, .int .i64 b.height, .int .u64 b.miner, .int .u64 b.work, .int .u64 b.nonce, .slice xa b.txs.length xc] 177)); have HA := Lib.hid (h.keepB hbA)
 have hbS : BlkIn (fun k => S k ∧ k < w.heap.size) w b xa xc := ⟨hb.parent, hb.height, hb.miner, hb.work, hb.nonce, txsR.bound hb.txs⟩
 have HI := Lib.hid (hbS.keepB hbA); have HB := Lib.hid hbA; have H0 := Lib.hid h; have HR := Lib.hid hr; have HMO := Lib.hid hmo; have HOK := Lib.hid ok; have HN := Lib.hid hn
 have HS : Hid (∀ k, S k ∧ k < w.heap.size → ¬ ChMut c v k ∧ k < w.heap.size) := fun k hk => ⟨hS k hk.1, hk.2⟩
 have HSM := Lib.hid hsm; have HPOS := Lib.hid hb.pos; have hpo := hb.parent; have hwk := hb.work; clear hbA h hr hmo ok hn hb hS hsm hbS
 go_enter Tryz.func139, Tryz.ntmps139
 go_upto_region 1 with (fail)
 generalize w.alloc (.cells #[.int .u64 b.parent, .int .i64 b.height, .int .u64 b.miner, .int .u64 b.work, .int .u64 b.nonce, .slice xa b.txs.length xc] 177) = W at *; have x0 := box_regrown HX.out; have y0 := box_regrown HA.out.cell
 simp only [chCells] at y0
 have hc : ∀ (d : Nat) (os : Array Obj), _ := fun d os => blkCheck_any _ (grow (redrawn W d) os) r.mode r.depth r.bl r.bu r.qu r.rew r.win r.fin r.work b xa xc (HI.out.keepB (below_regrown W d os))
 go_wp2_with fail
 refine wp_region_quiet_below (by kernel_rfl) (by kernel_rfl) ?_
 repeat (first | go_big_quiet_step (exact Calls.regrown_of (hc _ _)) | quiet_step (exact Calls.regrown_of (hc _ _)))
 refine wpQuiet_nil ?_
 intro w1 hw'
 obtain ⟨⟨dq, osq⟩, hw''⟩ := hw'; have hbw1 := below_regrown W dq osq; rw [← hw''] at hbw1; clear hw'' x0 y0 hc; have hb1 := hbw1; have HX1 := Lib.hid (box_after hb1 HX.out); have HA1 := Lib.hid (HA.out.keepB hb1); have HI1 := Lib.hid (HI.out.keepB hb1); have HB1 := Lib.hid (bnext HB.out hb1); clear hbw1 hb1 HX HA HI HB
 by_cases h1 : blkCheck r.work b = 0
 rotate_left
 · have z1 : (blkCheck r.work b != 0) = true := by rw [bne_iff_ne]; exact h1
   have HF := Lib.hid (subE_chk (m := m) h1); have HNE := Lib.hid h1; generalize blkCheck r.work b = E at *; clear h1; go_wp2_with fail
   go_ret3
   exact sub_refuse H0.out HB1.out HF.out HNE.out
 have HC1 := Lib.hid h1; obtain ⟨hve, -⟩ := blkCheck_zero h1; obtain ⟨hh1, hh2, -, -, -, -, hbl⟩ := blkE_head hve; rw [h1]; clear h1 hve; obtain ⟨x0, x1⟩ := box_cells HX1.out; go_wp2_with fail
 refine (blkID_any _ w1 b xa xc HI1.out).mono ?_
 rintro e w2 ⟨rfl, hb2⟩; have HX2 := Lib.hid (box_after hb2 HX1.out); have HA2 := Lib.hid (HA1.out.keepB hb2); have HI2 := Lib.hid (HI1.out.keepB hb2); have HB2 := Lib.hid (bnext HB1.out hb2); have hido := blkID_ok b; clear x0 x1 hb2 HX1 HA1 HI1 HB1; obtain ⟨y0, y1⟩ := box_cells HA2.out.cell
 simp only [chCells] at y0
 have hl1 := HA2.out.map.look_ok (blkID b) hido
 cases hf : findS m.L (blkID b) with
 | some e0 =>
   have HF := Lib.hid (subE_old (r := r) (m := m) HC1.out (by rw [hf]; rfl))
   have hl2 : (Instr.lookup 104 (.map (some v.mb)) (.int .u64 (blkID b)) true).run Tryz.prog w2 = .ok (.tuple #[.agg #[.int .u64 e0.b.parent, .int .i64 e0.b.height, .int .u64 e0.b.miner, .int .u64 e0.b.work, .int .u64 e0.b.nonce, .slice e0.xa e0.b.txs.length e0.xc, .int .u64 e0.tot], .bool true]) w2 := by rw [hl1, hf]; rfl
   generalize blkID b = id at *; clear hl1 hf; go_wp2_with fail
   go_ret3
   exact sub_refuse H0.out (bnew HB2.out _) HF.out (by omega)
 | none =>
   have HC2 := Lib.hid hf
   have hl2 : (Instr.lookup 104 (.map (some v.mb)) (.int .u64 (blkID b)) true).run Tryz.prog w2 = .ok (.tuple #[.agg #[.int .u64 0, .int .i64 0, .int .u64 0, .int .u64 0, .int .u64 0, .slice none 0 0, .int .u64 0], .bool false]) w2 := by rw [hl1, hf]; rfl
   obtain ⟨id, hid⟩ : ∃ x, blkID b = x := ⟨_, rfl⟩; have HID := Lib.hid hid; rw [hid] at hl2 hido; rw [hid]; clear hl1 hf hid
   go_upto_region 8 with (fail)
   have hb3 := bnew (Below.refl w2.heap.size w2) (.cells #[.int .u64 0, .int .i64 0, .int .u64 0, .int .u64 0, .int .u64 0, .slice none 0 0, .int .u64 0] 310); have HX3 := Lib.hid (box_after hb3 HX2.out); have HA3 := Lib.hid (HA2.out.keepB hb3); have HI3 := Lib.hid (HI2.out.keepB hb3); have HB3 := Lib.hid (bnext HB2.out hb3); generalize w2.alloc (.cells #[.int .u64 0, .int .i64 0, .int .u64 0, .int .u64 0, .int .u64 0, .slice none 0 0, .int .u64 0] 310) = w3 at *; clear hl2 y0 y1 hb3 HX2 HA2 HI2 HB2; obtain ⟨x0, x1⟩ := box_cells HX3.out; go_wp2_with fail
   refine (parent_any c SB PI w3 r m (blksS m.L m.best) v HA3.out b xa xc hpo hh1 hh2).mono ?_
   rintro e w4 ⟨rfl, hb4⟩; have HX4 := Lib.hid (box_after hb4 HX3.out); have HA4 := Lib.hid (HA3.out.keepB hb4); have HI4 := Lib.hid (HI3.out.keepB hb4); have HB4 := Lib.hid (bnext HB3.out hb4); clear x0 x1 hb4 HX3 HA3 HI3 HB3
   by_cases h3 : parentE m.L b = 0
   rotate_left
   · have z1 : (parentE m.L b != 0) = true := by rw [bne_iff_ne]; exact h3
     have HF := Lib.hid (subE_par HC1.out HC2.out h3); have HNE := Lib.hid h3; generalize parentE m.L b = E at *; clear h3; go_wp2_with fail
     go_ret3
     exact sub_refuse H0.out HB4.out HF.out HNE.out
   have HC3 := Lib.hid h3; obtain ⟨hw, hbrl, hbrp, hbrr⟩ := bran_ok HOK.out hh1 h3; rw [h3]; have hbl2 := hw.len HOK.out.high; have HW := Lib.hid hw; have HBP := Lib.hid hbrp; have HBR := Lib.hid hbrr; obtain ⟨br, hbr⟩ : ∃ x, branF m.L b = x := ⟨_, rfl⟩; have HBQ := Lib.hid hbr; rw [hbr] at HW HBP HBR hbrl hbl2; clear h3 hw hbrp hbrr hbr
   have HNB : Hid (b.height = (br.length : Nat) + 1) := by show _ = _; omega
   have hbn : br.length ≤ 100 := Nat.le_trans hbl2 HN.out; obtain ⟨x0, x1⟩ := box_cells HX4.out; go_wp2_with fail
   refine (branch_any c SB PI w4 r m (blksS m.L m.best) v HA4.out b xa xc hpo br.length HNB.out (by omega) br HW.out rfl HBP.out).mono ?_
   rintro e w5 ⟨u, rfl, hu, hb5⟩; obtain ⟨ba, bc, rfl, -, -⟩ := own_form hu; have HU5 := Lib.hid hu; have HB45 := Lib.hid hb5
   have HWM : Hid (∀ k, (False ∨ w4.heap.size ≤ k) → ¬ ChMut c v k) := fun k hk hm => by
     have h1 := H0.out.mut_lt k hm; have h2 := HB4.out.size
     rcases hk with hk | hk
     · exact hk
     · omega
   have HW04 : Hid (w.heap.size ≤ w4.heap.size) := HB4.out.size; have HX5 := Lib.hid (box_after hb5 HX4.out); have HA5 := Lib.hid (HA4.out.keepB hb5); have HI5 := Lib.hid (HI4.out.keepB hb5); have HB5 := Lib.hid (bnext HB4.out hb5); clear x0 x1 hu hb5 HX4 HA4 HI4 HB4 hbrl hbl2
   go_upto_region 12 with (fail)
   have hhg : m.hgt ≤ 1000 := by have := HOK.out.fin.1; have := HOK.out.best.len HOK.out.high; have := HN.out; omega
   go_cut [78] from 50 to 78 (fun v78 wc => v78 = .bool (finB m br) ∧ Hid (Below w5.heap.size w5 wc))
   case first =>
     obtain ⟨y0, y1⟩ := box_cells HA5.out.cell
     simp only [chCells] at y0
     have HFB : Hid (finB m br = decide (0 < m.hgt ∧ (br.length < m.hgt ∨ br.getD (m.hgt - 1) 0 ≠ m.final))) := rfl
     by_cases g1 : 0 < m.hgt
     · by_cases g2 : br.length < m.hgt
       · have HF : Hid (finB m br = true) := by show _ = _; rw [HFB.out, decide_eq_true_eq]; exact ⟨g1, .inl g2⟩
         have z1 : decide ((0 : Int) < (m.hgt : Int)) = true := decide_eq_true (by omega)
         have z2 : decide ((br.length : Int) < (m.hgt : Int)) = true := decide_eq_true (by omega)
         go_region
         all_goals
           go_wp2_with fail
           go_meet
           case rel => exact ⟨by rw [HF.out], (Below.refl _ _).drew⟩
       · obtain ⟨k, hk⟩ : ∃ k, m.hgt = k + 1 := ⟨m.hgt - 1, by omega⟩
         have hlt : k < br.length := by omega
         obtain ⟨bb, off, hba, hbl9, h10, h11, hcc⟩ := nums_at HU5.out.slice k hlt
         have hgd : br.getD k 0 = br[k] := by rw [List.getD_eq_getElem?_getD, List.getElem?_eq_getElem hlt]; rfl
         have HF : Hid (finB m br = (br[k] != m.final)) := by
           show _ = _
           rw [HFB.out, hk, Nat.add_sub_cancel, hgd]
           have g3 : ¬ br.length < k + 1 := by omega
           simp [g3, bne, Bool.beq_eq_decide_eq]
         generalize br[k] = y at *
         have z1 : decide ((0 : Int) < (m.hgt : Int)) = true := decide_eq_true (by omega)
         have z2 : decide ((br.length : Int) < (m.hgt : Int)) = false := decide_eq_false (by omega)
         have z3 : IntKind.i64.wrap ((m.hgt : Int) - 1) = (k : Int) := by rw [IntKind.wrap_i64]; omega
         have z4 : wrap64 ((m.hgt : Int) - 1) = (k : Int) := by unfold wrap64; omega
         have z5 : (k : Int) < (br.length : Int) := by omega
         have z6 : (0 : Int) ≤ (k : Int) := by omega
         have z7 : (y != m.final) = finB m br := HF.out.symm; generalize finB m br = fb at *; subst hba
         have g1' : (0 : Int) < (m.hgt : Int) := by omega
         have g2' : ¬ (br.length : Int) < (m.hgt : Int) := by omega
         clear hk hlt hgd HFB HF hbl9 h10 h11
         go_region
         all_goals
           go_wp2_with fail
           go_meet
           case rel => exact ⟨rfl, (Below.refl _ _).drew⟩
     · have HF : Hid (finB m br = false) := by show _ = _; rw [HFB.out, decide_eq_false_iff_not]; exact fun h => g1 h.1
       have z1 : decide ((0 : Int) < (m.hgt : Int)) = false := decide_eq_false (by omega)
       go_region
       all_goals
         go_wp2_with fail
         go_meet
         case rel => exact ⟨by rw [HF.out], (Below.refl _ _).drew⟩
   obtain ⟨rfl, HBc⟩ := hcut; have HX6 := Lib.hid (box_after HBc.out HX5.out); have HA6 := Lib.hid (HA5.out.keepB HBc.out); have HI6 := Lib.hid (HI5.out.keepB HBc.out); have HU6 := Lib.hid (HU5.out.keepB HBc.out); have HB6 := Lib.hid (bnext HB5.out HBc.out); have HW46 : Hid (w4.heap.size ≤ w5.heap.size) := HB45.out.size; have HS58 : Hid (w5.heap.size ≤ wc.heap.size) := HBc.out.size; clear HBc HX5 HA5 HI5 HU5 HB5
   cases hfb : finB m br with
   | true =>
     have HF := Lib.hid (subE_fin (r := r) HC1.out HC2.out HC3.out (by rw [HBQ.out]; exact hfb))
     clear hfb; go_wp2_with fail
     go_ret3
     exact sub_refuse H0.out HB6.out HF.out (by omega)
   | false =>
     have HC4 : Hid (finB m (branF m.L b) = false) := by show _ = _; rw [HBQ.out]; exact hfb
     clear hfb; have HTX := Lib.hid HI6.out.txs; obtain ⟨x0, x1⟩ := box_cells HX6.out; go_wp2_with fail; clear x0 x1
     go_loopw [82] (fun vi wr => ∃ i : Nat, i ≤ b.txs.length ∧ vi = .int .i64 i ∧ Hid (txErr r (b.txs.drop i) = txErr r b.txs) ∧ Hid (Below wc.heap.size wc wr)) (fun vi _ => b.txs.length - (intOf vi).toNat)
     case atStart => exact ⟨0, Nat.zero_le _, rfl, rfl, Below.refl _ _⟩
     case round =>
       obtain ⟨i, hi, rfl, HT, HBL⟩ := hrel
       by_cases hlt : i < b.txs.length
       · obtain ⟨bb, off, ma, oa, pa, mc, oc, pc, rfl, hbl9, ht, c0, c1, c2, c3, c4, c5, c6, c7, c8, c9⟩ := txs_at (txsR.keepB HTX.out HBL.out) i hlt
         have HTE := Lib.hid (HT.out.symm.trans (txErr_at r b.txs i hlt)); obtain ⟨s1, s2, s3, s4⟩ := HSM.out b.txs[i] (List.getElem_mem hlt); generalize b.txs[i] = t at *; have hbn := bnew (Below.refl wr.heap.size wr) (.cells #[.int .u64 t.anchor, .slice ma t.marks.length mc, .slice oa t.outs.length oc, .int .u64 t.dep, .int .u64 t.wd, .int .u64 t.fee, .int .u64 t.acc, .int .u64 t.nonce, .int .i64 t.exp, .slice pa t.proof.length pc] 181); have HT2 := Lib.hid (ht.keepB hbn); have HIN := Lib.hid (box_new wr (.cells #[.int .u64 t.anchor, .slice ma t.marks.length mc, .slice oa t.outs.length oc, .int .u64 t.dep, .int .u64 t.wd, .int .u64 t.fee, .int .u64 t.acc, .int .u64 t.nonce, .int .i64 t.exp, .slice pa t.proof.length pc] 181)); have HA7 := Lib.hid (HA6.out.keepB (bnext HBL.out hbn)); have HBM := Lib.hid (bnext HBL.out hbn)
         have i0 : (0 : Int) ≤ (i : Int) := by omega
         have i1 : (i : Int) < (b.txs.length : Int) := by omega
         have hpl : t.proof.length ≤ 1000000 := s3; clear ht hbn s1 s2 s3 s4 HT HBL
         go_upto_region 17 with (fail)
         clear c0 c1 c2 c3 c4 c5 c6 c7 c8 c9; generalize wr.alloc (.cells #[.int .u64 t.anchor, .slice ma t.marks.length mc, .slice oa t.outs.length oc, .int .u64 t.dep, .int .u64 t.wd, .int .u64 t.fee, .int .u64 t.acc, .int .u64 t.nonce, .int .i64 t.exp, .slice pa t.proof.length pc] 181) = wn at *; have x0 := box_regrown HIN.out; have y0 := box_regrown HA7.out.cell
         simp only [chCells] at y0
         rw [HMO.out] at y0
         have hc : ∀ (d : Nat) (os : Array Obj), _ := fun d os => check_open _ (grow (redrawn wn d) os) v.op 0 (((HA7.out.orc HMO.out).at').keepB (below_regrown wn d os)) r.depth r.bl r.bu r.qu r.rew r.win r.fin r.work t ma oa pa mc oc pc (HT2.out.keepB (below_regrown wn d os)) hpl
         go_wp2_with fail
         refine wp_region_quiet_below (by kernel_rfl) (by kernel_rfl) ?_
         repeat (first | go_big_quiet_step (exact Calls.regrown_of (hc _ _)) | quiet_step (exact Calls.regrown_of (hc _ _)))
         refine wpQuiet_nil ?_
         intro wq hw'
         obtain ⟨⟨dq, osq⟩, hw''⟩ := hw'; have hbwq := below_regrown wn dq osq; rw [← hw''] at hbwq; clear hw'' x0 y0 hc; have HBN := Lib.hid (bnext HBM.out hbwq); clear hbwq HA7 HT2 HIN HBM
         by_cases hv : checkE r.depth r.bl r.bu r.qu r.rew r.win r.fin r.work t = 0
         · have HT3 := Lib.hid (HTE.out.trans (if_pos hv)).symm
           rw [hv]; clear hv HTE; go_wp2_with fail
           go_roundw
           case rel => exact ⟨i + 1, by omega, by go_num, HT3, HBN⟩
           case measure => simp [intOf]; omega
         · have HT3 := Lib.hid (HTE.out.trans (if_neg hv))
           have z1 : (checkE r.depth r.bl r.bu r.qu r.rew r.win r.fin r.work t != 0) = true := by rw [bne_iff_ne]; exact hv
           have HF := Lib.hid ((subE_txs HC1.out HC2.out HC3.out HC4.out (by rw [HT3.out]; exact hv)).trans HT3.out)
           have HNE := Lib.hid hv; generalize checkE r.depth r.bl r.bu r.qu r.rew r.win r.fin r.work t = E at *; clear hv HTE HT3; go_wp2_with fail
           go_ret3
           exact sub_refuse H0.out (bnext HB6.out HBN.out) HF.out HNE.out
       · obtain rfl : i = b.txs.length := by omega
         have HC5 : Hid (txErr r b.txs = 0) := by
           have h := HT.out; rw [List.drop_length] at h
           exact h.symm
         have HX8 := Lib.hid (box_after HBL.out HX6.out); have HA8 := Lib.hid (HA6.out.keepB HBL.out); have HI8 := Lib.hid (HI6.out.keepB HBL.out); have HU8 := Lib.hid (HU6.out.keepB HBL.out); have HB8 := Lib.hid (bnext HB6.out HBL.out); have HS68 : Hid (wc.heap.size ≤ wr.heap.size) := HBL.out.size; clear HBL HX6 HA6 HI6 HU6 HB6 HT HTX hi hlt; obtain ⟨w8, hw8⟩ : ∃ x, x = wr := ⟨_, rfl⟩; subst hw8; have hbs : m.best.length ≤ 100 := Nat.le_trans (HOK.out.best.len HOK.out.high) HN.out; go_wp2_with fail
         go_loopw [16] (fun vi wr => ∃ n : Nat, n ≤ br.length ∧ n ≤ m.best.length ∧ vi = .int .i64 n ∧ Hid (br.take n = m.best.take n) ∧ Hid (Below w8.heap.size w8 wr)) (fun vi _ => br.length - (intOf vi).toNat)
         case atStart => exact ⟨0, Nat.zero_le _, Nat.zero_le _, rfl, rfl, Below.refl _ _⟩
         case round =>
           obtain ⟨n, hn1, hn2, rfl, HT, HBL⟩ := hrel
           go_upto_region 22 with (fail)
           go_cut [126] from 100 to 128 (fun v126 wc => v126 = .bool (conB br m.best n) ∧ Hid (Below w8.heap.size w8 wc))
           case first =>
             obtain ⟨y0, y1⟩ := box_cells (HA8.out.keepB HBL.out).cell
             simp only [chCells] at y0
             have HCB : Hid (conB br m.best n = decide (n < br.length ∧ n < m.best.length ∧ br.getD n 0 = m.best.getD n 0)) := rfl
             by_cases g1 : n < br.length
             · by_cases g2 : n < m.best.length
               · obtain ⟨bb, off, hba, hbl9, h10, h11, hcc⟩ := nums_at (HU8.out.keepB HBL.out).slice n g1
                 obtain ⟨bd, ofd, hbd, hbl8, h12, h13, hcd⟩ := nums_at (HA8.out.keepB HBL.out).best n g2
                 have hgd : br.getD n 0 = br[n] := by rw [List.getD_eq_getElem?_getD, List.getElem?_eq_getElem g1]; rfl
                 have hge : m.best.getD n 0 = m.best[n] := by rw [List.getD_eq_getElem?_getD, List.getElem?_eq_getElem g2]; rfl
                 have HF : Hid (conB br m.best n = (br[n] == m.best[n])) := by
                   show _ = _
                   rw [HCB.out, hgd, hge]
                   simp [g1, g2, Bool.beq_eq_decide_eq]
                 generalize br[n] = y at *; generalize m.best[n] = y' at *; have z7 : (y == y') = conB br m.best n := HF.out.symm; generalize conB br m.best n = fb at *
                 have z1 : decide ((n : Int) < (br.length : Int)) = true := decide_eq_true (by omega)
                 have z2 : decide ((n : Int) < (m.best.length : Int)) = true := decide_eq_true (by omega)
                 have z6 : (0 : Int) ≤ (n : Int) := by omega
                 have z8 : (n : Int) < (br.length : Int) := by omega
                 have z9 : (n : Int) < (m.best.length : Int) := by omega
                 rw [hbd] at y0; subst hba; clear hgd hge HCB HF hbl9 h10 h11 hbl8 h12 h13 hbd
                 go_region
                 all_goals
                   go_wp2_with fail
                   go_meet
                   case rel => exact ⟨rfl, HBL.out.drew⟩
               · have HF : Hid (conB br m.best n = false) := by show _ = _; rw [HCB.out, decide_eq_false_iff_not]; exact fun h => g2 h.2.1
                 have z1 : decide ((n : Int) < (br.length : Int)) = true := decide_eq_true (by omega)
                 have z2 : decide ((n : Int) < (m.best.length : Int)) = false := decide_eq_false (by omega)
                 go_region
                 all_goals
                   go_wp2_with fail
                   go_meet
                   case rel => exact ⟨by rw [HF.out], HBL.out.drew⟩
             · have HF : Hid (conB br m.best n = false) := by show _ = _; rw [HCB.out, decide_eq_false_iff_not]; exact fun h => g1 h.1
               have z1 : decide ((n : Int) < (br.length : Int)) = false := decide_eq_false (by omega)
               go_region
               all_goals
                 go_wp2_with fail
                 go_meet
                 case rel => exact ⟨by rw [HF.out], HBL.out.drew⟩
           case rest =>
             obtain ⟨rfl, HBL2⟩ := hcut; clear HBL
             cases hcb : conB br m.best n with
             | true =>
               obtain ⟨q1, q2, HT2⟩ := conB_true HT.out hcb; clear hcb HT; go_wp2_with fail
               go_roundw
               case rel => exact ⟨n + 1, q1, q2, by go_num, HT2, HBL2⟩
               case measure => simp [intOf]; omega
             | false =>
               have HNC : Hid (comN br m.best = n) := conB_false hn1 hn2 HT.out hcb; clear hcb; have HX9 := Lib.hid (box_after HBL2.out HX8.out); have HA9 := Lib.hid (HA8.out.keepB HBL2.out); have HI9 := Lib.hid (HI8.out.keepB HBL2.out); have HU9 := Lib.hid (HU8.out.keepB HBL2.out); have HB9 := Lib.hid (bnext HB8.out HBL2.out); have HW49 : Hid (w4.heap.size ≤ w8.heap.size) := Nat.le_trans HW46.out (Nat.le_trans HS58.out HS68.out); have HW4c : Hid (w4.heap.size ≤ wc.heap.size) := Nat.le_trans HW49.out HBL2.out.size; clear HBL2 HX8 HA8 HI8 HU8 HB8
               have hrs1 := fun w => resl w v.ba m.best.length v.bc n hn2
               have hrs2 := fun w => resl w ba br.length bc n hn1
               have y0 := box_regrown HA9.out.cell
               simp only [chCells] at y0
               go_wp2_with fail
               refine wp_region_quiet_tail 10 (by kernel_rfl) (by kernel_rfl) ?_
               simp only [List.take_succ_cons, List.take_zero, List.drop_succ_cons, List.drop_zero]
               repeat (first | go_big_quiet_step (fail) | quiet_step (fail))
               refine wpQuiet_nil ?_
               intro wd hw'
               obtain ⟨⟨dq, osq⟩, hw''⟩ := hw'; have hbwd := below_regrown wc dq osq; rw [← hw''] at hbwd; clear hw'' y0 hrs1 hrs2; have HW4d : Hid (w4.heap.size ≤ wd.heap.size) := Nat.le_trans HW4c.out hbwd.size; have HXd := Lib.hid (box_after hbwd HX9.out); have HAd := Lib.hid (HA9.out.keepB hbwd); have HId := Lib.hid (HI9.out.keepB hbwd); have HUd := Lib.hid (HU9.out.keepB hbwd).bound; have HBd := Lib.hid (bnext HB9.out hbwd); clear hbwd HX9 HA9 HI9 HU9 HB9; go_wp2_with fail
               refine (mv_any c SB PI wd r HR.out m m.best br n v HAd.out HOK.out.brun HBR.out HT.out.symm hn1 (by omega) (by omega) _ _ _ _ _ HUd.out.slice (fun k hk => HWM.out k hk.1) HW.out).mono ?_
               rintro e wm ⟨rfl, PI1, pv1, ha1, hs1⟩
               have hxm : ¬ ChMut c v w.heap.size := fun hm => Nat.lt_irrefl _ (H0.out.mut_lt _ hm)
               have HTU : Hid (∀ k, ¬ ChMut c v k → k < wd.heap.size → ¬ ChMut c { v with pv := pv1 } k) := fun k h1 h2 hm => by
                 rcases hs1.turn k hm with h3 | h3
                 · exact h1 h3
                 · omega
               have HXL : Hid (w.heap.size < wd.heap.size) := box_lt HXd.out; have HSDm := Lib.hid hs1; have HAm := Lib.hid ha1
               have HSm : Hid (ChStp c SB PI v w SB PI1 { v with pv := pv1 } wm) := (ChStp.below (SB := SB) (PI := PI) HBd.out).trans hs1
               have HXm := Lib.hid (box_kept hs1.kept HXd.out hxm)
               have HIm := Lib.hid (HId.out.keep (hs1.kept.mono fun k _ hk => (HS.out k hk).1))
               have HUm := Lib.hid (HUd.out.keep (hs1.kept.mono fun k _ hk => HWM.out k hk.1))
               clear ha1 hs1 HXd HAd HId HUd HBd; have x0 := box_regrown HXm.out; have y0 := box_regrown HAm.out.cell
               simp only [chCells] at y0
               go_wp2_with fail
               refine wp_region_quiet_tail 5 (by kernel_rfl) (by kernel_rfl) ?_
               simp only [List.take_succ_cons, List.take_zero, List.drop_succ_cons, List.drop_zero]
               repeat (first | go_big_quiet_step (fail) | quiet_step (fail))
               refine wpQuiet_nil ?_
               intro we hw'
               obtain ⟨⟨de, ose⟩, hw''⟩ := hw'; have hbwe := below_regrown wm de ose; rw [← hw''] at hbwe; clear hw'' x0 y0; have HXe := Lib.hid (box_after hbwe HXm.out); have HSDe := Lib.hid (HSDm.out.trans (ChStp.below (SB := SB) (PI := PI1) hbwe)); have HAe := Lib.hid (HAm.out.keepB hbwe); have HIe := Lib.hid (HIm.out.keepB hbwe); have HUe := Lib.hid (HUm.out.keepB hbwe); have HSe := Lib.hid (HSm.out.trans (ChStp.below (SB := SB) (PI := PI1) hbwe)); clear hbwe HXm HAm HIm HUm HSm
               have hsp : ∀ k, (S k ∧ k < w.heap.size) → ¬ PoMut v.p pv1 k := fun k hk hm => by
                 obtain ⟨h1, h2⟩ := HS.out k hk
                 rcases HSe.out.turn k (.inr (.inr hm)) with h3 | h3
                 · exact h1 h3
                 · omega
               have HSP := Lib.hid hsp; have HAP := Lib.hid (subE_app (m := m) HC1.out HC2.out HC3.out HC4.out HC5.out); rw [HBQ.out] at HAP; clear hsp; go_wp2_with fail
               refine (apply_run v.p PI1 we r HR.out (blksS m.L br) HBR.out (by rw [blks_len]; omega) pv1 HAe.out.state _ b xa xc HIe.out hbl HSP.out).mono ?_
               rintro e' wa ⟨rfl, hpt⟩
               by_cases hap : applyE r (runW r (blksS m.L br)) b = 0
               rotate_left
               · have e9 : apW r (runW r (blksS m.L br)) b = runW r (blksS m.L br) := by unfold apW; rw [if_neg hap]
                 rw [e9] at hpt; obtain ⟨PI2, pv2, ha2, hs2⟩ := HAe.out.moved hpt
                 have HAf : Hid (ChAt c SB PI2 wa r m (blksS m.L br) { v with pv := pv2 }) := ha2
                 have HSf := Lib.hid (HSe.out.trans hs2)
                 have z1 : (applyE r (runW r (blksS m.L br)) b != 0) = true := by rw [bne_iff_ne]; exact hap
                 have HNE := Lib.hid hap; generalize applyE r (runW r (blksS m.L br)) b = E at *; clear hpt ha2 hs2 HXe HAe HIe HUe HSe e9 hap
                 have hrs1 := fun w => resl w v.ba m.best.length v.bc n hn2
                 have hrs2 := fun w => resl w ba br.length bc n hn1
                 have y0 := box_regrown HAf.out.cell
                 simp only [chCells] at y0
                 go_wp2_with fail
                 refine wp_region_quiet_tail 10 (by kernel_rfl) (by kernel_rfl) ?_
                 simp only [List.take_succ_cons, List.take_zero, List.drop_succ_cons, List.drop_zero]
                 repeat (first | go_big_quiet_step (fail) | quiet_step (fail))
                 refine wpQuiet_nil ?_
                 intro wg hw'
                 obtain ⟨⟨dg, osg⟩, hw''⟩ := hw'; have hbwg := below_regrown wa dg osg; rw [← hw''] at hbwg; clear hw'' y0 hrs1 hrs2; have HAg := Lib.hid (HAf.out.keepB hbwg); have HSg := Lib.hid (HSf.out.trans (ChStp.below (SB := SB) (PI := PI2) hbwg)); clear hbwg HAf HSf; go_wp2_with fail
                 refine (mv_any c SB PI2 wg r HR.out m br m.best n { v with pv := pv2 } HAg.out HBR.out HOK.out.brun HT.out hn2 (by omega) (by omega) _ _ _ _ _ HAg.out.best (fun k hk hm => HAg.out.free k hm hk) HOK.out.best).mono ?_
                 rintro e wh ⟨rfl, PI3, pv3, ha3, hs3⟩; have HAh := Lib.hid ha3; have HSh := Lib.hid (HSg.out.trans hs3); clear ha3 hs3 HAg HSg; go_wp2_with fail
                 go_ret3
                 refine .inl ⟨by rw [HAP.out]; exact HNE.out, by rw [HAP.out]; rfl, PI3, pv3, HAh.out, HSh.out⟩
               have HSE : Hid (subE r m b = 0) := HAP.out.trans hap; have HAPZ := Lib.hid hap; rw [apW_ok hap, ← runW_snoc] at hpt; rw [hap]; obtain ⟨PI2, pv2, ha2, hs2⟩ := HAe.out.moved hpt
               have HAf : Hid (ChAt c SB PI2 wa r m (blksS m.L br ++ [b]) { v with pv := pv2 }) := ha2
               have HSDf := Lib.hid (HSDe.out.trans hs2); have HZda : Hid (wd.heap.size ≤ wa.heap.size) := HSDf.out.kept.size
               have HFR : Hid (∀ k, w4.heap.size ≤ k → k < wd.heap.size → ¬ ChMut c { v with pv := pv2 } k ∧ ¬ PI2 k ∧ ¬ SB k) := fun k h1 h2 => by
                 refine ⟨fun hm => ?_, fun hp => ?_, fun hs => ?_⟩
                 · rcases HSDf.out.turn k hm with h3 | h3
                   · exact HWM.out k (.inr h1) h3
                   · omega
                 · rcases HSDf.out.pi' k hp with h3 | h3 | h3
                   · have := H0.out.state.lt k h3; have := HW04.out; omega
                   · exact HWM.out k (.inr h1) h3
                   · omega
                 · have := H0.out.lt k hs; have := HW04.out; omega
               have HSf := Lib.hid (HSe.out.trans hs2)
               have HXf := Lib.hid (box_kept hs2.kept HXe.out (HTU.out _ (fun hm => Nat.lt_irrefl _ (H0.out.mut_lt _ hm)) HXL.out))
               have HIf := Lib.hid (HIe.out.keep (hs2.kept.mono fun k _ hk hm => by
                 obtain ⟨h1, h2⟩ := HS.out k hk
                 rcases HSe.out.turn _ hm with h3 | h3
                 · exact h1 h3
                 · omega))
               have HUf := Lib.hid (HUe.out.keep (hs2.kept.mono fun k _ hk => HTU.out k (HWM.out k hk.1) hk.2))
               clear hpt ha2 hs2 hap HAP HXe HAe HIe HSP HUe HSe HSDf HSDe HSDm; obtain ⟨x0, x1⟩ := box_cells HXf.out
               go_upto_if 164 with (fail)
               go_cut [18] from 160 to 174 (fun v18 wc => v18 = .int .u64 (totS m b) ∧ Hid (Below wa.heap.size wa wc))
               case first =>
                 have HTO : Hid (totS m b = if 0 < br.length then wrapU (b.work + ((findS m.L b.parent).map (·.tot)).getD 0) else b.work) := by show _ = _; rw [← HBQ.out]; rfl
                 by_cases g0 : 0 < br.length
                 · have hh9 : b.height ≠ 1 := by have := HNB.out; omega
                   obtain ⟨e0, he0, -⟩ := par_some HC3.out hh9
                   have HF : Hid (totS m b = wrapU (b.work + e0.tot)) := by show _ = _; rw [HTO.out, if_pos g0, he0]; rfl
                   have hlk : ∀ (d : Nat) (os : Array Obj), (Instr.lookup 104 (.map (some v.mb)) (.int .u64 b.parent) false).run Tryz.prog (grow (redrawn wa d) os) = .ok (.agg #[.int .u64 e0.b.parent, .int .i64 e0.b.height, .int .u64 e0.b.miner, .int .u64 e0.b.work, .int .u64 e0.b.nonce, .slice e0.xa e0.b.txs.length e0.xc, .int .u64 e0.tot]) (grow (redrawn wa d) os) := fun d os => (HAf.out.map.keepB (below_regrown wa d os)).found b.parent hpo e0 he0
                   have hft := fld_tot e0.b.parent e0.b.height e0.b.miner e0.b.work e0.b.nonce e0.tot e0.xa e0.b.txs.length e0.xc; clear x0 x1; have x0 := box_regrown HXf.out; have y0 := box_regrown HAf.out.cell
                   simp only [chCells] at y0
                   have hwu : IntKind.u64.wrap (b.work + e0.tot) = wrapU (b.work + e0.tot) := IntKind.wrap_u64 _; clear he0 hh9; go_wp2_with fail
                   refine wp_region_quiet_below (by kernel_rfl) (by kernel_rfl) ?_
                   repeat (first | go_big_quiet_step (fail) | quiet_step (fail))
                   refine wpQuiet_nil ?_
                   intro wx hw'
                   obtain ⟨⟨dq, osq⟩, hw''⟩ := hw'; have hbwx := below_regrown wa dq osq; rw [← hw''] at hbwx; clear hw'' x0 y0; clear hlk hft; go_wp2_with fail
                   go_meet
                   case rel => exact ⟨by rw [HF.out], hbwx⟩
                 · have HF : Hid (totS m b = b.work) := by show _ = _; rw [HTO.out, if_neg g0]
                   go_wp2_with fail
                   go_meet
                   case rel => exact ⟨by rw [HF.out], Below.refl _ _⟩
               obtain ⟨rfl, HBc5⟩ := hcut; have HXk := Lib.hid (box_after HBc5.out HXf.out); have HAk := Lib.hid (HAf.out.keepB HBc5.out); have HIk := Lib.hid (HIf.out.keepB HBc5.out); have HUk := Lib.hid (HUf.out.keepB HBc5.out); have HSk := Lib.hid (HSf.out.trans (ChStp.below (SB := SB) (PI := PI2) HBc5.out)); have HZdk : Hid (wd.heap.size ≤ wc.heap.size) := Nat.le_trans HZda.out HBc5.out.size; have HTO : Hid (okU (totS m b)) := totS_ok m b hwk; clear HBc5 x0 x1 HXf HAf HIf HUf HSf; go_wp2_with fail
               refine (better_any c SB PI2 wc r m (blksS m.L br ++ [b]) { v with pv := pv2 } HAk.out (by omega) (fun x hx => by obtain ⟨k, hk, rfl⟩ := List.getElem_of_mem hx; obtain ⟨e, he, -⟩ := HOK.out.best k hk; exact ⟨e, he⟩) id (totS m b)).mono ?_
               rintro e wl ⟨rfl, hbl5⟩; have HXl := Lib.hid (box_after hbl5 HXk.out); have HAl := Lib.hid (HAk.out.keepB hbl5); have HIl := Lib.hid (HIk.out.keepB hbl5); have HUl := Lib.hid (HUk.out.keepB hbl5); have HSl := Lib.hid (HSk.out.trans (ChStp.below (SB := SB) (PI := PI2) hbl5)); have HZdl : Hid (wd.heap.size ≤ wl.heap.size) := Nat.le_trans HZdk.out hbl5.size; clear hbl5 HXk HAk HIk HUk HSk; obtain ⟨bet, hbet⟩ : ∃ x, betterB m id (totS m b) = x := ⟨_, rfl⟩
               have HBET : Hid (betS m b = bet) := by show _ = _; rw [← hbet]; unfold betS; rw [HID.out]
               rw [hbet]; obtain ⟨tot, htot⟩ : ∃ x, totS m b = x := ⟨_, rfl⟩; have HTT := Lib.hid htot; rw [htot] at HTO ⊢; clear hbet htot; have hto := HTO.out
               go_upto_region 33 with (fail)
               go_cut [18] from 179 to 187 (fun v18 wp => v18 = .int .u64 tot ∧ StoOut wl m v.mb id b tot wp)
               case first =>
                 obtain ⟨x0, x1⟩ := box_cells HXl.out; obtain ⟨y0, y1⟩ := box_cells HAl.out.cell
                 simp only [chCells] at y0
                 go_region_law (first
                   | (go_simp; go_at_call 203
                      refine (chClone_any _ wl.drew b xa xc (HIl.out.keepB (Below.refl _ _).drew) hbl (fun t ht => by obtain ⟨a1, a2, a3, a4⟩ := HSM.out t ht; exact ⟨a1, a2, by omega, a4⟩)).mono ?_
                      rintro e w7 ⟨ya, yc, rfl, hb7, hbw7⟩; have HB7 : Hid (Below wl.heap.size wl w7) := bnext ((Below.refl wl.heap.size wl).drew) hbw7
                      have HBI7 : Hid (BlkIn (fun k => wl.heap.size ≤ k) w7 b ya yc) := hb7
                      have hst7 := HAl.out.map.keepB HB7.out
                      obtain ⟨w8', hrun, hst8, hon8, hsz8⟩ := sto_put hst7 (by have := HN.out; omega) ⟨id, b, tot, ya, yc⟩ hido (by show findS m.L id = none; rw [← HID.out]; exact HC2.out)
                      have hrun' : (Instr.mapUpdate 104 (.map (some v.mb)) (.int .u64 id) (.agg #[.int .u64 b.parent, .int .i64 b.height, .int .u64 b.miner, .int .u64 b.work, .int .u64 b.nonce, .slice ya b.txs.length yc, .int .u64 tot])).run Tryz.prog w7 = .ok () w8' := hrun; have HOUT : Hid (StoOut wl m v.mb id b tot w8') := StoOut.mk ya yc HAl.out.map.lt hst8 HBI7.out HB7.out hon8; obtain ⟨y0, y1⟩ := box_cells (HAl.out.keepB HB7.out).cell
                      simp only [chCells] at y0
                      clear hrun hst8 hon8 hst7 hb7 hbw7))
                 all_goals
                   go_wp2_with fail
                   go_meet
                   case rel => exact ⟨rfl, HOUT.out⟩
               obtain ⟨rfl, ya, yc, hst, hbi, hkp⟩ := hcut; have HSUB := Lib.hid (sub_zero HSE.out)
               have HNL : Hid (∀ {l : List Int}, branF m.L b ++ [blkID b] = l → blksS (addM m b ya yc).L l = blksS m.L br ++ [b]) := fun e => by
                 rw [← e, ← HBQ.out]; exact blks_new HOK.out HSUB.out ya yc
               have HADD := Lib.hid (add_ok HOK.out HSUB.out HPOS.out ya yc)
               have eadd : (⟨m.L ++ [(⟨id, b, tot, ya, yc⟩ : StB)], m.best, m.final, m.hgt⟩ : ChM) = addM m b ya yc := by unfold addM; rw [HID.out, HTT.out]
               obtain ⟨ha3, hs3⟩ := HAl.out.put ⟨id, b, tot, ya, yc⟩ hkp hst hbi hido HTO.out; rw [eadd] at ha3
               obtain ⟨SB3, hSB3⟩ : ∃ T, (fun k => SB k ∨ (wl.heap.size ≤ k ∧ k < wc.heap.size)) = T := ⟨_, rfl⟩
               have HSB3 : Hid (∀ k, SB3 k → SB k ∨ wl.heap.size ≤ k) := fun k hk => by
                 rw [← hSB3] at hk
                 rcases hk with h1 | h1
                 · exact .inl h1
                 · exact .inr h1.1
               rw [hSB3] at ha3 hs3; have HAp := Lib.hid ha3; have HSp := Lib.hid (HSl.out.trans hs3)
               have HUp := Lib.hid (HUl.out.keep (hkp.mono fun k _ hk e => by
                 have h1 := H0.out.map.lt; have h2 := HW04.out
                 rcases hk.1 with h3 | h3
                 · exact h3
                 · omega))
               have HZlp : Hid (wl.heap.size ≤ wc.heap.size) := hkp.size; clear ha3 hs3 hst hbi hkp eadd hSB3 HAl HSl HUl HXl HIl; have hW4p : w4.heap.size ≤ wc.heap.size := Nat.le_trans HW4d.out (Nat.le_trans HZdl.out HZlp.out); obtain ⟨brn, hbrn⟩ : ∃ l, br ++ [id] = l := ⟨_, rfl⟩
               have HBRN : Hid (branF m.L b ++ [blkID b] = brn) := by show _ = _; rw [HBQ.out, HID.out]; exact hbrn
               have HLN : Hid (brn.length = br.length + 1) := by show _ = _; rw [← hbrn]; simp
               have HTN : Hid (brn.take n = m.best.take n) := by show _ = _; rw [← hbrn, List.take_append_of_le_length hn1]; exact HT.out
               have HBRR := Lib.hid hbrn; clear hbrn
               go_wp2_with (at_builtin; refine wpList_append_rel (r := u64R) (base := w4.heap.size) (v := .slice ba br.length bc) (u := .slice (some ⟨wc.heap.size, 0, none⟩) 1 1) (S := fun _ => False) rfl _ _ rfl Tryz.etyNums rfl rfl (HUp.out.keepB (bnew (Below.refl _ _) (.cells #[.int .u64 id] 24))) (Src.one (r := u64R) (y := id) ⟨rfl, hido⟩ (CellsAt.new wc [.int .u64 id] 24)) (fun _ _ h => h.elim) (fun _ _ h => h) (by unfold maxLen; simp; omega) (by simp; omega) (by rw [World.size_alloc]; omega) ?_)
               intro v9 w9 ho9 hk9 hl9
               rw [HBRR.out] at ho9; obtain ⟨bz, bcz, rfl, -, -⟩ := own_form ho9; have hbp := bnew (Below.refl wc.heap.size wc) (.cells #[.int .u64 id] 24)
               have hown : ∀ k, (Value.slice ba br.length bc).ownBlock = some k → w4.heap.size ≤ k ∧ k < wd.heap.size := fun k e => by
                 obtain ⟨-, h2, -⟩ := HUp.out.lt e
                 rcases h2.1 with h3 | h3
                 · exact h3.elim
                 · exact ⟨h3, h2.2⟩
               have HA9 : Hid (ChAt c SB3 PI2 w9 r (addM m b ya yc) (blksS m.L br ++ [b]) { v with pv := pv2 }) := (HAp.out.keepB hbp).keep hk9
                 (fun k hk e => by
                   obtain ⟨h1, h2⟩ := hown k e
                   rcases HSB3.out k hk with h3 | h3
                   · exact (HFR.out k h1 h2).2.2 h3
                   · have := HZdl.out; omega)
                 (fun k hk e => by obtain ⟨h1, h2⟩ := hown k e; exact (HFR.out k h1 h2).2.1 hk)
                 (fun k hk e => by obtain ⟨h1, h2⟩ := hown k e; exact (HFR.out k h1 h2).1 hk)
               have HS9 : Hid (ChStp c SB PI v w SB3 PI2 { v with pv := pv2 } w9) := ⟨(HSp.out.kept.trans (Kept.of_below hbp) fun _ _ h => h).trans hk9 (fun k hk _ e => by obtain ⟨h1, h2⟩ := hown k e; have := HW04.out; omega), HSp.out.turn, HSp.out.sb, HSp.out.sb', HSp.out.pi'⟩
               have HF9 : Hid (numsR.rel (fun k => w4.heap.size ≤ k ∧ ¬ ChMut c { v with pv := pv2 } k) w9 [.slice bz brn.length bcz] brn) := numsR.mono ho9.slice fun k _ hk => by
                 rcases hk with h1 | h1
                 · have h2 : w4.heap.size ≤ k := by
                     first
                       | exact h1.1
                       | (rcases h1.1 with h | h; exact h.elim; exact h)
                   exact ⟨h2, (HFR.out k h2 h1.2).1⟩
                 · have h3 : wc.heap.size + 1 ≤ k := by first | exact h1 | (rw [World.size_alloc] at h1; exact h1)
                   exact ⟨by omega, fun hm => by have := HAp.out.mut_lt k hm; omega⟩
               have HCU : Hid (cntU m b = if bet = true then (m.best.length : Int) - n else 0) := by show _ = _; unfold cntU; rw [HBET.out, HBQ.out, HNC.out]
               have HCA : Hid (cntA m b = if bet = true then (brn.length : Int) - n else 0) := by show _ = _; unfold cntA; rw [HBET.out, HBQ.out, HNC.out, HLN.out]; push_cast; rfl
               clear hbp hown ho9 hk9 hl9 HAp HSp HUp
               have hnb : n ≤ brn.length := by have := HLN.out; omega
               cases bet with
               | false =>
                 have hrs1 := fun w => resl w bz brn.length bcz n hnb
                 have hrs2 := fun w => resl w v.ba m.best.length v.bc n hn2
                 have y0 : ∀ (d : Nat) (os : Array Obj) (i : Nat), (grow (redrawn w9 d) os).cell? ⟨c, i, none⟩ = (chCells r m { v with pv := pv2 })[i]? := box_regrown HA9.out.cell
                 simp only [chCells] at y0
                 go_wp2_with fail
                 refine wp_region_quiet_tail 10 (by kernel_rfl) (by kernel_rfl) ?_
                 simp only [List.take_succ_cons, List.take_zero, List.drop_succ_cons, List.drop_zero]
                 repeat (first | go_big_quiet_step (fail) | quiet_step (fail))
                 refine wpQuiet_nil ?_
                 intro wg hw'
                 obtain ⟨⟨dg, osg⟩, hw''⟩ := hw'; have hbwg := below_regrown w9 dg osg; rw [← hw''] at hbwg; clear hw'' y0 hrs1 hrs2; have HAg := Lib.hid (HA9.out.keepB hbwg); have HSg := Lib.hid (HS9.out.trans (ChStp.below (SB := SB3) (PI := PI2) hbwg)); have HFg := Lib.hid (numsR.keepB HF9.out hbwg); rw [← HNL.out HBRN.out] at HAg
                 have HRN : Hid (RunOK r (blksS (addM m b ya yc).L brn)) := by
                   show RunOK _ _
                   rw [HNL.out HBRN.out, ← HBQ.out]
                   exact run_new HOK.out HSUB.out HPOS.out
                 clear hbwg HA9 HS9 HF9; go_wp2_with fail
                 refine (mv_any c SB3 PI2 wg r HR.out (addM m b ya yc) brn m.best n { v with pv := pv2 } HAg.out HRN.out HADD.out.brun HTN.out hn2 (by have := HLN.out; omega) (by omega) _ _ _ _ _ HAg.out.best (fun k hk hm => HAg.out.free k hm hk) HADD.out.best).mono ?_
                 rintro e wh ⟨rfl, PI3, pv3, ha3, hs3⟩; have HAh := Lib.hid ha3; have HSh := Lib.hid (HSg.out.trans hs3); clear ha3 hs3 HAg HSg; go_wp2_with fail
                 go_ret3
                 refine .inr ⟨HSE.out, by rw [HCU.out, HCA.out]; rfl, ya, yc, SB3, PI3, { v with pv := pv3 }, ?_, HSh.out⟩
                 rw [subM_no HBET.out]
                 exact HAh.out
               | true =>
                 have HCU' : Hid (cntU m b = (m.best.length : Int) - n) := HCU.out; have HCA' : Hid (cntA m b = (brn.length : Int) - n) := HCA.out
                 have HWX : Hid (wrap64 ((brn.length : Int) - (n : Int)) = (brn.length : Int) - n) := by have := HLN.out; show _ = _; unfold wrap64; omega
                 obtain ⟨ha4, hk4⟩ := HA9.out.setBest brn bz bcz HF9.out fun k hk => hk.2
                 have HA4 := Lib.hid ha4; have HK4 := Lib.hid hk4; obtain ⟨y0', y1⟩ := box_cells HA9.out.cell
                 have y0 : ∀ (i : Nat), w9.cell? ⟨c, i, none⟩ = (chCells r m { v with pv := pv2 })[i]? := y0'
                 simp only [chCells] at y0
                 clear ha4 hk4 y0'
                 go_upto_region 40 with (fail)
                 generalize w9.setCell ⟨c, 11, none⟩ (.slice bz brn.length bcz) = w10 at *; clear y0 y1; go_wp2_with fail
                 refine (finish_any c _ PI2 w10 r _ _ _ HA4.out HR.out.f0 HR.out.f1 (by show brn.length ≤ 100000; have := HLN.out; omega)).mono ?_
                 rintro e w11 ⟨rfl, ha5, hk5⟩; have HA5' := Lib.hid ha5; have HK5' := Lib.hid hk5; clear ha5 hk5 HA4; go_wp2_with fail
                 go_ret3
                 have e1 : subM r m b ya yc = finM r ⟨(addM m b ya yc).L, brn, (addM m b ya yc).final, (addM m b ya yc).hgt⟩ := by rw [subM_yes HBET.out, HBRN.out]; rfl
                 refine .inr ⟨HSE.out, by rw [HCU'.out, HCA'.out]; exact congrArg (fun x => Ending.returned (.tuple #[.int .i64 ((m.best.length : Int) - n), .int .i64 x, .int .i64 0])) HWX.out, ya, yc, fun k => SB3 k ∨ ((w4.heap.size ≤ k ∧ ¬ ChMut c { v with pv := pv2 } k) ∧ k < w9.heap.size), PI2, { v with ba := bz, bc := bcz, pv := pv2 }, ?_, ?_⟩
                 · rw [e1, finM_L, finM_best]
                   show ChAt _ _ _ _ _ _ (blksS (addM m b ya yc).L brn) _
                   rw [HNL.out HBRN.out]
                   exact HA5'.out
                 · refine ⟨(HS9.out.kept.trans HK4.out fun k _ h e => ?_).trans HK5'.out fun k _ h e => h (.inl e), HS9.out.turn, fun k hk => .inl (HS9.out.sb k hk), fun k hk => ?_, HS9.out.pi'⟩
                   · exact h (.inl e)
                   · rcases hk with h1 | h1
                     · exact HS9.out.sb' k h1
                     · exact .inr (Nat.le_trans HW04.out h1.1.1)
end Go.Proofs.YtphacfkcifpobaaGreatDoor
