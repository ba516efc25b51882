/- The law ChainOrder: its walk. -/
import Derived.Test.YtcnhicijimiegaaGreatDoorCla
import Derived.Test.YtcnhicijimiegaaGreatDoorMOrA
import Derived.Test.YtcnhicijimiegaaGreatDoorMSrt
import Derived.Test.YtcnhicijimiegaaGreatDoorLwC
set_option maxRecDepth 100000
namespace Go.Proofs.YtcnhicijimiegaaGreatDoor
open Go.ChangeShapes Go.WideShapes Go.ChangeAt Go.RowKit Go.Sort
def SubStep (c : Nat) (SB PI : Nat → Prop) (v : ChV) (w : World) (r : RuM) (m : ChM) (b : BlkM) (e : Ending) (w' : World) : Prop :=
 ∃ (x y z : Int) (m' : ChM) (SB' PI' : Nat → Prop) (v' : ChV), e = .returned (.tuple #[.int .i64 x, .int .i64 y, .int .i64 z]) ∧ ChAt c SB' PI' w' r m' (blksS m'.L m'.best) v' ∧ ChStp c SB PI v w SB' PI' v' w' ∧ Steps r m [b] m'
theorem submit_step (c : Nat) (SB PI : Nat → Prop) (w : World) (r : RuM) (hr : RuOK r) (hmo : r.mode = 2) (m : ChM) (v : ChV) (h : ChAt c SB PI w r m (blksS m.L m.best) v) (ok : ChOK r m) (hn : m.L.length ≤ 100) (S : Nat → Prop) (b : BlkM) (xa : Option Addr) (xc : Nat) (hb : BlkIn S w b xa xc) (hS : ∀ k, S k → ¬ ChMut c v k) (hsm : smallBk b = true) :
   Calls Tryz.prog 8 #[.pointer (some ⟨c, 0, none⟩), .agg #[.int .u64 b.parent, .int .i64 b.height, .int .u64 b.miner, .int .u64 b.work, .int .u64 b.nonce, .slice xa b.txs.length xc]] w (SubStep c SB PI v w r m b) :=
 (submit_any c SB PI w r hr hmo m v h ok hn S b xa xc hb hS (fun t ht => by
   obtain ⟨h1, h2, h3, h4⟩ := (smallBk_of hsm).2 t ht
   exact ⟨by omega, by omega, by omega, fun o ho => by have := h4 o ho; omega⟩)).mono fun e w' hso => by
     rcases hso with ⟨hne, rfl, PI', pv', hat, hst⟩ | ⟨hz, rfl, ya, yc, SB', PI', v', hat, hst⟩
     · exact ⟨_, _, _, m, SB, PI', _, rfl, hat, hst, .no hne (.nil m)⟩
     · exact ⟨_, _, _, _, SB', PI', v', rfl, hat, hst, .yes hz ya yc (.nil _)⟩
theorem isTip_same {m m' : ChM} (h1 : ∀ x e, findS m.L x = some e → ∃ e', findS m'.L x = some e' ∧ e'.b = e.b) (h2 : ∀ x e, findS m'.L x = some e → ∃ e', findS m.L x = some e' ∧ e'.b = e.b) (x : Int) : isTip m x ↔ isTip m' x := by
 have hh : ∀ {m m' : ChM}, (∀ x e, findS m.L x = some e → ∃ e', findS m'.L x = some e' ∧ e'.b = e.b) → (∀ x e, findS m'.L x = some e → ∃ e', findS m.L x = some e' ∧ e'.b = e.b) → isTip m x → isTip m' x := fun {m m'} h1 h2 ⟨⟨e, he⟩, hn⟩ => by
   obtain ⟨e', he', -⟩ := h1 x e he
   refine ⟨⟨e', he'⟩, fun y f hf hc => ?_⟩
   obtain ⟨f', hf', hb⟩ := h2 y f hf
   exact hn y f' hf' (by rw [hb]; exact hc)
 exact ⟨hh h1 h2, hh h2 h1⟩
theorem steps_take {r : RuM} {m m' : ChM} {l : List BlkM} {k i : Nat} (hi : i < l.length) {x : BlkM} (hx : l[i] = x) (h : Steps r ⟨[], [], 0, 0⟩ ((List.replicate k l).flatten ++ l.take i) m) (h2 : Steps r m [x] m') : Steps r ⟨[], [], 0, 0⟩ ((List.replicate k l).flatten ++ l.take (i + 1)) m' := by
 rw [List.take_succ_eq_append_getElem hi, ← List.append_assoc, hx]
 exact h.app h2
theorem steps_round {r : RuM} {m : ChM} {l : List BlkM} {k : Nat} (h : Steps r ⟨[], [], 0, 0⟩ ((List.replicate k l).flatten ++ l.take l.length) m) : Steps r ⟨[], [], 0, 0⟩ ((List.replicate (k + 1) l).flatten ++ l.take 0) m := by
 rw [List.take_length] at h; rw [List.take_zero, List.append_nil, List.replicate_succ']; rw [List.flatten_append]
 simpa using h
theorem nodup_len : ∀ (l m : List Int), l.Nodup → (∀ x ∈ l, x ∈ m) → l.length ≤ m.length
 | [], m, _, _ => Nat.zero_le _
 | x :: l, m, h, hs => by
   have h1 := List.nodup_cons.1 h
   have hx : x ∈ m := hs x (by simp)
   have h2 := nodup_len l (m.erase x) h1.2 fun y hy => (List.mem_erase_of_ne (fun e => h1.1 (by rw [← e]; exact hy))).2 (hs y (by simp [hy]))
   rw [List.length_erase_of_mem hx] at h2; have h3 := List.length_pos_of_mem hx
   simp only [List.length_cons]
   omega
theorem tips_len {m : ChM} {T : List Int} (h : T.Pairwise (· < ·)) (hm : ∀ x ∈ T, isTip m x) : T.length ≤ m.L.length := by
 have := nodup_len T (m.L.map (·.id)) (h.imp fun h e => by omega) fun x hx => by
   obtain ⟨⟨e, he⟩, -⟩ := hm x hx; obtain ⟨h1, h2⟩ := findS_some he
   exact List.mem_map.2 ⟨e, h1, h2⟩
 rwa [List.length_map] at this
theorem cell_below2 {w w' : World} {a : Addr} {v : Value} (hb : Below w.heap.size w w') (h : w.cell? a = some v) : w'.cell? a = some v := (Kept.of_below (S := fun _ => True) hb).cell trivial h
set_option maxHeartbeats 4000000 in
theorem order_law (w : World) (r : RuM) (hrw : okU r.rew) (l : List BlkM) (la : Option Addr) (lc : Nat) (h : blksR.rel (fun k => k < w.heap.size) w [.slice la l.length lc] l) (os : List Int) (ra : Option Addr) (rc : Nat) (hos : bytesR.rel (fun k => k < w.heap.size) w [.slice ra os.length rc] os) :
   Calls Tryz.prog 3 #[.agg #[.int .i64 r.mode, .int .i64 r.depth, .int .i64 r.bl, .int .i64 r.bu, .int .i64 r.qu, .int .u64 r.rew, .int .i64 r.win, .int .i64 r.fin, .int .u64 r.work], .slice la l.length lc, .slice ra os.length rc] w fun e w' => e = .returned (.bool true) ∧ Below w.heap.size w w' := by
 have g1 := (sliceR.lens h).2; have g2 := (sliceR.lens hos).2; unfold maxLen at g1 g2; have hbA := bnew (Below.refl w.heap.size w) (.cells #[.int .i64 r.mode, .int .i64 r.depth, .int .i64 r.bl, .int .i64 r.bu, .int .i64 r.qu, .int .u64 r.rew, .int .i64 r.win, .int .i64 r.fin, .int .u64 r.work] 26); have HX := Lib.hid (box_new w (.cells #[.int .i64 r.mode, .int .i64 r.depth, .int .i64 r.bl, .int .i64 r.bu, .int .i64 r.qu, .int .u64 r.rew, .int .i64 r.win, .int .i64 r.fin, .int .u64 r.work] 26)); have H := Lib.hid (blksR.keepB h hbA); have HOS := Lib.hid (bytesR.keepB hos hbA); have HB := Lib.hid hbA; clear hbA h hos
 go_enter Tryz.func3, Tryz.ntmps3
 go_upto_region 1 with (fail)
 generalize w.alloc (.cells #[.int .i64 r.mode, .int .i64 r.depth, .int .i64 r.bl, .int .i64 r.bu, .int .i64 r.qu, .int .u64 r.rew, .int .i64 r.win, .int .i64 r.fin, .int .u64 r.work] 26) = W at *; go_wp2_with fail
 refine (awake48_any W).mono ?_
 rintro e w1 ⟨rfl, hb1⟩; obtain ⟨x0, x1⟩ := box_cells (box_after hb1 HX.out); go_wp2_with fail
 refine (right_any _ w1 r.mode r.depth r.bl r.bu r.qu r.rew r.win r.fin r.work l la lc 8 (blksR.keepB H.out hb1)).mono ?_
 rintro e w2 ⟨rfl, hb2⟩; have HB2 := Lib.hid (bnext hb1 hb2); clear x0 x1 hb1 hb2; obtain ⟨rt, hrt⟩ : ∃ x, rightL r.mode r.depth r.bl r.bu r.qu r.rew r.win r.fin r.work l 8 = x := ⟨_, rfl⟩; have HRT := Lib.hid hrt; rw [hrt]; clear hrt; obtain ⟨x0, x1⟩ := box_cells (box_after HB2.out HX.out)
 cases rt with
 | false =>
   go_wp2_with fail
   refine (awake48_any w2).mono ?_
   rintro e w3 ⟨rfl, hb3⟩; go_wp2_with fail; go_ret
   exact ⟨rfl, bnext HB.out (bnext HB2.out hb3)⟩
 | true =>
   have HRR : Hid ((∀ b ∈ l, smallBk b = true) ∧ r.mode = 2 ∧ l.length ≤ 8 ∧ ruleE r = 0) := by
     have h1 := HRT.out; unfold rightL at h1
     simp only [Bool.and_eq_true, beq_iff_eq] at h1
     obtain ⟨h2, h3, -, h4⟩ := fewB_of h1.1
     exact ⟨h2, h3, by omega, h1.2⟩
   have HMO := Lib.hid HRR.out.2.1; have HL8 : Hid (l.length ≤ 8) := HRR.out.2.2.1; have HRU := Lib.hid (ruleE_ok HRR.out.2.2.2 hrw); have HRE := Lib.hid HRR.out.2.2.2; have HSMB := Lib.hid HRR.out.1; clear HRT HRR
   by_cases hfl : r.fin < (l.length : Int)
   · have z1 : decide (r.fin < (l.length : Int)) = true := decide_eq_true hfl
     go_wp2_with fail
     refine (awake48_any w2).mono ?_
     rintro e w3 ⟨rfl, hb3⟩; go_wp2_with fail; go_ret
     exact ⟨rfl, bnext HB.out (bnext HB2.out hb3)⟩
   · have z1 : decide (r.fin < (l.length : Int)) = false := decide_eq_false hfl
     have HFL : Hid ((l.length : Int) ≤ r.fin) := by show _ ≤ _; omega
     go_wp2_with fail
     refine (clash_any _ w2 l la lc (blksR.keepB H.out HB2.out) (by have := HL8.out; omega) HSMB.out).mono ?_
     rintro e w3 ⟨cl, rfl, hnc, hb3⟩; have HB3 := Lib.hid (bnext HB2.out hb3); clear x0 x1 hb3 HB2 hfl z1
     cases cl with
     | true =>
       go_wp2_with fail
       refine (awake48_any w3).mono ?_
       rintro e w4 ⟨rfl, hb4⟩; go_wp2_with fail; go_ret
       exact ⟨rfl, bnext HB.out (bnext HB3.out hb4)⟩
     | false =>
       have HNC := Lib.hid (hnc rfl); clear hnc
       have HS0 : Hid (∀ k, k < w3.heap.size → k < w.heap.size → k < w3.heap.size) := fun _ h _ => h
       have HSW : Hid (W.heap.size ≤ w3.heap.size) := HB3.out.size
       go_wp2_with (at_builtin; refine wpList_append_rel (r := blkR) (base := w3.heap.size) (F := fun k => k < w3.heap.size) rfl _ _ rfl Tryz.etyBlk rfl rfl (Own.nil blkR _ _ _ w3) (Src.of_slice (blksR.keepB H.out HB3.out)) HS0.out (fun k e => by have e2 : (none : Option Nat) = some k := e; simp at e2) (by unfold maxLen; have := HL8.out; simp; omega) (by have := HL8.out; simp; omega) (Nat.le_refl _) ?_)
       intro v7 W4 ho4 hk4 _
       have HO4 : Hid (Own blkR w3.heap.size 34 (fun k => k < w3.heap.size ∨ w3.heap.size ≤ k) W4 v7 l) := ho4
       have HB4 : Hid (Below W.heap.size W W4) := Kept.behind HB3.out hk4 HSW.out (fun k _ e => by simp [Value.ownBlock] at e)
       obtain ⟨mxa, mxc, rfl, -, -⟩ := own_form ho4; clear ho4 hk4 HS0; go_wp2_with fail
       go_loopw [47] (fun vi wr => ∃ (i : Nat) (mx : List BlkM), i ≤ os.length ∧ vi = .int .i64 i ∧ Hid (mx.length = l.length) ∧ Hid (∀ b, b ∈ mx ↔ b ∈ l) ∧ Hid (Own blkR w3.heap.size 34 (fun k => k < w3.heap.size ∨ w3.heap.size ≤ k) wr (.slice mxa l.length mxc) mx) ∧ Hid (Below W.heap.size W wr)) (fun vi _ => os.length - (intOf vi).toNat)
       case atStart => exact ⟨0, l, Nat.zero_le _, rfl, (show l.length = l.length from rfl), (fun b => Iff.rfl), HO4, HB4⟩
       case round =>
         clear HO4 HB4; obtain ⟨i, mx, hi, rfl, HMLEN, HMEM, HOM, HBR⟩ := hrel
         by_cases hio : i < os.length
         · obtain ⟨bb, off, rfl, hbl, -, hz0, hz1, hcb⟩ := bytes_at (bytesR.keepB HOS.out HBR.out) i hio
           obtain ⟨z, hz⟩ : ∃ x, os[i] = x := ⟨_, rfl⟩; rw [hz] at hz0 hz1 hcb; clear hz
           by_cases hil : i < l.length
           · have him : i < mx.length := by have := HMLEN.out; omega
             have hzm0 : 0 ≤ z % (l.length : Int) := Int.emod_nonneg _ (by omega)
             have hzm1 : z % (l.length : Int) < (l.length : Int) := Int.emod_lt_of_pos _ (by omega)
             have hlz : (l.length : Int) ≠ 0 := by omega
             obtain ⟨k, hk⟩ : ∃ k : Nat, z % (l.length : Int) = (k : Int) := ⟨(z % (l.length : Int)).toNat, by omega⟩
             have hkl : k < l.length := by omega
             have hkm : k < mx.length := by have := HMLEN.out; omega
             go_upto_region 10 with (fail)
             rw [hk]; have HOQ := Lib.hid (HOM.out.keepB (Below.refl _ _).drew); obtain ⟨g, cap, xa, xc, ya, yc, hv, hgF, hgB, r1, r2, t1, t2, w2, hw2, hown, hkep⟩ := Own.swapB HOQ.out i k him hkm
             have hva : mxa = some ⟨g, 0, none⟩ := by simp only [Value.slice.injEq] at hv; exact hv.1
             obtain ⟨bi, hbi⟩ : ∃ x, mx[i] = x := ⟨_, rfl⟩; obtain ⟨bk, hbk⟩ : ∃ x, mx[k] = x := ⟨_, rfl⟩; rw [hbi] at r1; rw [hbk] at r2 t2; rw [hbi, hbk] at hw2; subst hva; have HR1 := Lib.hid r1; have HR2 := Lib.hid r2; have T1 := Lib.hid t1; have T2 := Lib.hid t2; have HW2 := Lib.hid hw2; have HOWN := Lib.hid hown
             have HSL : Hid ((swapE mx i k him hkm).length = l.length) := by show _ = _; rw [swapE_len]; exact HMLEN.out
             have HSM2 : Hid (∀ b, b ∈ swapE mx i k him hkm ↔ b ∈ l) := fun b => by rw [swapE_mem]; exact HMEM.out b
             have HBN : Hid (Below W.heap.size W w2) := Kept.behind HBR.out.drew hkep HBR.out.size (fun j hj => by show j ≠ _; have := HSW.out; omega)
             have i0 : (0 : Int) ≤ (i : Int) := by omega
             have i1 : (i : Int) < (l.length : Int) := by omega
             have k0 : (0 : Int) ≤ (k : Int) := by omega
             have k1 : (k : Int) < (l.length : Int) := by omega
             clear hk hbi hbk hv r1 r2 t1 t2 hw2 hown hkep hzm0 hzm1
             refine wp_region_any (by kernel_rfl) ?_
             change wpAny _ _ _ _ _ _ _ (World.drew _)
             refine wpAny_take (i := 0) (v := ?_) rfl (by kernel_rfl) (by kernel_rfl) (by kernel_rfl) (fun _ _ _ h => h) (Or.inl ⟨by rfl, ?_⟩) ?_
             rotate_left
             · intro wz
               go_simp
               all_goals with_reducible rfl
             go_simp
             refine wpAny_take (i := 1) (v := ?_) rfl (by kernel_rfl) (by kernel_rfl) (by kernel_rfl) (fun _ _ _ h => h) (Or.inl ⟨by rfl, ?_⟩) ?_
             rotate_left
             · intro wz
               go_simp
               all_goals with_reducible rfl
             go_simp
             refine wpAny_take (i := 2) (v := ?_) rfl (by kernel_rfl) (by kernel_rfl) (by kernel_rfl) (fun _ _ _ h => h) (Or.inl ⟨by rfl, ?_⟩) ?_
             rotate_left
             · intro wz
               go_simp
               all_goals with_reducible rfl
             go_simp
             refine wpAny_take (i := 3) (v := ?_) rfl (by kernel_rfl) (by kernel_rfl) (by kernel_rfl) (fun _ _ _ h => h) (Or.inl ⟨by rfl, ?_⟩) ?_
             rotate_left
             · intro wz
               go_simp
               all_goals with_reducible rfl
             go_simp
             refine wpAny_take (i := 4) (v := ?_) rfl (by kernel_rfl) (by kernel_rfl) (by kernel_rfl) (fun _ _ _ h => h) (Or.inl ⟨by rfl, ?_⟩) ?_
             rotate_left
             · intro wz
               go_simp
               all_goals with_reducible rfl
             go_simp
             refine wpAny_take (i := 5) (v := ?_) rfl (by kernel_rfl) (by kernel_rfl) (by kernel_rfl) (fun _ _ _ h => h) (Or.inl ⟨by rfl, ?_⟩) ?_
             rotate_left
             · intro wz
               go_simp
               all_goals with_reducible rfl
             go_simp
             refine wpAny_take (i := 6) (v := ?_) rfl (by kernel_rfl) (by kernel_rfl) (by kernel_rfl) (fun _ _ _ h => h) (Or.inl ⟨by rfl, ?_⟩) ?_
             rotate_left
             · intro wz
               go_simp
               all_goals with_reducible rfl
             go_simp
             refine wpAny_take (i := 8) (v := ?_) rfl (by kernel_rfl) (by kernel_rfl) (by kernel_rfl) (fun _ _ _ h => h) (Or.inl ⟨by rfl, ?_⟩) ?_
             rotate_left
             · intro wz
               go_simp
               all_goals with_reducible rfl
             go_simp
             refine wpAny_take (i := 9) (v := ?_) rfl (by kernel_rfl) (by kernel_rfl) (by kernel_rfl) (fun _ _ _ h => h) (Or.inl ⟨by rfl, ?_⟩) ?_
             rotate_left
             · intro wz
               go_simp
               all_goals with_reducible rfl
             go_simp
             refine wpAny_take (i := 10) (v := ?_) rfl (by kernel_rfl) (by kernel_rfl) (by kernel_rfl) (fun _ _ _ h => h) (Or.inl ⟨by rfl, ?_⟩) ?_
             rotate_left
             · intro wz
               go_simp
               all_goals with_reducible rfl
             go_simp
             refine wpAny_ready (rs := [7, 11]) (by kernel_rfl) (by simp) ?_
             refine AllReady.cons rfl (fun K hK => ?_) ?_
             · refine step_load_mid rfl _ _ rfl g (k * 6) rfl [.int .u64 bk.parent, .int .i64 bk.height, .int .u64 bk.miner, .int .u64 bk.work, .int .u64 bk.nonce, .slice ya bk.txs.length yc] _ HR2.out Tryz.underlying34 rfl (by kernel_rfl) ?_
               go_simp
               refine hK _ _ ?_
               clear hK K
               refine wpAny_ready (rs := [11]) (by kernel_rfl) (by simp) ?_
               refine AllReady.cons rfl (fun K hK => ?_) AllReady.nil
               refine step_load_mid rfl _ _ rfl g (i * 6) rfl [.int .u64 bi.parent, .int .i64 bi.height, .int .u64 bi.miner, .int .u64 bi.work, .int .u64 bi.nonce, .slice xa bi.txs.length xc] _ HR1.out Tryz.underlying34 rfl (by kernel_rfl) ?_
               go_simp
               refine hK _ _ ?_
               clear hK K
               refine wpAny_take (i := 12) (v := ?_) rfl (by kernel_rfl) (by kernel_rfl) (by kernel_rfl) (fun _ _ _ h => h) (Or.inl ⟨by rfl, ?_⟩) ?_
               rotate_left
               · intro wz
                 go_simp
                 all_goals with_reducible rfl
               go_simp
               refine wpAny_ready (rs := [13]) (by kernel_rfl) (by simp) ?_
               refine AllReady.cons rfl (fun K hK => ?_) AllReady.nil
               refine step_store_mid rfl _ _ _ rfl g (i * 6) _ rfl rfl T1.out (by kernel_rfl) (by kernel_rfl) ?_
               change K _ (World.setCells wr.drew g (i * 6) [.int .u64 bk.parent, .int .i64 bk.height, .int .u64 bk.miner, .int .u64 bk.work, .int .u64 bk.nonce, .slice ya bk.txs.length yc])
               obtain ⟨w1s, hw1s⟩ : ∃ x, World.setCells wr.drew g (i * 6) [.int .u64 bk.parent, .int .i64 bk.height, .int .u64 bk.miner, .int .u64 bk.work, .int .u64 bk.nonce, .slice ya bk.txs.length yc] = x := ⟨_, rfl⟩; rw [hw1s] at T2 HW2 ⊢; clear hw1s
               go_simp
               refine hK _ _ ?_
               clear hK K
               refine wpAny_take (i := 14) (v := ?_) rfl (by kernel_rfl) (by kernel_rfl) (by kernel_rfl) (fun _ _ _ h => h) (Or.inl ⟨by rfl, ?_⟩) ?_
               rotate_left
               · intro wz
                 go_simp
                 all_goals with_reducible rfl
               go_simp
               refine wpAny_ready (rs := [15]) (by kernel_rfl) (by simp) ?_
               refine AllReady.cons rfl (fun K hK => ?_) AllReady.nil
               refine step_store_mid rfl _ _ _ rfl g (k * 6) _ rfl rfl T2.out (by kernel_rfl) (by kernel_rfl) ?_
               change K _ (World.setCells w1s g (k * 6) [.int .u64 bi.parent, .int .i64 bi.height, .int .u64 bi.miner, .int .u64 bi.work, .int .u64 bi.nonce, .slice xa bi.txs.length xc])
               rw [HW2.out]
               go_simp
               refine hK _ _ ?_
               clear hK K
               refine wpAny_done (by kernel_rfl) ?_ _
               go_wp2_with fail
               go_roundw
               case rel => exact ⟨i + 1, swapE mx i k him hkm, by omega, by go_num, HSL, HSM2, HOWN, HBN⟩
               case measure => first | (simp [intOf]; done) | (simp [intOf]; omega)
             · refine AllReady.cons rfl (fun K hK => ?_) AllReady.nil
               refine step_load_mid rfl _ _ rfl g (i * 6) rfl [.int .u64 bi.parent, .int .i64 bi.height, .int .u64 bi.miner, .int .u64 bi.work, .int .u64 bi.nonce, .slice xa bi.txs.length xc] _ HR1.out Tryz.underlying34 rfl (by kernel_rfl) ?_
               go_simp
               refine hK _ _ ?_
               clear hK K
               refine wpAny_ready (rs := [7]) (by kernel_rfl) (by simp) ?_
               refine AllReady.cons rfl (fun K hK => ?_) AllReady.nil
               refine step_load_mid rfl _ _ rfl g (k * 6) rfl [.int .u64 bk.parent, .int .i64 bk.height, .int .u64 bk.miner, .int .u64 bk.work, .int .u64 bk.nonce, .slice ya bk.txs.length yc] _ HR2.out Tryz.underlying34 rfl (by kernel_rfl) ?_
               go_simp
               refine hK _ _ ?_
               clear hK K
               refine wpAny_take (i := 12) (v := ?_) rfl (by kernel_rfl) (by kernel_rfl) (by kernel_rfl) (fun _ _ _ h => h) (Or.inl ⟨by rfl, ?_⟩) ?_
               rotate_left
               · intro wz
                 go_simp
                 all_goals with_reducible rfl
               go_simp
               refine wpAny_ready (rs := [13]) (by kernel_rfl) (by simp) ?_
               refine AllReady.cons rfl (fun K hK => ?_) AllReady.nil
               refine step_store_mid rfl _ _ _ rfl g (i * 6) _ rfl rfl T1.out (by kernel_rfl) (by kernel_rfl) ?_
               change K _ (World.setCells wr.drew g (i * 6) [.int .u64 bk.parent, .int .i64 bk.height, .int .u64 bk.miner, .int .u64 bk.work, .int .u64 bk.nonce, .slice ya bk.txs.length yc])
               obtain ⟨w1s, hw1s⟩ : ∃ x, World.setCells wr.drew g (i * 6) [.int .u64 bk.parent, .int .i64 bk.height, .int .u64 bk.miner, .int .u64 bk.work, .int .u64 bk.nonce, .slice ya bk.txs.length yc] = x := ⟨_, rfl⟩; rw [hw1s] at T2 HW2 ⊢; clear hw1s
               go_simp
               refine hK _ _ ?_
               clear hK K
               refine wpAny_take (i := 14) (v := ?_) rfl (by kernel_rfl) (by kernel_rfl) (by kernel_rfl) (fun _ _ _ h => h) (Or.inl ⟨by rfl, ?_⟩) ?_
               rotate_left
               · intro wz
                 go_simp
                 all_goals with_reducible rfl
               go_simp
               refine wpAny_ready (rs := [15]) (by kernel_rfl) (by simp) ?_
               refine AllReady.cons rfl (fun K hK => ?_) AllReady.nil
               refine step_store_mid rfl _ _ _ rfl g (k * 6) _ rfl rfl T2.out (by kernel_rfl) (by kernel_rfl) ?_
               change K _ (World.setCells w1s g (k * 6) [.int .u64 bi.parent, .int .i64 bi.height, .int .u64 bi.miner, .int .u64 bi.work, .int .u64 bi.nonce, .slice xa bi.txs.length xc])
               rw [HW2.out]
               go_simp
               refine hK _ _ ?_
               clear hK K
               refine wpAny_done (by kernel_rfl) ?_ _
               go_wp2_with fail
               go_roundw
               case rel => exact ⟨i + 1, swapE mx i k him hkm, by omega, by go_num, HSL, HSM2, HOWN, HBN⟩
               case measure => first | (simp [intOf]; done) | (simp [intOf]; omega)
           · have hnl : ¬ ((i : Int) < (l.length : Int)) := by omega
             go_wp2_with fail
             go_roundw
             case rel => exact ⟨i + 1, mx, by omega, by go_num, HMLEN, HMEM, HOM, HBR⟩
             case measure => simp [intOf]; omega
         obtain rfl : i = os.length := by omega
         obtain ⟨W1, hW1⟩ : ∃ x, x = wr := ⟨_, rfl⟩; subst hW1; have hmlen := HMLEN.out; have hmem := HMEM.out
         have hmrel : blksR.rel (fun k => k < W1.heap.size) W1 [.slice mxa l.length mxc] mx := blksR.mono HOM.out.slice fun k hk _ => hk
         have hbm := HBR.out; clear HMLEN HMEM HOM HBR; have HMLEN := Lib.hid hmlen; have HMEM := Lib.hid hmem; have HMR := Lib.hid hmrel; have HBW := Lib.hid hbm; have HX1 := Lib.hid (box_after HBW.out HX.out); have H1 := Lib.hid (blksR.keepB H.out HBW.out); clear hmlen hmem hmrel hbm HB3 HSW
         have HP : Hid (∀ b ∈ l, posB b) := fun b hb => by
           obtain ⟨j, hj, rfl⟩ := List.getElem_of_mem hb; obtain ⟨_, _, _, _, -, -, hin, -⟩ := blks_at H1.out j hj
           exact hin.pos
         have HAL : Hid (∀ {k i : Nat} {b : BlkM}, b ∈ (List.replicate k l).flatten ++ l.take i → b ∈ l) := fun hb => by
           rcases List.mem_append.1 hb with h1 | h1
           · obtain ⟨x, hx, hbx⟩ := List.mem_flatten.1 h1
             rw [List.eq_of_mem_replicate hx] at hbx
             exact hbx
           · exact List.mem_of_mem_take h1
         have HAM : Hid (∀ {k i : Nat} {b : BlkM}, b ∈ (List.replicate k mx).flatten ++ mx.take i → b ∈ l) := fun hb => (HMEM.out _).1 (by
           rcases List.mem_append.1 hb with h1 | h1
           · obtain ⟨x, hx, hbx⟩ := List.mem_flatten.1 h1
             rw [List.eq_of_mem_replicate hx] at hbx
             exact hbx
           · exact List.mem_of_mem_take h1)
         clear H; obtain ⟨x0, x1⟩ := box_cells HX1.out; go_wp2_with fail
         refine (begin48S_any W1 r HMO.out HRE.out hrw).mono ?_
         rintro e w5 ⟨c, PI, SB, v, rfl, hat, hmu, hpi, hsb, hb5⟩; have HAT := Lib.hid hat; have HMU := Lib.hid hmu; have HB5 := Lib.hid hb5; clear x0 x1 hat hmu hpi hsb hb5
         go_upto_region 13 with (refine wpList_store_row rfl _ _ _ rfl w5.heap.size _ rfl rfl _ _ (box_new w5 _) (by kernel_rfl) rfl (by kernel_rfl) ?_)
         obtain ⟨w6, hw6, HB6, HAT6⟩ : ∃ x, _ = x ∧ Hid (Below W1.heap.size W1 x) ∧ Hid (ChAt c SB PI x r ⟨[], [], 0, 0⟩ [] v) :=
           ⟨_, rfl, bnext HB5.out (below_setRow (g := w5.heap.size) (bnew (Below.refl _ _) _) (Nat.le_refl _) _), HAT.out.keepB (below_setRow (g := w5.heap.size) (bnew (Below.refl _ _) _) (Nat.le_refl _) _)⟩
         rw [hw6]; clear hw6 HB5 HAT; obtain ⟨x0, x1⟩ := box_cells (box_after HB6.out HX1.out); go_wp2_with fail
         refine (begin48S_any w6 r HMO.out HRE.out hrw).mono ?_
         rintro e w7 ⟨d, PI2, SB2, v2, rfl, hat2, hmu2, hpi2, hsb2, hb7⟩
         have HAP : Hid (Apart c SB PI v d SB2 PI2 v2) := ⟨fun k hk => by
             have h1 := HAT6.out.mut_lt k hk
             exact ⟨fun h => by have := hsb2 k h; omega, fun h => by have := hpi2 k h; omega, fun h => by have := hmu2 k h; omega⟩,
           fun k hk => by
             have h1 := hmu2 k hk
             exact ⟨fun h => by have := HAT6.out.lt k h; omega, fun h => by have := HAT6.out.state.lt k h; omega, fun h => by have := HAT6.out.mut_lt k h; omega⟩⟩
         have HAT7 := Lib.hid hat2; have HCT7 := Lib.hid (HAT6.out.keepB hb7)
         have HMU2 : Hid (∀ k, ChMut d v2 k → W1.heap.size ≤ k) := fun k hk => Nat.le_trans HB6.out.size (hmu2 k hk)
         have HB7 := Lib.hid (bnext HB6.out hb7); clear x0 x1 hat2 hmu2 hpi2 hsb2 hb7 HAT6 HB6
         go_upto_region 14 with (refine wpList_store_row rfl _ _ _ rfl w7.heap.size _ rfl rfl _ _ (box_new w7 _) (by kernel_rfl) rfl (by kernel_rfl) ?_)
         obtain ⟨w8, hw8, HB8, HCT8, HDT8⟩ : ∃ x, _ = x ∧ Hid (Below W1.heap.size W1 x) ∧ Hid (ChAt c SB PI x r ⟨[], [], 0, 0⟩ [] v) ∧ Hid (ChAt d SB2 PI2 x r ⟨[], [], 0, 0⟩ [] v2) :=
           ⟨_, rfl, bnext HB7.out (below_setRow (g := w7.heap.size) (bnew (Below.refl _ _) _) (Nat.le_refl _) _), HCT7.out.keepB (below_setRow (g := w7.heap.size) (bnew (Below.refl _ _) _) (Nat.le_refl _) _), HAT7.out.keepB (below_setRow (g := w7.heap.size) (bnew (Below.refl _ _) _) (Nat.le_refl _) _)⟩
         rw [hw8]; clear hw8 HB7 HCT7 HAT7; go_wp2_with fail
         go_loopw [96] (fun vj wr => ∃ (j : Nat) (m m2 : ChM) (SB PI : Nat → Prop) (v : ChV) (SB2 PI2 : Nat → Prop) (v2 : ChV), j ≤ l.length ∧ vj = .int .i64 j ∧ Hid (Steps r ⟨[], [], 0, 0⟩ ((List.replicate j l).flatten ++ l.take 0) m) ∧ Hid (Steps r ⟨[], [], 0, 0⟩ ((List.replicate j mx).flatten ++ mx.take 0) m2) ∧ Hid (ChAt c SB PI wr r m (blksS m.L m.best) v) ∧ Hid (ChAt d SB2 PI2 wr r m2 (blksS m2.L m2.best) v2) ∧ Hid (Apart c SB PI v d SB2 PI2 v2) ∧ Hid (∀ j, ChMut c v j → W1.heap.size ≤ j) ∧ Hid (∀ j, ChMut d v2 j → W1.heap.size ≤ j) ∧ Hid (Below W1.heap.size W1 wr)) (fun vj _ => l.length - (intOf vj).toNat)
         case atStart => exact ⟨0, _, _, SB, PI, v, SB2, PI2, v2, Nat.zero_le _, rfl, Steps.nil _, Steps.nil _, HCT8, HDT8, HAP, HMU, HMU2, HB8⟩
         case round =>
           clear HCT8 HDT8 HAP HMU HMU2 HB8; obtain ⟨j, m, m2, SB, PI, v, SB2, PI2, v2, hj, rfl, HSC, HSD, HCT, HDT, HAP, HMU, HMU2, HBR⟩ := hrel; obtain ⟨wo, hwo⟩ : ∃ x, x = wr := ⟨_, rfl⟩; subst hwo
           by_cases hjl : j < l.length
           · go_wp2_with fail
             go_loopw [100] (fun vi wr => ∃ (i : Nat) (m m2 : ChM) (SB PI : Nat → Prop) (v : ChV) (SB2 PI2 : Nat → Prop) (v2 : ChV), i ≤ l.length ∧ vi = .int .i64 i ∧ Hid (Steps r ⟨[], [], 0, 0⟩ ((List.replicate j l).flatten ++ l.take i) m) ∧ Hid (Steps r ⟨[], [], 0, 0⟩ ((List.replicate j mx).flatten ++ mx.take i) m2) ∧ Hid (ChAt c SB PI wr r m (blksS m.L m.best) v) ∧ Hid (ChAt d SB2 PI2 wr r m2 (blksS m2.L m2.best) v2) ∧ Hid (Apart c SB PI v d SB2 PI2 v2) ∧ Hid (∀ j, ChMut c v j → W1.heap.size ≤ j) ∧ Hid (∀ j, ChMut d v2 j → W1.heap.size ≤ j) ∧ Hid (Below W1.heap.size W1 wr)) (fun vi _ => l.length - (intOf vi).toNat)
             case atStart => exact ⟨0, m, m2, SB, PI, v, SB2, PI2, v2, Nat.zero_le _, rfl, HSC, HSD, HCT, HDT, HAP, HMU, HMU2, HBR⟩
             case round =>
               clear HSC HSD HCT HDT HAP HMU HMU2 HBR; obtain ⟨i, m, m2, SB, PI, v, SB2, PI2, v2, hi, rfl, HSC, HSD, HCT, HDT, HAP, HMU, HMU2, HBR⟩ := hrel
               by_cases hil : i < l.length
               · have hilm : i < mx.length := by have := HMLEN.out; omega
                 have HIC := Lib.hid (OrdI.steps HRU.out HL8.out HFL.out HP.out HSC.out (ordI_new r l) fun b hb => HAL.out hb).1
                 have HID := Lib.hid (OrdI.steps HRU.out HL8.out HFL.out HP.out HSD.out (ordI_new r l) fun b hb => HAM.out hb).1
                 obtain ⟨bb, off, xa, xc, rfl, hbl, hb, c0, c1, c2, c3, c4, c5⟩ := blks_at (blksR.keepB H1.out HBR.out) i hil; have HSB : Hid (smallBk l[i] = true) := HSMB.out _ (List.getElem_mem hil)
                 have HST : Hid (∀ {x : BlkM} {m' : ChM}, l[i] = x → Steps r m [x] m' → Steps r ⟨[], [], 0, 0⟩ ((List.replicate j l).flatten ++ l.take (i + 1)) m') := fun hx h2 => steps_take hil hx HSC.out h2
                 obtain ⟨b, hbq⟩ : ∃ x, l[i] = x := ⟨_, rfl⟩; have HBQ := Lib.hid hbq; rw [hbq] at hb c0 c1 c2 c3 c4 c5 HSB; clear hbq
                 have i0 : (0 : Int) ≤ (i : Int) := by omega
                 have i1 : (i : Int) < (l.length : Int) := by omega
                 go_wp2_with fail
                 refine (submit_step c SB PI wr r HRU.out HMO.out m v HCT.out HIC.out.ok (by have h1 := HIC.out.cnt; have h2 := HL8.out; omega) _ b xa xc hb (fun k hk hm => by have h1 := HMU.out k hm; have h2 : k < w.heap.size := hk; have h3 := HB.out.size; have h4 := HBW.out.size; omega) HSB.out).mono ?_
                 rintro e wa ⟨xx, yy, zz, m', SB', PI', v', rfl, hat', hst', hsp'⟩; obtain ⟨hbz, -, hmz⟩ := stp_below HBR.out HBR.out.size HMU.out hst'; obtain ⟨hdt, hap⟩ := HAP.out.step HDT.out hst'; have HC1 := Lib.hid hat'; have HD1 := Lib.hid hdt; have HA1 := Lib.hid hap; have HM1 := Lib.hid hmz; have HB1 := Lib.hid hbz; have HS1 := Lib.hid (HST.out HBQ.out hsp'); clear hat' hst' hsp' hbz hmz hdt hap c0 c1 c2 c3 c4 c5 hb HCT HDT HAP HMU HBR HSC HST HSB HBQ HIC; obtain ⟨bb2, off2, xa2, xc2, rfl, hbl2, hb2, e0, e1, e2, e3, e4, e5⟩ := blks_at (blksR.keepB HMR.out HB1.out) i hilm; have HSB2 : Hid (smallBk mx[i] = true) := HSMB.out _ ((HMEM.out _).1 (List.getElem_mem hilm))
                 have HST2 : Hid (∀ {x : BlkM} {m' : ChM}, mx[i] = x → Steps r m2 [x] m' → Steps r ⟨[], [], 0, 0⟩ ((List.replicate j mx).flatten ++ mx.take (i + 1)) m') := fun hx h2 => steps_take hilm hx HSD.out h2
                 obtain ⟨b2, hbq2⟩ : ∃ x, mx[i] = x := ⟨_, rfl⟩; have HBQ2 := Lib.hid hbq2; rw [hbq2] at hb2 e0 e1 e2 e3 e4 e5 HSB2; clear hbq2; go_wp2_with fail
                 refine (submit_step d SB2 PI2 wa r HRU.out HMO.out m2 v2 HD1.out HID.out.ok (by have h1 := HID.out.cnt; have h2 := HL8.out; omega) _ b2 xa2 xc2 hb2 (fun k hk hm => by have h1 := HMU2.out k hm; have h2 : k < W1.heap.size := hk; omega) HSB2.out).mono ?_
                 rintro e wb ⟨xx2, yy2, zz2, m2', SB2', PI2', v2', rfl, hat2, hst2, hsp2⟩; obtain ⟨hbz, -, hmz⟩ := stp_below HB1.out HB1.out.size HMU2.out hst2; obtain ⟨hct, hap⟩ := HA1.out.symm.step HC1.out hst2; have HC2 := Lib.hid hct; have HD2 := Lib.hid hat2; have HA2 := Lib.hid hap.symm; have HM2 := Lib.hid hmz; have HB2 := Lib.hid hbz; have HS2 := Lib.hid (HST2.out HBQ2.out hsp2); clear hat2 hst2 hsp2 hbz hmz hct hap e0 e1 e2 e3 e4 e5 hb2 HD1 HC1 HA1 HMU2 HB1 HSD HST2 HSB2 HBQ2 HID; go_wp2_with fail
                 go_roundw
                 case rel => exact ⟨i + 1, m', m2', SB', PI', v', SB2', PI2', v2', by omega, by go_num, HS1, HS2, HC2, HD2, HA2, HM1, HM2, HB2⟩
                 case measure => simp [intOf]; omega
               · obtain rfl : i = l.length := by omega
                 have HS1 := Lib.hid (steps_round HSC.out)
                 have HS2 : Hid (Steps r ⟨[], [], 0, 0⟩ ((List.replicate (j + 1) mx).flatten ++ mx.take 0) m2) := steps_round (by rw [HMLEN.out]; exact HSD.out)
                 go_wp2_with fail
                 go_roundw
                 case rel => exact ⟨j + 1, m, m2, SB, PI, v, SB2, PI2, v2, by omega, by go_num, HS1, HS2, HCT, HDT, HAP, HMU, HMU2, HBR⟩
                 case measure => simp [intOf]; omega
           · obtain rfl : j = l.length := by omega
             have hcs := HSC.out; have hds := HSD.out; rw [List.take_zero, List.append_nil] at hcs hds
             obtain ⟨IC, SC⟩ := all_stable HRU.out HL8.out HFL.out HP.out (fun b => Iff.rfl) hcs
             obtain ⟨ID, SD⟩ := all_stable HRU.out HL8.out HFL.out HP.out HMEM.out hds; obtain ⟨eb, et, ha, hb⟩ := ends_alike HNC.out IC SC ID SD; have HEB := Lib.hid eb; have HET := Lib.hid et; have HTI : Hid (∀ x, isTip m x ↔ isTip m2 x) := isTip_same ha hb
             have HLC : Hid (m.best.length ≤ 100 ∧ m2.best.length ≤ 100 ∧ m.L.length ≤ 12 ∧ m2.L.length ≤ 12) := by
               have h1 := IC.ok.best.len IC.ok.high; have h2 := ID.ok.best.len ID.ok.high; have h3 := IC.cnt; have h4 := ID.cnt; have h5 := HL8.out
               exact ⟨by omega, by omega, by omega, by omega⟩
             clear hcs hds IC SC ID SD eb et ha hb HSC HSD; go_wp2_with fail
             refine (tip_any c SB PI wo r m (blksS m.L m.best) v HCT.out (by have := HLC.out.1; omega)).mono ?_
             rintro e wa ⟨rfl, hb1⟩; have HC1 := Lib.hid (HCT.out.keepB hb1); have HD1 := Lib.hid (HDT.out.keepB hb1); have HB1 := Lib.hid (bnext HBR.out hb1); clear hb1 HCT HDT HBR; go_wp2_with fail
             refine (tip_any d SB2 PI2 wa r m2 (blksS m2.L m2.best) v2 HD1.out (by have := HLC.out.2.1; omega)).mono ?_
             rintro e wb ⟨rfl, hb1⟩; rw [← HET.out, ← HEB.out]; have HC2 := Lib.hid (HC1.out.keepB hb1); have HD2 := Lib.hid (HD1.out.keepB hb1); have HB2 := Lib.hid (bnext HB1.out hb1); clear hb1 HC1 HD1 HB1; go_wp2_with fail
             refine (best_any c SB PI wb r m (blksS m.L m.best) v HC2.out (by have := HLC.out.1; omega)).mono ?_
             rintro e wd ⟨u, rfl, hu, hb1⟩; obtain ⟨ua, uc, rfl, -, -⟩ := own_form hu; have HU := Lib.hid hu.slice; have HD3 := Lib.hid (HD2.out.keepB hb1); have HC3 := Lib.hid (HC2.out.keepB hb1); have HB3 := Lib.hid (bnext HB2.out hb1); clear hu hb1 HC2 HD2 HB2; go_wp2_with fail
             refine (best_any d SB2 PI2 wd r m2 (blksS m2.L m2.best) v2 HD3.out (by have := HLC.out.2.1; omega)).mono ?_
             rintro e we ⟨u2, rfl, hu2, hb1⟩; obtain ⟨ua2, uc2, rfl, -, -⟩ := own_form hu2; have HU2 := Lib.hid hu2.slice; have HU1 := Lib.hid (numsR.keepB HU.out hb1); have HD4 := Lib.hid (HD3.out.keepB hb1); have HC4 := Lib.hid (HC3.out.keepB hb1); have HB4 := Lib.hid (bnext HB3.out hb1); clear hu2 hb1 HC3 HD3 HB3 HU; go_wp2_with fail
             refine (same04_any _ _ we ua ua2 _ _ uc uc2 m.best m2.best rfl rfl HU1.out HU2.out (by have := HLC.out.1; omega)).mono ?_
             rintro e wf ⟨rfl, hb1⟩; rw [show decide (m.best = m2.best) = true from decide_eq_true HEB.out]; have HD5 := Lib.hid (HD4.out.keepB hb1); have HC5 := Lib.hid (HC4.out.keepB hb1); have HB5 := Lib.hid (bnext HB4.out hb1); clear hb1 HC4 HD4 HB4 HU1 HU2; go_wp2_with fail
             refine (tips_any c SB PI wf r m (blksS m.L m.best) v HC5.out HLC.out.2.2.1).mono ?_
             rintro e wg ⟨ta, tc, T, rfl, hto, htp, htm, hb1⟩; have HT := Lib.hid hto.slice; have HTP := Lib.hid htp; have HTM := Lib.hid htm; have HD6 := Lib.hid (HD5.out.keepB hb1); have HB6 := Lib.hid (bnext HB5.out hb1); clear hto htp htm hb1 HC5 HD5 HB5; go_wp2_with fail
             refine (tips_any d SB2 PI2 wg r m2 (blksS m2.L m2.best) v2 HD6.out HLC.out.2.2.2).mono ?_
             rintro e wh ⟨ta2, tc2, T2, rfl, hto2, htp2, htm2, hb1⟩
             have HEQ : Hid (T = T2) := rising_eq HTP.out htp2 fun x => by rw [HTM.out x, htm2 x]; exact HTI.out x
             have HT2 := Lib.hid hto2.slice; have HT1 := Lib.hid (numsR.keepB HT.out hb1); have HB7 := Lib.hid (bnext HB6.out hb1)
             have hTl : T.length ≤ 1000000 := by have h1 := tips_len HTP.out (fun x hx => (HTM.out x).1 hx); have h2 := HLC.out.2.2.1; omega
             clear hto2 htp2 htm2 hb1 HD6 HB6 HT; go_wp2_with fail
             refine (same04_any _ _ wh ta ta2 _ _ tc tc2 T T2 rfl rfl HT1.out HT2.out hTl).mono ?_
             rintro e wi ⟨rfl, hb1⟩; rw [show decide (T = T2) = true from decide_eq_true HEQ.out]; have HB8 := Lib.hid (bnext HB7.out hb1); clear hb1 HB7; go_wp2_with fail; go_ret
             exact ⟨rfl, bnext HB.out (bnext HBW.out HB8.out)⟩
end Go.Proofs.YtcnhicijimiegaaGreatDoor
