/- The law TxcheckAgain: its walk. What was checked before makes no difference: in the open mode Check returns checkE each time. -/
import Derived.Test.YthggdacincfplaaGreatDoorTxD
import Derived.Test.YthggdacincfplaaGreatDoorKitP
namespace Go.Proofs.YthggdacincfplaaGreatDoor
open Go.ChangeShapes Go.WideShapes Go.ChangeAt Go.RowKit Go.Sort

theorem Tryz.etyErr : ElemTy Tryz.prog 31 38 1 8 := ElemTy.of Tryz.underlying31 (z := .int .i64 0) (by kernel_rfl) rfl (by omega)
abbrev errR : Rep Int := intR .i64
abbrev txsR : Rep (List TxM) := sliceR txR
/-- Transaction number k of a slice of transactions: its ten cells. -/
theorem txs_at {S : Nat → Prop} {w : World} {a : Option Addr} {len cap : Nat} {l : List TxM} (h : txsR.rel S w [.slice a len cap] l) (k : Nat) (hk : k < l.length) :
    ∃ b off ma oa pa mc oc pc, a = some ⟨b, off, none⟩ ∧ b < w.heap.size ∧ TxIn S w l[k] ma oa pa mc oc pc ∧ w.cell? ⟨b, off + k * 10, none⟩ = some (.int .u64 l[k].anchor) ∧ w.cell? ⟨b, off + k * 10 + 1, none⟩ = some (.slice ma l[k].marks.length mc) ∧ w.cell? ⟨b, off + k * 10 + 2, none⟩ = some (.slice oa l[k].outs.length oc) ∧ w.cell? ⟨b, off + k * 10 + 3, none⟩ = some (.int .u64 l[k].dep) ∧ w.cell? ⟨b, off + k * 10 + 4, none⟩ = some (.int .u64 l[k].wd) ∧ w.cell? ⟨b, off + k * 10 + 5, none⟩ = some (.int .u64 l[k].fee) ∧ w.cell? ⟨b, off + k * 10 + 6, none⟩ = some (.int .u64 l[k].acc) ∧ w.cell? ⟨b, off + k * 10 + 7, none⟩ = some (.int .u64 l[k].nonce) ∧ w.cell? ⟨b, off + k * 10 + 8, none⟩ = some (.int .i64 l[k].exp) ∧ w.cell? ⟨b, off + k * 10 + 9, none⟩ = some (.slice pa l[k].proof.length pc) := by
  obtain ⟨b, off, es, rfl, hb, hbl, hrel, hca⟩ := sliceR.at h k hk
  obtain ⟨ma, oa, pa, mc, oc, pc, rfl, ht⟩ := txR.inv hrel
  rw [txR.n] at hca
  exact ⟨b, off, ma, oa, pa, mc, oc, pc, rfl, hbl, ht, hca 0 _ rfl, hca 1 _ rfl, hca 2 _ rfl, hca 3 _ rfl, hca 4 _ rfl, hca 5 _ rfl, hca 6 _ rfl, hca 7 _ rfl, hca 8 _ rfl, hca 9 _ rfl⟩
theorem errs_at {S : Nat → Prop} {w : World} {a : Option Addr} {len cap : Nat} {l : List Int} (h : (sliceR errR).rel S w [.slice a len cap] l) (k : Nat) (hk : k < l.length) :
    ∃ b off, a = some ⟨b, off, none⟩ ∧ b < w.heap.size ∧ w.cell? ⟨b, off + k, none⟩ = some (.int .i64 l[k]) := by
  obtain ⟨b, off, es, rfl, hb, hbl, ⟨rfl, hw⟩, hca⟩ := sliceR.at h k hk
  have := hca 0 _ rfl
  exact ⟨b, off, rfl, hbl, by simpa [intR] using this⟩
theorem checkE_in (d bl bu qu rew win fin work : Int) (t : TxM) : 0 ≤ checkE d bl bu qu rew win fin work t ∧ checkE d bl bu qu rew win fin work t ≤ 10 := by
  unfold checkE validE rulesE
  repeat' split
  all_goals omega
theorem smallB_proof {t : TxM} (h : smallB t 1200 = true) : t.proof.length ≤ 1200 := by
  unfold smallB at h
  simp at h
  omega
/-- What the first k were answered. -/
def firstL (f : TxM → Int) (l : List TxM) (k : Nat) : List Int := (l.take k).map f
theorem firstL_step (f : TxM → Int) (l : List TxM) (k : Nat) (h : k < l.length) : firstL f l (k + 1) = firstL f l k ++ [f l[k]] := by
  unfold firstL
  rw [List.take_succ_eq_append_getElem h, List.map_append]; rfl
theorem firstL_len (f : TxM → Int) (l : List TxM) (k : Nat) (h : k ≤ l.length) : (firstL f l k).length = k := by
  unfold firstL
  simp; omega
theorem firstL_all (f : TxM → Int) (l : List TxM) : firstL f l l.length = l.map f := by
  unfold firstL
  rw [List.take_length]

set_option maxRecDepth 100000 in
set_option maxHeartbeats 4000000 in
theorem again_law (w : World) (m d bl bu qu rew win fin work : Int) (a : Option Addr) (cap : Nat) (l : List TxM) (h : txsR.rel (fun k => k < w.heap.size) w [.slice a l.length cap] l) :
    Calls Tryz.prog 3 #[.agg #[.int .i64 m, .int .i64 d, .int .i64 bl, .int .i64 bu, .int .i64 qu, .int .u64 rew, .int .i64 win, .int .i64 fin, .int .u64 work], .slice a l.length cap] w fun e w' => e = .returned (.bool true) ∧ Below w.heap.size w w' := by
  have hbA := bnew (Below.refl w.heap.size w) (.cells #[.int .i64 m, .int .i64 d, .int .i64 bl, .int .i64 bu, .int .i64 qu, .int .u64 rew, .int .i64 win, .int .i64 fin, .int .u64 work] 26)
  have HX := Lib.hid (box_new w (.cells #[.int .i64 m, .int .i64 d, .int .i64 bl, .int .i64 bu, .int .i64 qu, .int .u64 rew, .int .i64 win, .int .i64 fin, .int .u64 work] 26))
  have H := Lib.hid (txsR.keepB h hbA)
  have g1 := (sliceR.lens h).2
  unfold maxLen at g1
  have HBel := Lib.hid hbA
  clear hbA h
  go_enter Tryz.func3, Tryz.ntmps3
  go_wp2_with fail
  generalize w.alloc (.cells #[.int .i64 m, .int .i64 d, .int .i64 bl, .int .i64 bu, .int .i64 qu, .int .u64 rew, .int .i64 win, .int .i64 fin, .int .u64 work] 26) = W0 at *
  refine (awake_any W0).mono ?_
  rintro e w1 ⟨rfl, hb1⟩
  obtain ⟨x0, x1⟩ := box_cells (box_after hb1 HX.out)
  by_cases hm : m = 2
  · subst hm
    by_cases hl : l.length ≤ 5
    · go_wp2_with fail
      refine (real_any w1).mono ?_
      rintro e w2 ⟨p, rfl, hp, ho, hb2⟩
      have hb2d := bnext hb1 hb2
      have HX2 := Lib.hid (box_after hb2d HX.out)
      have H2 := Lib.hid (txsR.keepB H.out hb2d)
      have HO := Lib.hid ho
      have hxs : w.heap.size < w2.heap.size := by
        have := HX2.out
        rcases Nat.lt_or_ge w.heap.size w2.heap.size with h | h
        · exact h
        · rw [Array.getElem?_eq_none h] at this; cases this
      have HBW := Lib.hid (bnext HBel.out hb2d)
      clear x0 x1 ho HX H HBel
      go_wp2_with fail
      go_loopw [6, 28] (fun vr vi wr => ∃ k : Nat, k ≤ l.length ∧ vi = .int .i64 k ∧ Hid (Own errR w2.heap.size 38 (fun x => False ∨ w2.heap.size ≤ x) wr vr (firstL (checkE d bl bu qu rew win fin work) l k)) ∧ Hid (∀ i (hi : i < l.length), i < k → l[i].proof.length ≤ 1200) ∧ Below w2.heap.size w2 wr) (fun _ vi _ => l.length - (intOf vi).toNat)
      case atStart => exact ⟨0, Nat.zero_le _, rfl, Own.nil _ _ _ _ _, fun i _ h => absurd h (Nat.not_lt_zero _), Below.refl _ _⟩
      case round =>
        obtain ⟨k, hk, rfl, hor, hsm, hbr⟩ := hrel
        by_cases hlt : k < l.length
        · obtain ⟨b, off, ma, oa, pa, mc, oc, pc, rfl, hbl, ht, c0, c1, c2, c3, c4, c5, c6, c7, c8, c9⟩ := txs_at (txsR.keepB H2.out hbr) k hlt
          have HMT := Lib.hid (firstL_step (checkE d bl bu qu rew win fin work) l k hlt)
          obtain ⟨t, hte⟩ : ∃ t, l[k] = t := ⟨_, rfl⟩
          have HTE := Lib.hid hte
          rw [hte] at ht c0 c1 c2 c3 c4 c5 c6 c7 c8 c9 HMT
          clear hte
          have hbn := bnew (Below.refl wr.heap.size wr) (.cells #[.int .u64 t.anchor, .slice ma t.marks.length mc, .slice oa t.outs.length oc, .int .u64 t.dep, .int .u64 t.wd, .int .u64 t.fee, .int .u64 t.acc, .int .u64 t.nonce, .int .i64 t.exp, .slice pa t.proof.length pc] 36)
          have HT := Lib.hid (ht.keepB hbn)
          have HIN := Lib.hid (box_new wr (.cells #[.int .u64 t.anchor, .slice ma t.marks.length mc, .slice oa t.outs.length oc, .int .u64 t.dep, .int .u64 t.wd, .int .u64 t.fee, .int .u64 t.acc, .int .u64 t.nonce, .int .i64 t.exp, .slice pa t.proof.length pc] 36))
          have hbrn := bnext hbr hbn
          have HW := Lib.hid hor.out.slice
          go_wp2_with fail
          clear c0 c1 c2 c3 c4 c5 c6 c7 c8 c9 ht
          generalize wr.alloc (.cells #[.int .u64 t.anchor, .slice ma t.marks.length mc, .slice oa t.outs.length oc, .int .u64 t.dep, .int .u64 t.wd, .int .u64 t.fee, .int .u64 t.acc, .int .u64 t.nonce, .int .i64 t.exp, .slice pa t.proof.length pc] 36) = wn at *
          refine (small_any _ wn t ma oa pa mc oc pc 1200 HT.out).mono ?_
          rintro e w3 ⟨rfl, hb3⟩
          cases hs : smallB t 1200 with
          | false =>
            go_wp2_with fail
            go_ret
            exact ⟨rfl, bnext HBW.out (bnext hbrn hb3)⟩
          | true =>
            have hpl := smallB_proof hs
            clear hs
            have hb3n := bnext hbrn hb3
            obtain ⟨x0, x1⟩ := box_cells (box_after hb3n HX2.out)
            obtain ⟨y0, y1⟩ := box_cells (box_after hb3 HIN.out)
            go_wp2_with fail
            refine (check_open _ w3 p 0 (HO.out.keepB hb3n) d bl bu qu rew win fin work t ma oa pa mc oc pc (HT.out.keepB hb3) (by omega)).mono ?_
            rintro e w4 ⟨rfl, hb4⟩
            have hb4n := bnext hb3n hb4
            have hb4r := bnext (bnext hbn hb3) hb4
            have HOR := Lib.hid (hor.out.keepB hb4r)
            have hci := checkE_in d bl bu qu rew win fin work t
            have HY : Hid (errR.rel (fun _ => False) w4 [.int .i64 (checkE d bl bu qu rew win fin work t)] (checkE d bl bu qu rew win fin work t)) := ⟨rfl, okI_of (by omega) (by omega)⟩
            clear x0 x1 y0 y1
            have hlen : (firstL (checkE d bl bu qu rew win fin work) l k).length = k := firstL_len _ _ _ hk
            go_wp2_with (at_builtin; refine wpList_push (r := errR) (wr := w4) (es := [.int .i64 (checkE d bl bu qu rew win fin work t)]) (w0 := w2) (B := w2.heap.size) rfl _ _ rfl Tryz.etyErr rfl rfl hb4n hb4n.size HOR.out HY.out (fun x hx => hx.elim) (by unfold maxLen; omega) (by omega) ?_)
            intro v2 w5 ho5 hb5
            have HZ : Hid (Own errR w2.heap.size 38 (fun x => False ∨ w2.heap.size ≤ x) w5 v2 (firstL (checkE d bl bu qu rew win fin work) l (k + 1))) := by
              show Own _ _ _ _ _ _ _
              rw [HMT.out]
              exact Own.mono ho5 (F' := fun x => False ∨ w2.heap.size ≤ x) fun x _ h => by first | exact h | exact .inr h
            clear ho5
            have HSM : Hid (∀ i (hi : i < l.length), i < k + 1 → l[i].proof.length ≤ 1200) := fun i hi hik => by
              rcases Nat.lt_or_ge i k with h | h
              · exact hsm.out i hi h
              · obtain rfl : i = k := by omega
                rw [HTE.out]; exact hpl
            go_wp2_with fail
            go_roundw
            case rel => exact ⟨k + 1, by omega, by go_num, HZ, HSM, hb5⟩
            case measure => simp [intOf]; omega
        · obtain rfl : k = l.length := by omega
          obtain ⟨fa, fc, rfl, -, -⟩ := sliceR.form hor.out.slice
          have HS := Lib.hid hor.out.slice
          have hfl : (firstL (checkE d bl bu qu rew win fin work) l l.length).length = l.length := firstL_len _ _ _ (Nat.le_refl _)
          rw [hfl] at HS ⊢
          rw [firstL_all] at HS
          clear hor hfl
          go_wp2_with fail
          go_loopw [9] (fun vi wz => ∃ v : Int, -1 ≤ v ∧ v < l.length ∧ vi = .int .i64 v ∧ Below wr.heap.size wr wz) (fun vi _ => (intOf vi + 1).toNat)
          case atStart => exact ⟨(l.length : Int) - 1, by omega, by omega, by go_num, Below.refl _ _⟩
          case round =>
            obtain ⟨v, hv0, hv1, rfl, hb3⟩ := hrel
            by_cases hv : v = -1
            · subst hv
              go_wp2_with fail
              go_ret
              exact ⟨rfl, bnext HBW.out (bnext hbr hb3)⟩
            · obtain ⟨k, hkv⟩ := Int.eq_ofNat_of_zero_le (show 0 ≤ v by omega)
              subst hkv
              have hlt : k < l.length := by omega
              have hbw := bnext hbr hb3
              obtain ⟨b, off, ma, oa, pa, mc, oc, pc, rfl, hbl, ht, c0, c1, c2, c3, c4, c5, c6, c7, c8, c9⟩ := txs_at (txsR.keepB H2.out hbw) k hlt
              obtain ⟨fb, fo, rfl, hfb, hcf⟩ := errs_at ((sliceR errR).keepB HS.out hb3) k (by simp; omega)
              have hpl := hsm.out k hlt hlt
              rw [List.getElem_map] at hcf
              generalize l[k] = t at *
              have HT := Lib.hid ht
              have hck : ∀ (dd : Nat) (os : Array Obj), Calls Tryz.prog 7 #[.pointer (some ⟨p, 0, none⟩), .agg #[.int .i64 2, .int .i64 d, .int .i64 bl, .int .i64 bu, .int .i64 qu, .int .u64 rew, .int .i64 win, .int .i64 fin, .int .u64 work], .agg #[.int .u64 t.anchor, .slice ma t.marks.length mc, .slice oa t.outs.length oc, .int .u64 t.dep, .int .u64 t.wd, .int .u64 t.fee, .int .u64 t.acc, .int .u64 t.nonce, .int .i64 t.exp, .slice pa t.proof.length pc]] (grow (redrawn wr dd) os) fun e w' => e = .returned (.int .i64 (checkE d bl bu qu rew win fin work t)) ∧ Below (grow (redrawn wr dd) os).heap.size (grow (redrawn wr dd) os) w' := fun dd os =>
                check_open _ _ p 0 (HO.out.keepB (bnext hbw (below_regrown wr dd os))) d bl bu qu rew win fin work t ma oa pa mc oc pc (HT.out.keepB (below_regrown wr dd os)) (by omega)
              generalize checkE d bl bu qu rew win fin work t = r at *
              have xq := box_regrown (box_after hbw HX2.out)
              have zf := cell_in hcf
              have z0 := cell_in c0; have z1 := cell_in c1; have z2 := cell_in c2; have z3 := cell_in c3; have z4 := cell_in c4; have z5 := cell_in c5; have z6 := cell_in c6; have z7 := cell_in c7; have z8 := cell_in c8; have z9 := cell_in c9
              clear c0 c1 c2 c3 c4 c5 c6 c7 c8 c9 hcf ht
              have i0 : (0 : Int) ≤ (k : Int) := by omega
              have i1 : (k : Int) < (l.length : Int) := by omega
              go_wp2_with fail
              refine wp_region_quiet_below (by kernel_rfl) (by kernel_rfl) ?_
              repeat (first | go_big_quiet_step (exact Calls.regrown_of (hck _ _)) | quiet_step (exact Calls.regrown_of (hck _ _)))
              refine wpQuiet_nil ?_
              intro wq hw'
              obtain ⟨⟨dq, osq⟩, hw''⟩ := hw'
              have hbwq := below_regrown wr dq osq
              rw [← hw''] at hbwq
              clear hw'' xq zf z0 z1 z2 z3 z4 z5 z6 z7 z8 z9 hck
              go_wp2_with fail
              go_roundw
              case rel => exact ⟨(k : Int) - 1, by omega, by omega, by go_num, bnext hb3 hbwq⟩
              case measure => simp [intOf]
    · go_wp2_with fail
      refine (awake_any w1).mono ?_
      rintro e w2 ⟨rfl, hb2⟩
      go_wp2_with fail
      go_ret
      exact ⟨rfl, bnext HBel.out (bnext hb1 hb2)⟩
  · have z1 : (m == 2) = false := by rw [beq_eq_false_iff_ne]; exact hm
    have z2 : (m != 2) = true := by rw [bne_iff_ne]; exact hm
    clear hm
    go_wp2_with fail
    refine (awake_any w1).mono ?_
    rintro e w2 ⟨rfl, hb2⟩
    go_wp2_with fail
    go_ret
    exact ⟨rfl, bnext HBel.out (bnext hb1 hb2)⟩
end Go.Proofs.YthggdacincfplaaGreatDoor
