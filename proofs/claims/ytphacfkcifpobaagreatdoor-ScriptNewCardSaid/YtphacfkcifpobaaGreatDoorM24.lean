/- Script: blocks without transactions: Mine. -/
import Derived.Test.YtphacfkcifpobaaGreatDoorM23
import Derived.Test.YtphacfkcifpobaaGreatDoorM05
import Derived.Test.YtphacfkcifpobaaGreatDoorM22
import Derived.Test.YtphacfkcifpobaaGreatDoorM01
import Derived.Test.YtphacfkcifpobaaGreatDoorM12
set_option maxRecDepth 100000
namespace Go.Proofs.YtphacfkcifpobaaGreatDoor
open Go.ChangeShapes Go.WideShapes Go.ChangeAt Go.RowKit Go.Sort
theorem wpList_load_rowG {P : Program} {ops : Array Oper} {rest : List Oper} {o : Oper} {a : Act} {w : World} {Q : Exit → Act → World → Prop} (hgw : Region.wanted o (yielded ops a.tmps) = true) (ty : TypeId) (x : Operand) (ho : o.op = .load ty x)
   (g : Nat) (hx : a.eval x = .pointer (some ⟨g, 0, none⟩)) (t : TypeId) (cs : Array Value) (fr : Nat × Nat) (d : TypeDesc) (hg : w.heap[g]? = some (.cells cs t fr))
   (hu : P.underlying ty = some d) (hd : (match d with | .struct _ | .array _ _ => true | _ => false) = true) (hi : (P.info? ty).map (·.size) = some cs.size)
   (h : wpList P ops Q rest (a.put o.dst (.agg cs)) w) : wpList P ops Q (o :: rest) a w :=
 wpList_step fun K hK => by rw [if_pos hgw]; exact wp_load_row ty x ho g hx t cs fr d hg hu hd hi (hK _ _ h)
theorem ret_ct {P : Program} {fn : Func} {p u : Tmp} {ty : TypeId} (h : fn.results = #[.cell p ty, .tmp u]) {tmps : Array Value} {w : World} {g : Nat} {t : TypeId} {cs : Array Value} {fr : Nat × Nat} {d : TypeDesc}
   (hp : tmps.getD p undef = .pointer (some ⟨g, 0, none⟩)) (hg : w.heap[g]? = some (.cells cs t fr))
   (hu : P.underlying ty = some d) (hd : (match d with | .struct _ | .array _ _ => true | _ => false) = true) (hi : (P.info? ty).map (·.size) = some cs.size) :
   (results fn tmps).run P w = .ok (.tuple #[.agg cs, tmps.getD u undef]) w := by
 have hp' : tmps[p]?.getD undef = .pointer (some ⟨g, 0, none⟩) := by simpa using hp
 simp [results, h, hp', asAddr, run_loadVar_row w g t ty cs fr d hg hu hd hi]
def mineB (pa hg mi wk : Int) : Nat → Int → Option Int
 | 0, _ => none
 | n + 1, no => if idB ⟨pa, hg, mi, wk, no, []⟩ % wk = 0 then some no else if no = 18446744073709551615 then none else mineB pa hg mi wk n (no + 1)
theorem mine_hit {pa hg mi wk no k : Int} {n : Nat} (h : idB ⟨pa, hg, mi, wk, no, []⟩ % wk = 0) (hm : mineB pa hg mi wk (n + 1) no = some k) : no = k := by
 unfold mineB at hm; rw [if_pos h] at hm
 exact Option.some.inj hm
theorem mine_miss {pa hg mi wk no k : Int} {n : Nat} (h : ¬ idB ⟨pa, hg, mi, wk, no, []⟩ % wk = 0) (hm : mineB pa hg mi wk (n + 1) no = some k) : ¬ no = 18446744073709551615 ∧ mineB pa hg mi wk n (no + 1) = some k := by
 unfold mineB at hm; rw [if_neg h] at hm
 split at hm
 · simp at hm
 · rename_i h1
   exact ⟨h1, hm⟩
theorem tmod_id (pa hg mi wk no : Int) : (idB ⟨pa, hg, mi, wk, no, []⟩).tmod wk = idB ⟨pa, hg, mi, wk, no, []⟩ % wk := Int.tmod_eq_emod_of_nonneg (idB_in _).1
theorem meas_dec {t : Nat} (h : wrap64 (t : Int) = t) : (intOf (Value.int .i64 (wrap64 (t : Int)))).toNat < (intOf (Value.int .i64 ((t + 1 : Nat) : Int))).toNat := by
 rw [h]
 simp [intOf]
theorem nums0 {ia : Option Addr} {ic : Nat} (h1 : ia = none → ic = 0) (h2 : ic ≤ maxLen) (S : Nat → Prop) (w : World) : numsR.rel S w [.slice ia 0 ic] [] := ⟨ia, 0, ic, rfl, rfl, Nat.zero_le _, h2, h1, fun i x hx => by simp at hx⟩
set_option maxHeartbeats 1000000 in
theorem bkMine_any (w : World) (pa hg mi wk no : Int) (xa : Option Addr) (xc : Nat) (h : Bk0 pa hg mi wk no xa xc) (hv : blkE ⟨pa, hg, mi, wk, no, []⟩ = 0) (n : Nat) (hn : n ≤ 2000000) (k : Int) (hm : mineB pa hg mi wk n no = some k) :
   Calls Tryz.prog 83 #[.agg #[.int .u64 pa, .int .i64 hg, .int .u64 mi, .int .u64 wk, .int .u64 no, .slice xa 0 xc], .int .i64 n] w fun e w' => ∃ (ya : Option Addr) (yc : Nat), e = .returned (.tuple #[.agg #[.int .u64 pa, .int .i64 hg, .int .u64 mi, .int .u64 wk, .int .u64 k, .slice ya 0 yc], .bool true]) ∧ Bk0 pa hg mi wk k ya yc ∧ Below w.heap.size w w' := by
 have hh := blkE_head hv; have HH : Hid (1 ≤ hg ∧ hg ≤ 1048576 ∧ 1 ≤ wk) := ⟨hh.1, hh.2.1, hh.2.2.1⟩
 have hn0 : 1 ≤ n := by
   rcases n with _ | n
   · simp [mineB] at hm
   · omega
 have dn : ¬ n = 0 := by omega
 have HV := Lib.hid hv; have HM := Lib.hid hm; have HB := Lib.hid h; have HN := Lib.hid hn
 have hf := ((Fr.nil (O := fun _ => False) (fun _ => False) w (fun k h => h.elim)).alloc #[.int .u64 pa, .int .i64 hg, .int .u64 mi, .int .u64 wk, .int .u64 no, .slice xa 0 xc] 177).alloc #[.int .u64 0, .int .i64 0, .int .u64 0, .int .u64 0, .int .u64 0, .slice none 0 0] 177
 rw [World.size_alloc] at hf; have HF := Lib.hid hf; clear hf hv hm h hh hn hn0
 go_enter Tryz.func83, Tryz.ntmps83
 go_upto_region 1 with (fail)
 obtain ⟨W, hW⟩ : ∃ x, (w.alloc (.cells #[.int .u64 pa, .int .i64 hg, .int .u64 mi, .int .u64 wk, .int .u64 no, .slice xa 0 xc] 177)).alloc (.cells #[.int .u64 0, .int .i64 0, .int .u64 0, .int .u64 0, .int .u64 0, .slice none 0 0] 177) = x := ⟨_, rfl⟩; obtain ⟨B, hB⟩ : ∃ x, w.heap.size = x := ⟨_, rfl⟩; rw [hW, hB] at HF; rw [hW, hB]; have HFW := HF; clear hW hB HF
 go_wp2_with (refine wpList_load_rowG (by rfl) _ _ rfl B rfl _ _ _ _ (HFW.out.box i1) Tryz.underlying177 rfl (by kernel_rfl) ?_)
 refine (bkValid_any W pa hg mi wk no xa xc HB.out).mono ?_
 rintro e w1 ⟨rfl, hb1⟩; rw [HV.out]; have HF1 := Lib.hid (HFW.out.keepB hb1); clear hb1 HFW
 go_wp2_with (refine wpList_load_row rfl _ _ rfl B rfl _ _ _ _ (HF1.out.box i1) Tryz.underlying177 rfl (by kernel_rfl) ?_)
 refine (bkIds_any w1 pa hg mi wk no xa xc HB.out).mono ?_
 rintro e w2 ⟨ys, ia, ic, hys, rfl, hir, hb2⟩; have hy : ys = [] := hys.out; subst hy; obtain ⟨-, -, hi3, hi4⟩ := sliceR.lens hir; have HIA := Lib.hid hi4; have HIC := Lib.hid hi3; have HF2 := Lib.hid (HF1.out.keepB hb2); clear hb2 HF1 hir hi3 hi4 hys
 -- MARK1
 go_wp2_with fail
 go_loopw [1] (fun v1 wr => ∃ (t : Nat) (no' : Int), v1 = .int .i64 t ∧ Hid (t ≤ 2000000) ∧ Hid (mineB pa hg mi wk t no' = some k) ∧ Hid (Bk0 pa hg mi wk no' xa xc) ∧ Hid (Fr (O := fun _ => False) [boxA (B + 1) #[.int .u64 0, .int .i64 0, .int .u64 0, .int .u64 0, .int .u64 0, .slice none 0 0] 177, boxA B #[.int .u64 pa, .int .i64 hg, .int .u64 mi, .int .u64 wk, .int .u64 no', .slice xa 0 xc] 177] (fun _ => False) w wr)) (fun v1 _ => (intOf v1).toNat)
 case atStart => exact ⟨n, no, rfl, HN, HM, HB, HF2⟩
 case round =>
   clear HF2 HM HB HN dn; obtain ⟨t, no', rfl, HT, HMI, HB0, HFR⟩ := hrel
   rcases t with _ | t
   · exact absurd HMI.out (by simp [mineB])
   · -- MARK2
     have ht : (0 : Int) < ((t + 1 : Nat) : Int) := by omega
     have hw0 : ¬ wk = 0 := by have := HH.out.2.2; omega
     have hwt : wrap64 (t : Int) = (t : Int) := by have := HT.out; unfold wrap64; omega
     go_upto_region 6 with (fail)
     -- MARK3
     have HFwg00 := Lib.hid (HFR.out.drew); have hS0 : Hid ((Held [(B, #[.int .u64 pa, .int .i64 hg, .int .u64 mi, .int .u64 wk, .int .u64 no', .slice xa 0 xc], 177)] []) wr.drew) := Held.keepB (⟨⟨HFR.out.box i1, trivial⟩, trivial⟩) (Below.refl _ _).drew
     refine wp_region_held_drew (S := (Held [(B, #[.int .u64 pa, .int .i64 hg, .int .u64 mi, .int .u64 wk, .int .u64 no', .slice xa 0 xc], 177)] [])) (by kernel_rfl) hS0.out (fun hHeld => ?_)
     obtain ⟨wg0, hwd⟩ : ∃ x, wr.drew = x := ⟨_, rfl⟩; rw [hwd] at hHeld HFwg00 ⊢; have HFwg0 := HFwg00; clear hwd HFwg00 hS0
     go_simp
     refine tkY 0 rfl (yieldsIf_load_mid (by rfl) _ _ rfl (B) 0 rfl [.int .u64 pa, .int .i64 hg, .int .u64 mi, .int .u64 wk, .int .u64 no', .slice xa 0 xc] _ (fun wz hSz => range_box hSz.b.1) Tryz.underlying177 rfl (by kernel_rfl)) ?_
     go_simp
     refine tkV 1 rfl (fun wz hSz => by go_simp; all_goals with_reducible rfl) ?_
     go_simp
     refine tkV 3 rfl (fun wz hSz => by go_simp; all_goals with_reducible rfl) ?_
     go_simp
     refine tkV 4 rfl (fun wz hSz => by have cx := (box_cells hSz.b.1).1; go_simp; all_goals with_reducible rfl) ?_
     go_simp
     refine rd1 2 rfl (fun K hK => ?_)
     go_simp
     refine (bkId_any wg0 pa hg mi wk no' xa xc HB0.out HH.out.1 HH.out.2.1 ia ic (nums0 HIA.out HIC.out _ _)).mono ?_
     rintro E wg1 ⟨rfl, hb⟩; have HFwg1 := Lib.hid (HFwg0.out.keepB hb); clear hHeld hb
     refine hK.out _ _ (⟨⟨HFwg1.out.box i1, trivial⟩, trivial⟩) (fun hHeld => ?_)
     clear hK K
     go_simp
     refine tkV 5 rfl (fun wz hSz => by go_simp; all_goals with_reducible rfl) ?_
     go_simp
     refine tkV 6 rfl (fun wz hSz => by go_simp; all_goals with_reducible rfl) ?_
     go_simp
     clear hHeld
     refine wpAnyH_done (by kernel_rfl) ?_ _
     have HFK := HFwg1; clear HFwg1
     by_cases hid : idB ⟨pa, hg, mi, wk, no', []⟩ % wk = 0
     · have HK := Lib.hid (mine_hit hid HMI.out)
       have HTM := Lib.hid (tmod_id pa hg mi wk no' |>.trans hid); rw [HTM.out]; clear hid
       go_wp2_with (refine wpList_load_row rfl _ _ rfl B rfl _ _ _ _ (HFK.out.box i1) Tryz.underlying177 rfl (by kernel_rfl) ?_)
       refine (bkClone_any _ pa hg mi wk no' xa xc HB0.out).mono ?_
       rintro e w5 ⟨ya, yc, rfl, h5, hb5⟩; have HF5 := Lib.hid (HFK.out.keepB hb5); have H5 := Lib.hid h5; clear h5 hb5 HFK
       go_wp2_with (refine wpList_store_row rfl _ _ _ rfl (B + 1) _ rfl rfl _ _ (HF5.out.box i0) (by kernel_rfl) rfl (by kernel_rfl) ?_)
       have HFE := Lib.hid (HF5.out.setRow i0 #[.int .u64 pa, .int .i64 hg, .int .u64 mi, .int .u64 wk, .int .u64 no', .slice ya 0 yc])
       (try simp only [Exit.inBlock, Exit.then])
       refine bodyPost_ret (ret_ct Tryz.results83 rfl (HFE.out.box i0) Tryz.underlying177 rfl (by kernel_rfl)) rfl ?_
       have hk := HK.out; subst hk
       exact ⟨ya, yc, rfl, H5.out, HFE.out.below⟩
     · have HK := Lib.hid (mine_miss hid HMI.out)
       have hne : ¬ idB ⟨pa, hg, mi, wk, no', []⟩ % wk = 0 := hid; have HTM := Lib.hid (tmod_id pa hg mi wk no'); rw [HTM.out]; generalize idB ⟨pa, hg, mi, wk, no', []⟩ % wk = q at hne; have hno := okU_in HB0.out.no; have hmx : ¬ no' = 18446744073709551615 := HK.out.1
       have hwr : IntKind.u64.wrap (no' + 1) = no' + 1 := (IntKind.wrap_u64 _).trans (by omega)
       have HB1 : Hid (Bk0 pa hg mi wk (no' + 1) xa xc) := ⟨HB0.out.pa, HB0.out.hg, HB0.out.mi, HB0.out.wk, okU_of (by omega) (by omega), HB0.out.nil, HB0.out.cap⟩
       clear hno hid; obtain ⟨x0, x1⟩ := box_cells (HFK.out.box i1); go_wp2_with fail
       have HFN : Hid (Fr (O := fun _ => False) [boxA (B + 1) #[.int .u64 0, .int .i64 0, .int .u64 0, .int .u64 0, .int .u64 0, .slice none 0 0] 177, boxA B #[.int .u64 pa, .int .i64 hg, .int .u64 mi, .int .u64 wk, .int .u64 (no' + 1), .slice xa 0 xc] 177] (fun _ => False) w _) := HFK.out.set i1 4 (.int .u64 (no' + 1))
       go_roundw
       case rel => exact ⟨t, no' + 1, by rw [hwt], Nat.le_of_succ_le HT.out, HK.out.2, HB1, HFN⟩
       case measure => exact meas_dec hwt
end Go.Proofs.YtphacfkcifpobaaGreatDoor
/- Script: blocks without transactions: Encode, Decode. -/
namespace Go.Proofs.YtphacfkcifpobaaGreatDoor
open Go.ChangeShapes Go.WideShapes Go.ChangeAt Go.RowKit Go.Sort
theorem headS_len (b : BlkM) : (headS b).length = 40 := by simp [headS, digs_len]
set_option maxHeartbeats 1000000 in
theorem bkEncode_any (w : World) (pa hg mi wk no : Int) (xa : Option Addr) (xc : Nat) (h : Bk0 pa hg mi wk no xa xc) (hv : blkE ⟨pa, hg, mi, wk, no, []⟩ = 0) :
   Calls Tryz.prog 85 #[.agg #[.int .u64 pa, .int .i64 hg, .int .u64 mi, .int .u64 wk, .int .u64 no, .slice xa 0 xc]] w fun e w' => ∃ (a : Option Addr) (c : Nat), e = .returned (.tuple #[.slice a 40 c, .int .i64 0]) ∧ bytesR.rel (fun _ => True) w' [.slice a 40 c] (headS ⟨pa, hg, mi, wk, no, []⟩) ∧ Below w.heap.size w w' := by
 have hh := blkE_head hv; have HH : Hid (1 ≤ hg ∧ hg ≤ 1048576) := ⟨hh.1, hh.2.1⟩; have HV := Lib.hid hv; have HB := Lib.hid h
 have hf := (Fr.nil (O := fun _ => False) (fun _ => False) w (fun k h => h.elim)).alloc #[.int .u64 pa, .int .i64 hg, .int .u64 mi, .int .u64 wk, .int .u64 no, .slice xa 0 xc] 177
 have HF := Lib.hid hf; clear hf hv h hh
 go_enter Tryz.func85, Tryz.ntmps85
 go_upto_region 1 with (fail)
 obtain ⟨W, hW⟩ : ∃ x, w.alloc (.cells #[.int .u64 pa, .int .i64 hg, .int .u64 mi, .int .u64 wk, .int .u64 no, .slice xa 0 xc] 177) = x := ⟨_, rfl⟩; obtain ⟨B, hB⟩ : ∃ x, w.heap.size = x := ⟨_, rfl⟩; rw [hW, hB] at HF; rw [hW, hB]; have HFW := HF; clear hW hB HF
 go_wp2_with (refine wpList_load_row rfl _ _ rfl B rfl _ _ _ _ (HFW.out.box i0) Tryz.underlying177 rfl (by kernel_rfl) ?_)
 refine (bkValid_any W pa hg mi wk no xa xc HB.out).mono ?_
 rintro e w1 ⟨rfl, hb1⟩; rw [HV.out]; have HF1 := Lib.hid (HFW.out.keepB hb1); clear hb1 HFW
 go_wp2_with (refine wpList_load_row rfl _ _ rfl B rfl _ _ _ _ (HF1.out.box i0) Tryz.underlying177 rfl (by kernel_rfl) ?_)
 refine (bkHead_any w1 pa hg mi wk no xa xc HB.out HH.out.1 HH.out.2).mono ?_
 rintro e w2 ⟨ys, a, c, hys, hyl, rfl, hr, hb2⟩
 -- MARK1
 have hy : ys = headS ⟨pa, hg, mi, wk, no, []⟩ := hys.out; subst hy; rw [headS_len] at hr ⊢; have HR := Lib.hid hr; have HF2 := Lib.hid (HF1.out.keepB hb2); clear hb2 HF1 hr hys hyl; obtain ⟨x0, x1⟩ := box_cells (HF2.out.box i0); go_wp2_with fail
 refine wp_loop_rounds 1 ?_
 rw [rounds_succ]; go_wp2_with fail; go_ret2
 exact ⟨a, c, rfl, HR.out, HF2.out.below⟩
def decB (bs : List Int) : List Int × Bool :=
 let u1 := (⟨bs, 0, false⟩ : RdM).uint 18446744069414584320
 let u2 := u1.2.int 1048576
 let u3 := u2.2.uint 18446744069414584320
 let u4 := u3.2.uint 65536
 let u5 := u4.2.uint 18446744073709551615
 let u6 := u5.2.int 64
 ([u1.1, u2.1, u3.1, u4.1, u5.1, u6.1], u6.2.done)
theorem decB_of {bs : List Int} {pa hg mi wk no : Int} (h : decB bs = ([pa, hg, mi, wk, no, 0], true)) : ∃ r1 r2 r3 r4 r5 r6 : RdM, (⟨bs, 0, false⟩ : RdM).uint 18446744069414584320 = (pa, r1) ∧ r1.int 1048576 = (hg, r2) ∧ r2.uint 18446744069414584320 = (mi, r3) ∧ r3.uint 65536 = (wk, r4) ∧ r4.uint 18446744073709551615 = (no, r5) ∧ r5.int 64 = (0, r6) ∧ r6.done = true := by
 unfold decB at h
 simp only [Prod.mk.injEq, List.cons.injEq] at h
 obtain ⟨⟨h1, h2, h3, h4, h5, h6, -⟩, h7⟩ := h
 exact ⟨_, _, _, _, _, _, Prod.ext h1 rfl, Prod.ext h2 rfl, Prod.ext h3 rfl, Prod.ext h4 rfl, Prod.ext h5 rfl, Prod.ext h6 rfl, h7⟩
theorem rdU_eq (w w0 : World) (p : Nat) (r r' : RdM) (h : RdAt p w r) (hp : w0.heap.size ≤ p) (hb : Below w0.heap.size w0 w) (most x : Int) (m0 : 0 ≤ most) (hq : r.uint most = (x, r')) :
   Calls Tryz.prog 303 #[.pointer (some ⟨p, 0, none⟩), .int .u64 most] w fun e w' => e = .returned (.int .u64 x) ∧ RdAt p w' r' ∧ Below w0.heap.size w0 w' := by
 refine (rdUint_any w p r h most m0).mono ?_
 rintro e w' ⟨rfl, ⟨h1, h2⟩, -⟩; rw [hq] at h1 ⊢
 exact ⟨rfl, h1, Kept.behind hb h2 hb.size fun k hk e => by omega⟩
theorem rdI_eq (w w0 : World) (p : Nat) (r r' : RdM) (h : RdAt p w r) (hp : w0.heap.size ≤ p) (hb : Below w0.heap.size w0 w) (most x : Int) (m0 : 0 ≤ most) (m1 : most ≤ 4294967295) (hq : r.int most = (x, r')) :
   Calls Tryz.prog 305 #[.pointer (some ⟨p, 0, none⟩), .int .i64 most] w fun e w' => e = .returned (.int .i64 x) ∧ RdAt p w' r' ∧ Below w0.heap.size w0 w' := by
 refine (rdInt_any w p r h most m0 m1).mono ?_
 rintro e w' ⟨rfl, ⟨h1, h2⟩, -⟩; rw [hq] at h1 ⊢
 exact ⟨rfl, h1, Kept.behind hb h2 hb.size fun k hk e => by omega⟩
theorem rdI_box (w w0 : World) (p : Nat) (r r' : RdM) (h : RdAt p w r) (hp : w0.heap.size ≤ p) (hb : Below w0.heap.size w0 w) (X : Nat) (hX : X ≠ p) (o : Obj) (hY : w.heap[X]? = some o) (most x : Int) (m0 : 0 ≤ most) (m1 : most ≤ 4294967295) (hq : r.int most = (x, r')) :
   Calls Tryz.prog 305 #[.pointer (some ⟨p, 0, none⟩), .int .i64 most] w fun e w' => e = .returned (.int .i64 x) ∧ RdAt p w' r' ∧ w'.heap[X]? = some o ∧ Below w0.heap.size w0 w' := by
 refine (rdInt_any w p r h most m0 m1).mono ?_
 rintro e w' ⟨rfl, ⟨h1, h2⟩, -⟩; rw [hq] at h1 ⊢
 exact ⟨rfl, h1, (h2.block X (box_lt hY) hX).trans hY, Kept.behind hb h2 hb.size fun k hk e => by omega⟩
set_option maxHeartbeats 2000000 in
theorem bkDecode_any (S : Nat → Prop) (w : World) (a : Option Addr) (c : Nat) (bs : List Int) (hr : bytesR.rel S w [.slice a 40 c] bs) (hl : bs.length = 40) (pa hg mi wk no : Int) (h : Bk0 pa hg mi wk no none 0) (hd : decB bs = ([pa, hg, mi, wk, no, 0], true)) (hv : blkE ⟨pa, hg, mi, wk, no, []⟩ = 0) :
   Calls Tryz.prog 243 #[.slice a 40 c] w fun e w' => e = .returned (.tuple #[.agg #[.int .u64 pa, .int .i64 hg, .int .u64 mi, .int .u64 wk, .int .u64 no, .slice none 0 0], .int .i64 0]) ∧ Below w.heap.size w w' := by
 obtain ⟨r1, r2, r3, r4, r5, r6, q1, q2, q3, q4, q5, q6, q7⟩ := decB_of hd; have Q1 := Lib.hid q1; have Q2 := Lib.hid q2; have Q3 := Lib.hid q3; have Q4 := Lib.hid q4; have Q5 := Lib.hid q5; have Q6 := Lib.hid q6; have Q7 := Lib.hid q7; have HV := Lib.hid hv; have HB := Lib.hid h; have HX := Lib.hid (box_new w (.cells #[.int .u64 0, .int .i64 0, .int .u64 0, .int .u64 0, .int .u64 0, .slice none 0 0] 177)); have HB0 := Lib.hid (bnew (Below.refl w.heap.size w) (.cells #[.int .u64 0, .int .i64 0, .int .u64 0, .int .u64 0, .int .u64 0, .slice none 0 0] 177)); have hr' := bytesR.keepB hr (bnew (Below.refl w.heap.size w) (.cells #[.int .u64 0, .int .i64 0, .int .u64 0, .int .u64 0, .int .u64 0, .slice none 0 0] 177)); rw [← hl] at hr'; have HR := Lib.hid hr'; have HL := Lib.hid hl; clear hr hl h hd hv q1 q2 q3 q4 q5 q6 q7 hr'
 go_enter Tryz.func243, Tryz.ntmps243
 go_upto_region 1 with (fail)
 obtain ⟨W, hW⟩ : ∃ x, w.alloc (.cells #[.int .u64 0, .int .i64 0, .int .u64 0, .int .u64 0, .int .u64 0, .slice none 0 0] 177) = x := ⟨_, rfl⟩; rw [hW] at HX HB0 HR ⊢; obtain ⟨B, hB⟩ : ∃ x, w.heap.size = x := ⟨_, rfl⟩; have HZ := Lib.hid hB; rw [hB] at HX ⊢; clear hW hB; rw [show (40 : Nat) = bs.length from HL.out.symm]; go_wp2_with fail
 refine (newReader_any S W a c bs HR.out (by rw [HL.out]; omega)).mono ?_
 rintro e w1 ⟨p, rfl, hp, hat, hb1⟩; have HP : Hid (W.heap.size ≤ p) := hp; have HA := Lib.hid hat; have HB1 := Lib.hid hb1; clear hp hat hb1; go_wp2_with fail
 refine (rdU_eq w1 W p ⟨bs, 0, false⟩ r1 HA.out HP.out HB1.out 18446744069414584320 pa (by omega) Q1.out).mono ?_
 rintro e w2 ⟨rfl, ha, hb⟩; have HA := Lib.hid ha; have HB2 := Lib.hid hb; clear ha hb HB1; go_wp2_with fail
 refine (rdI_eq w2 W p r1 r2 HA.out HP.out HB2.out 1048576 hg (by omega) (by omega) Q2.out).mono ?_
 rintro e w3 ⟨rfl, ha, hb⟩; have HA := Lib.hid ha; have HB3 := Lib.hid hb; clear ha hb HB2; go_wp2_with fail
 refine (rdU_eq w3 W p r2 r3 HA.out HP.out HB3.out 18446744069414584320 mi (by omega) Q3.out).mono ?_
 rintro e w4 ⟨rfl, ha, hb⟩; have HA := Lib.hid ha; have HB4 := Lib.hid hb; clear ha hb HB3; go_wp2_with fail
 refine (rdU_eq w4 W p r3 r4 HA.out HP.out HB4.out 65536 wk (by omega) Q4.out).mono ?_
 rintro e w5 ⟨rfl, ha, hb⟩; have HA := Lib.hid ha; have HB5 := Lib.hid hb; clear ha hb HB4; go_wp2_with fail
 refine (rdU_eq w5 W p r4 r5 HA.out HP.out HB5.out 18446744073709551615 no (by omega) Q5.out).mono ?_
 rintro e w6 ⟨rfl, ha, hb⟩; have HA := Lib.hid ha; have HB6 := Lib.hid hb; clear ha hb HB5
 go_upto_region 3 with (fail)
 have HA7 := Lib.hid (HA.out.keep (bnew (Below.refl w6.heap.size w6) (.cells #[.int .u64 pa, .int .i64 hg, .int .u64 mi, .int .u64 wk, .int .u64 no, .slice none 0 0] 177))); have HB7 := Lib.hid (bnew HB6.out (.cells #[.int .u64 pa, .int .i64 hg, .int .u64 mi, .int .u64 wk, .int .u64 no, .slice none 0 0] 177)); have HY := Lib.hid (box_new w6 (.cells #[.int .u64 pa, .int .i64 hg, .int .u64 mi, .int .u64 wk, .int .u64 no, .slice none 0 0] 177)); obtain ⟨w7, hw7⟩ : ∃ x, w6.alloc (.cells #[.int .u64 pa, .int .i64 hg, .int .u64 mi, .int .u64 wk, .int .u64 no, .slice none 0 0] 177) = x := ⟨_, rfl⟩; obtain ⟨X, hX⟩ : ∃ x, w6.heap.size = x := ⟨_, rfl⟩; rw [hw7] at HA7 HB7 HY ⊢; rw [hX] at HY ⊢
 have HLE : Hid (W.heap.size ≤ X) := by show _ ≤ _; rw [← hX]; exact HB6.out.size
 have HXP : Hid (X ≠ p) := fun e => by have h2 := HA.out.lt; omega
 clear hw7 hX HB6 HA; go_wp2_with fail
 refine (rdI_box w7 W p r5 r6 HA7.out HP.out HB7.out X HXP.out _ HY.out 64 0 (by omega) (by omega) Q6.out).mono ?_
 rintro e w8 ⟨rfl, ha, hy, hb⟩; have HA8 := Lib.hid ha; have HY8 := Lib.hid hy; have HB8 := Lib.hid hb; clear ha hy hb HA7 HY HB7; go_wp2_with fail
 refine wp_loop_rounds 1 ?_
 rw [rounds_succ]; go_wp2_with fail
 refine (done_any w8 p r6 HA8.out).mono ?_
 rintro e w9 ⟨rfl, hb9⟩; rw [Q7.out]; have HY9 := Lib.hid (box_after hb9 HY8.out); have HB9 := Lib.hid (bnext HB8.out hb9); clear hb9 HY8 HB8
 -- MARK1
 go_wp2_with (refine wpList_load_rowG (by rfl) _ _ rfl X rfl _ _ _ _ HY9.out Tryz.underlying177 rfl (by kernel_rfl) ?_)
 refine (bkValid_any w9 pa hg mi wk no none 0 HB.out).mono ?_
 rintro e wa ⟨rfl, hba⟩; rw [HV.out]; have HYa := Lib.hid (box_after hba HY9.out); have HBa := Lib.hid (bnext HB9.out hba); have HXa := Lib.hid (box_after HBa.out HX.out); clear hba HY9 HB9 HX
 go_wp2_with (first | (refine wpList_load_row rfl _ _ rfl X rfl _ _ _ _ HYa.out Tryz.underlying177 rfl (by kernel_rfl) ?_) | (refine wpList_store_row rfl _ _ _ rfl B _ rfl rfl _ _ HXa.out (by kernel_rfl) rfl (by kernel_rfl) ?_))
 have HFX := Lib.hid (setRow_heap _ _ _ #[.int .u64 pa, .int .i64 hg, .int .u64 mi, .int .u64 wk, .int .u64 no, .slice none 0 0] _ _ HXa.out)
 (try simp only [Exit.inBlock, Exit.then])
 refine bodyPost_ret (ret_ct Tryz.results243 rfl HFX.out Tryz.underlying177 rfl (by kernel_rfl)) rfl ?_
 exact ⟨rfl, below_setRow (bnext HB0.out HBa.out) (by rw [HZ.out]; exact Nat.le_refl _) _⟩
end Go.Proofs.YtphacfkcifpobaaGreatDoor
/- Script: an empty mempool's List; a stored block of a chain. -/
namespace Go.Proofs.YtphacfkcifpobaaGreatDoor
open Go.ChangeShapes Go.WideShapes Go.ChangeAt Go.RowKit Go.Sort
def tx0 : TxM := ⟨0, [], [], 0, 0, 0, 0, 0, 0, []⟩
theorem tx0_rel (S : Nat → Prop) (w : World) : txR.rel S w [.int .u64 0, .slice none 0 0, .slice none 0 0, .int .u64 0, .int .u64 0, .int .u64 0, .int .u64 0, .int .u64 0, .int .i64 0, .slice none 0 0] tx0 := txR.mk (t := tx0) ⟨by decide, by decide, by decide, by decide, by decide, by decide, by decide, sliceR.nil, sliceR.nil, sliceR.nil⟩
theorem range_pre {w : World} {b : Nat} {cs : Array Value} {t : TypeId} (h : w.heap[b]? = some (.cells cs t (0, 0))) (l : List Value) (hl : ∀ (j : Nat) (v : Value), l[j]? = some v → cs[j]? = some v) : w.rangeAt b 0 l := fun j v hv => by rw [Nat.zero_add, (box_cells h).1]; exact hl j v hv
theorem mpList_any (w : World) (p : Nat) (hb : w.heap[p]? = some (.cells mpC 115 (0, 0))) :
   Calls Tryz.prog 80 #[.pointer (some ⟨p, 0, none⟩)] w fun e w' => ∃ (a : Option Addr) (c : Nat), e = .returned (.slice a 0 c) ∧ (a = none → c = 0) ∧ c ≤ maxLen ∧ Below w.heap.size w w' := by
 have HB := Lib.hid hb; obtain ⟨x0, x1⟩ := box_cells hb; clear hb
 go_enter Tryz.func80, Tryz.ntmps80
 go_wp2_with (at_make; refine wpList_make_n rfl _ _ rfl txR 0 Tryz.etyTx (z := .agg #[.int .u64 0, .slice none 0 0, .slice none 0 0, .int .u64 0, .int .u64 0, .int .u64 0, .int .u64 0, .int .u64 0, .int .i64 0, .slice none 0 0]) (by kernel_rfl) (x0 := tx0) (fun _ _ => tx0_rel _ _) (n := 0) rfl rfl (by first | rfl | omega) (by first | rfl | omega) (by omega) (by unfold maxLen; omega) (Nat.zero_le _) ?_; intro w1 ho hb; have hp1 := (box_cells (box_after hb HB.out)).1)
 have HB1 := Lib.hid hb
 refine wp_loop_rounds 1 ?_
 rw [rounds_succ]; go_wp2_with fail; go_ret
 exact ⟨_, _, rfl, fun h => by simp at h, by unfold maxLen; omega, HB1.out⟩
set_option maxHeartbeats 1000000 in
theorem chBlock_any (c : Nat) (SB PI : Nat → Prop) (w : World) (r : RuM) (m : ChM) (bs : List BlkM) (v : ChV) (h : ChAt c SB PI w r m bs v) (id : Int) (hid : okU id) (s : StB) (hs : findS m.L id = some s) (hm : s ∈ m.L) (hl : s.b.txs = []) :
   Calls Tryz.prog 166 #[.pointer (some ⟨c, 0, none⟩), .int .u64 id] w fun e w' => ∃ (ya : Option Addr) (yc : Nat), e = .returned (.tuple #[.agg #[.int .u64 s.b.parent, .int .i64 s.b.height, .int .u64 s.b.miner, .int .u64 s.b.work, .int .u64 s.b.nonce, .slice ya s.b.txs.length yc], .bool true]) ∧ BlkIn (fun k => w.heap.size ≤ k) w' s.b ya yc ∧ Below w.heap.size w w' := by
 have hf := (Fr.nil (O := fun _ => False) (fun _ => False) w (fun k h => h.elim)).alloc #[.int .u64 0, .int .i64 0, .int .u64 0, .int .u64 0, .int .u64 0, .slice none 0 0] 177
 have hbn := bnew (Below.refl w.heap.size w) (.cells #[.int .u64 0, .int .i64 0, .int .u64 0, .int .u64 0, .int .u64 0, .slice none 0 0] 177); have HH := Lib.hid (h.keepB hbn); have HF := Lib.hid hf; have HM := Lib.hid hm; have HS := Lib.hid hs; have HL := Lib.hid hl; have HI := Lib.hid hid; clear h hf hbn hm hs hl hid
 go_enter Tryz.func166, Tryz.ntmps166
 go_upto_region 1 with (fail)
 obtain ⟨W, hW⟩ : ∃ x, w.alloc (.cells #[.int .u64 0, .int .i64 0, .int .u64 0, .int .u64 0, .int .u64 0, .slice none 0 0] 177) = x := ⟨_, rfl⟩; obtain ⟨B, hB⟩ : ∃ x, w.heap.size = x := ⟨_, rfl⟩; rw [hW, hB] at HF; rw [hW] at HH; rw [hW, hB]; have HFW := HF; clear hW hB HF; obtain ⟨x0, x1⟩ := box_cells HH.out.cell
 simp only [chCells] at x0
 have hlk := HH.out.map.look_ok id HI.out; rw [HS.out] at hlk
 simp only [Option.map_some, Option.getD_some, Option.isSome_some] at hlk
 -- MARK2
 go_upto_region 2 with (fail)
 have HFS := Lib.hid (HFW.out.alloc #[.int .u64 s.b.parent, .int .i64 s.b.height, .int .u64 s.b.miner, .int .u64 s.b.work, .int .u64 s.b.nonce, .slice s.xa s.b.txs.length s.xc, .int .u64 s.tot] 310); have HHS := Lib.hid (HH.out.keepB (bnew (Below.refl W.heap.size W) (.cells #[.int .u64 s.b.parent, .int .i64 s.b.height, .int .u64 s.b.miner, .int .u64 s.b.work, .int .u64 s.b.nonce, .slice s.xa s.b.txs.length s.xc, .int .u64 s.tot] 310))); obtain ⟨w1, hw1⟩ : ∃ x, W.alloc (.cells #[.int .u64 s.b.parent, .int .i64 s.b.height, .int .u64 s.b.miner, .int .u64 s.b.work, .int .u64 s.b.nonce, .slice s.xa s.b.txs.length s.xc, .int .u64 s.tot] 310) = x := ⟨_, rfl⟩; obtain ⟨X, hX⟩ : ∃ x, W.heap.size = x := ⟨_, rfl⟩; rw [hw1, hX] at HFS; rw [hw1] at HHS; rw [hw1, hX]; have HF1 := HFS; have HH1 := HHS; clear hw1 hX HFS HHS HFW HH x0 x1 hlk
 have hrg : w1.rangeAt X 0 [.int .u64 s.b.parent, .int .i64 s.b.height, .int .u64 s.b.miner, .int .u64 s.b.work, .int .u64 s.b.nonce, .slice s.xa s.b.txs.length s.xc] := range_pre (HF1.out.box i0) _ fun j v hv => by
   match j, hv with
   | 0, hv => exact hv
   | 1, hv => exact hv
   | 2, hv => exact hv
   | 3, hv => exact hv
   | 4, hv => exact hv
   | 5, hv => exact hv
   | j + 6, hv => simp at hv
 have HRG := Lib.hid hrg; clear hrg
 go_wp2_with (refine wpList_load_mid rfl _ _ rfl X 0 rfl [.int .u64 s.b.parent, .int .i64 s.b.height, .int .u64 s.b.miner, .int .u64 s.b.work, .int .u64 s.b.nonce, .slice s.xa s.b.txs.length s.xc] _ HRG.out Tryz.underlying177 rfl (by kernel_rfl) ?_)
 refine (chClone_any SB w1 s.b s.xa s.xc (HH1.out.blocks s HM.out).1 (by rw [HL.out]; exact Nat.zero_le _) (by rw [HL.out]; intro t ht; simp at ht)).mono ?_
 rintro e w2 ⟨ya, yc, rfl, hbk, hb2⟩; have HF2 := Lib.hid (HF1.out.keepB hb2)
 have HBK := Lib.hid (hbk.mono (S' := fun k => w.heap.size ≤ k) fun k _ h => Nat.le_trans HF1.out.kept.size h)
 clear hbk hb2 HF1 HH1 HRG
 go_wp2_with (refine wpList_store_row rfl _ _ _ rfl B _ rfl rfl _ _ (HF2.out.box i1) (by kernel_rfl) rfl (by kernel_rfl) ?_)
 have HFE := Lib.hid (HF2.out.setRow i1 #[.int .u64 s.b.parent, .int .i64 s.b.height, .int .u64 s.b.miner, .int .u64 s.b.work, .int .u64 s.b.nonce, .slice ya s.b.txs.length yc])
 have HBE : Hid (BlkIn (fun k => w.heap.size ≤ k) (w2.setRow B #[.int .u64 s.b.parent, .int .i64 s.b.height, .int .u64 s.b.miner, .int .u64 s.b.work, .int .u64 s.b.nonce, .slice ya s.b.txs.length yc]) s.b ya yc) := ⟨HBK.out.parent, HBK.out.height, HBK.out.miner, HBK.out.work, HBK.out.nonce, by have h := HBK.out.txs; rw [HL.out] at h ⊢; obtain ⟨a, n, c, h1, h2, h3, h4, h5, -⟩ := h; exact ⟨a, n, c, h1, h2, h3, h4, h5, fun i x hx => by simp at hx⟩⟩
 (try simp only [Exit.inBlock, Exit.then])
 refine bodyPost_ret (ret_ct Tryz.results166 rfl (HFE.out.box i1) Tryz.underlying177 rfl (by kernel_rfl)) rfl ?_
 exact ⟨ya, yc, rfl, HBE.out, HFE.out.below⟩
end Go.Proofs.YtphacfkcifpobaaGreatDoor
/- Contracts of the reference's rules, for all values of the fields; no conditions. -/
namespace Go.Proofs.YtphacfkcifpobaaGreatDoor
open Go.ChangeShapes Go.WideShapes Go.ChangeAt Go.RowKit
def pow2B (lo : Int) : Nat → Int → Bool
 | 0, _ => false
 | k + 1, a => pow2B lo k a || (a == lo * 2 ^ k)
theorem pow2B_succ (lo : Int) (k : Nat) (a : Int) : pow2B lo (k + 1) a = (pow2B lo k a || (a == lo * 2 ^ k)) := rfl
def refParamsB (a b c : Int) : Bool := pow2B 2 8 a && pow2B 1 4 b && decide (1 ≤ c) && decide (c ≤ 64)
theorem and_self_small : ∀ n : Fin 257, bits BinOp.and IntKind.i64 (n.val : Int) ((n.val : Int) - 1) = 0 ↔ (n.val = 0 ∨ pow2B 1 9 (n.val : Int) = true) := by
 decide +kernel
theorem pow2B_2 (a : Int) : pow2B 2 8 a = true ↔ a = 2 ∨ a = 4 ∨ a = 8 ∨ a = 16 ∨ a = 32 ∨ a = 64 ∨ a = 128 ∨ a = 256 := by
 simp [pow2B]; omega
theorem pow2B_1 (a : Int) : pow2B 1 9 a = true ↔ a = 1 ∨ a = 2 ∨ a = 4 ∨ a = 8 ∨ a = 16 ∨ a = 32 ∨ a = 64 ∨ a = 128 ∨ a = 256 := by
 simp [pow2B]; omega
theorem pow2B_4 (a : Int) : pow2B 1 4 a = true ↔ a = 1 ∨ a = 2 ∨ a = 4 ∨ a = 8 := by
 simp [pow2B]; omega
theorem params_same (a b c : Int) : paramsB a b c = refParamsB a b c := by
 unfold paramsB refParamsB; rw [Bool.eq_iff_iff]
 simp only [decide_eq_true_eq, Bool.and_eq_true, pow2B_2, pow2B_4]
 by_cases h : 2 ≤ a ∧ a ≤ 256
 · obtain ⟨n, rfl⟩ := Int.eq_ofNat_of_zero_le (show 0 ≤ a by omega)
   have := and_self_small ⟨n, by omega⟩
   simp only [pow2B_1] at this
   rw [this]
   omega
 · constructor
   · rintro ⟨h1, h2, _⟩; exact absurd ⟨h1, h2⟩ h
   · rintro ⟨⟨⟨h1, _⟩, _⟩, _⟩; omega
theorem pw8 : ∀ k : Fin 9, ((2 * 2 ^ k.val : Int) ≤ 256 ↔ k.val < 8) ∧ 2 ≤ (2 * 2 ^ k.val : Int) ∧ (2 * 2 ^ k.val : Int) ≤ 512 := by decide +kernel
theorem pw4 : ∀ k : Fin 5, ((1 * 2 ^ k.val : Int) ≤ 8 ↔ k.val < 4) ∧ 1 ≤ (1 * 2 ^ k.val : Int) ∧ (1 * 2 ^ k.val : Int) ≤ 16 := by decide +kernel
set_option maxHeartbeats 1000000 in
theorem refParams_any (a b c : Int) (w : World) :
   Calls Tryz.prog 24 #[.agg #[.int .i64 a, .int .i64 b, .int .i64 c]] w fun e w' => e = .returned (.bool (refParamsB a b c)) ∧ Below w.heap.size w w' := by
 go_enter Tryz.func24, Tryz.ntmps24
 go_wp2
 go_loop [3, 5] (fun t i => ∃ (k : Nat) (m : Int), k ≤ 8 ∧ Hid (m = 2 * 2 ^ k) ∧ i = .int .i64 m ∧ t = .bool (pow2B 2 k a)) (fun _ i => (512 - intOf i).toNat)
 case atStart => exact ⟨0, 2, by omega, rfl, rfl, rfl⟩
 case round =>
   obtain ⟨k, m, hk, hm, rfl, rfl⟩ := hrel
   have hp := pw8 ⟨k, by omega⟩
   simp only at hp
   rw [← hm.out] at hp; obtain ⟨hp1, hp2, hp3⟩ := hp; have HP := Lib.hid hp1; clear hp1; have hs := Lib.hid (pow2B_succ 2 k a)
   have hm2 : Hid (2 * m = 2 * 2 ^ (k + 1)) := by show _ = _; rw [hm.out, Int.pow_succ]; omega
   by_cases hlt : m ≤ 256
   · have hk8 := HP.out.1 hlt
     go_wp2
     all_goals
       go_round
       case rel =>
         refine ⟨k + 1, 2 * m, by omega, hm2, rfl, ?_⟩
         rw [hs.out, ← hm.out]
         simp [*]
       case measure => simp [intOf]; omega
   · have hk8 : k = 8 := by have := HP.out; omega
     subst hk8; clear HP hm2 hs; generalize hbl : pow2B 2 8 a = bl; have HBL := Lib.hid hbl; clear hbl
     go_wp2
     go_loop [4, 6] (fun t i => ∃ (k : Nat) (m : Int), k ≤ 4 ∧ Hid (m = 1 * 2 ^ k) ∧ i = .int .i64 m ∧ t = .bool (pow2B 1 k b)) (fun _ i => (16 - intOf i).toNat)
     case atStart => exact ⟨0, 1, by omega, rfl, rfl, rfl⟩
     case round =>
       obtain ⟨k, m, hk, hm, rfl, rfl⟩ := hrel
       have hp := pw4 ⟨k, by omega⟩
       simp only at hp
       rw [← hm.out] at hp; obtain ⟨hp1, hp2, hp3⟩ := hp; have HP := Lib.hid hp1; clear hp1; have hs := Lib.hid (pow2B_succ 1 k b)
       have hm2 : Hid (2 * m = 1 * 2 ^ (k + 1)) := by show _ = _; rw [hm.out, Int.pow_succ]; omega
       by_cases hlt : m ≤ 8
       · have hk8 := HP.out.1 hlt
         go_wp2
         all_goals
           go_round
           case rel =>
             refine ⟨k + 1, 2 * m, by omega, hm2, rfl, ?_⟩
             rw [hs.out, ← hm.out]
             simp [*]
           case measure => simp [intOf]; omega
       · have hk8 : k = 4 := by have := HP.out; omega
         subst hk8; clear HP hm2 hs; generalize hbu : pow2B 1 4 b = bu; have HBU := Lib.hid hbu; clear hbu
         go_wp2
         all_goals go_ret
         all_goals refine ⟨ret_bool ?_, (Below.refl _ _).alloc (Nat.le_refl _) _⟩
         all_goals unfold refParamsB
         all_goals rw [HBL.out, HBU.out]
         all_goals first
           | (simp [*]; done)
           | (simp [*]; omega)
theorem rulesE_bad2 {m d bl bu q rew win fin work : Int} (h1 : m = 1) (a : rew ≤ 4294967296) (b : 1 ≤ work) (c : work ≤ 65536)
   (h : ((4294967296 < rew ∨ work < 1) ∨ 65536 < work) ∨ (!paramsB bl bu q) = true) : 1 = rulesE m d bl bu q rew win fin work :=
 rulesE_bad h1 (by rcases h with h | h; · exfalso; omega
                   · exact h)
theorem rulesE_zero2 {m d bl bu q rew win fin work : Int}
   (h : 1 ≤ m ∧ m ≤ 3 ∧ 1 ≤ d ∧ d ≤ 12 ∧ 1 ≤ win ∧ win ≤ 100 ∧ 1 ≤ fin ∧ fin ≤ 1048576 ∧ rew ≤ 4294967296 ∧ 1 ≤ work ∧ work ≤ 65536)
   (h1 : ((rew ≤ 4294967296 ∧ 1 ≤ work) ∧ work ≤ 65536) ∧ (!paramsB bl bu q) = false) : 0 = rulesE m d bl bu q rew win fin work :=
 rulesE_zero h (fun _ => by simpa using h1.2)
set_option maxHeartbeats 1000000 in
theorem refRules_any (m d bl bu q rew win fin work : Int) (w : World) :
   Calls Tryz.prog 8 #[.agg #[.int .i64 m, .int .i64 d, .int .i64 bl, .int .i64 bu, .int .i64 q, .int .u64 rew, .int .i64 win, .int .i64 fin, .int .u64 work]] w fun e w' => e = .returned (.int .i64 (rulesE m d bl bu q rew win fin work)) ∧ Below w.heap.size w w' := by
 go_enter Tryz.func8, Tryz.ntmps8
 go_wp2_with (go_at_call 24; refine (refParams_any _ _ _ _).mono ?_; rintro e w' ⟨rfl, hb⟩; rw [← params_same])
 all_goals go_ret
 all_goals refine ⟨ret_int ?_, ?_⟩
 all_goals first
   | exact (Below.refl _ _).alloc (Nat.le_refl _) _
   | exact ((Below.refl _ _).alloc (Nat.le_refl _) _).trans (hb.mono (by simp))
   | exact rulesE_one (by omega)
   | exact rulesE_bad ‹_› ‹_›
   | exact rulesE_zero (by omega) (fun h => by omega)
   | exact rulesE_bad2 ‹_› ‹_› ‹_› ‹_› ‹_›
   | exact rulesE_zero2 (by omega) ‹_›
end Go.Proofs.YtphacfkcifpobaaGreatDoor
/- The reference of chains: Small, Few; lists of blocks as arguments. -/
namespace Go.Proofs.YtphacfkcifpobaaGreatDoor
open Go.ChangeShapes Go.WideShapes Go.ChangeAt Go.RowKit Go.Sort
def blkR : Rep BlkM := mapR (fun b => (b.parent, b.height, b.miner, b.work, b.nonce, b.txs))
 (pairR u64R (pairR (intR .i64) (pairR u64R (pairR u64R (pairR u64R txsR)))))
theorem blkR.n : blkR.n = 6 := rfl
theorem blkR.inv {S : Nat → Prop} {w : World} {cs : List Value} {b : BlkM} (h : blkR.rel S w cs b) :
   ∃ xa xc, cs = [.int .u64 b.parent, .int .i64 b.height, .int .u64 b.miner, .int .u64 b.work, .int .u64 b.nonce, .slice xa b.txs.length xc] ∧ BlkIn S w b xa xc := by
 obtain ⟨a1, b1, rfl, ⟨rfl, w1⟩, a2, b2, rfl, ⟨rfl, w2⟩, a3, b3, rfl, ⟨rfl, w3⟩, a4, b4, rfl, ⟨rfl, w4⟩, a5, b5, rfl, ⟨rfl, w5⟩, h6⟩ := h; obtain ⟨a, cap, rfl⟩ := one_form h6
 exact ⟨a, cap, rfl, w1, w2, w3, w4, w5, h6⟩
abbrev blksR : Rep (List BlkM) := sliceR blkR
theorem blks_at {S : Nat → Prop} {w : World} {a : Option Addr} {len cap : Nat} {l : List BlkM} (h : blksR.rel S w [.slice a len cap] l) (k : Nat) (hk : k < l.length) :
   ∃ b off xa xc, a = some ⟨b, off, none⟩ ∧ b < w.heap.size ∧ BlkIn S w l[k] xa xc ∧ w.cell? ⟨b, off + k * 6, none⟩ = some (.int .u64 l[k].parent) ∧ w.cell? ⟨b, off + k * 6 + 1, none⟩ = some (.int .i64 l[k].height) ∧ w.cell? ⟨b, off + k * 6 + 2, none⟩ = some (.int .u64 l[k].miner) ∧ w.cell? ⟨b, off + k * 6 + 3, none⟩ = some (.int .u64 l[k].work) ∧ w.cell? ⟨b, off + k * 6 + 4, none⟩ = some (.int .u64 l[k].nonce) ∧ w.cell? ⟨b, off + k * 6 + 5, none⟩ = some (.slice xa l[k].txs.length xc) := by
 obtain ⟨b, off, es, rfl, hb, hbl, hrel, hca⟩ := sliceR.at h k hk; obtain ⟨xa, xc, rfl, ht⟩ := blkR.inv hrel; rw [blkR.n] at hca
 exact ⟨b, off, xa, xc, rfl, hbl, ht, hca 0 _ rfl, hca 1 _ rfl, hca 2 _ rfl, hca 3 _ rfl, hca 4 _ rfl, hca 5 _ rfl⟩
end Go.Proofs.YtphacfkcifpobaaGreatDoor
/- Script: the blocks of identifiers. -/
namespace Go.Proofs.YtphacfkcifpobaaGreatDoor
open Go.ChangeShapes Go.WideShapes Go.ChangeAt Go.RowKit Go.Sort
theorem Tryz.etyBlks : ElemTy Tryz.prog 216 177 6 64 := ElemTy.of Tryz.underlying216 (z := .agg #[.int .u64 0, .int .i64 0, .int .u64 0, .int .u64 0, .int .u64 0, .slice none 0 0]) (by kernel_rfl) rfl (by omega)
theorem blkR_mk {S : Nat → Prop} {w : World} {b : BlkM} {xa : Option Addr} {xc : Nat} (h : BlkIn S w b xa xc) : blkR.rel S w [.int .u64 b.parent, .int .i64 b.height, .int .u64 b.miner, .int .u64 b.work, .int .u64 b.nonce, .slice xa b.txs.length xc] b :=
 ⟨[.int .u64 b.parent], _, rfl, ⟨rfl, h.parent⟩, [.int .i64 b.height], _, rfl, ⟨rfl, h.height⟩, [.int .u64 b.miner], _, rfl, ⟨rfl, h.miner⟩, [.int .u64 b.work], _, rfl, ⟨rfl, h.work⟩, [.int .u64 b.nonce], _, rfl, ⟨rfl, h.nonce⟩, h.txs⟩
theorem blk_free {S T : Nat → Prop} {w w' : World} {b : BlkM} {xa : Option Addr} {xc : Nat} (h : BlkIn S w b xa xc) (ht : b.txs = []) : BlkIn T w' b xa xc :=
 ⟨h.parent, h.height, h.miner, h.work, h.nonce, by have h := h.txs; rw [ht] at h ⊢; obtain ⟨a, n, c, h1, h2, h3, h4, h5, -⟩ := h; exact ⟨a, n, c, h1, h2, h3, h4, h5, fun i x hx => by simp at hx⟩⟩
def Known (m : ChM) (ids : List Int) : Prop := ∀ id ∈ ids, okU id ∧ ∃ s, s ∈ m.L ∧ findS m.L id = some s ∧ s.b.txs = []
set_option maxHeartbeats 2000000 in
theorem ndBlocks_any {p op num nodes : Nat} {r : RuM} {seed : Int} {x : NdV} {SB PI S : Nat → Prop} {m : ChM} {bs : List BlkM} {v : ChV} (w : World) (hb : w.heap[p]? = some (.cells (ndC op r num nodes seed x) 84 (0, 0))) (h : ChAt x.c SB PI w r m bs v) (ia : Option Addr) (ic : Nat) (ids : List Int) (hi : numsR.rel S w [.slice ia ids.length ic] ids) (hk : Known m ids) (hl : ids.length ≤ 1000) :
   Calls Tryz.prog 108 #[.pointer (some ⟨p, 0, none⟩), .slice ia ids.length ic] w fun e w' => ∃ (a : Option Addr) (c : Nat), e = .returned (.slice a ids.length c) ∧ blksR.rel (fun k => w.heap.size ≤ k) w' [.slice a ids.length c] (blksS m.L ids) ∧ Below w.heap.size w w' := by
 have HB := Lib.hid hb; have HC := Lib.hid h; have HI := Lib.hid hi; have HK := Lib.hid hk; clear hb h hi hk; obtain ⟨n, hn⟩ : ∃ n, ids.length = n := ⟨_, rfl⟩; rw [hn] at HI hl ⊢; have HN := Lib.hid hn; clear hn
 go_enter Tryz.func108, Tryz.ntmps108
 go_wp2_with (at_make; refine wpList_make_rel rfl _ _ rfl blkR 0 Tryz.etyBlks (n := n) rfl rfl (by first | rfl | omega) (by omega) (by unfold maxLen; omega) (Nat.zero_le _) ?_; intro w1 ho hb)
 have HF1 : Hid (Fr (O := fun _ => False) [ownA blkR 0 177 (.slice (some ⟨w.heap.size, 0, none⟩) 0 n) []] (fun _ => False) w w1) := (Fr.nil (O := fun _ => False) (fun _ => False) w (fun k h => h.elim)).new hb (ho.mono fun k _ h => by rw [h]; exact Nat.le_refl _)
 clear ho hb
 -- MARK1
 go_loopw [5, 15] (fun v5 v15 wr => ∃ (k : Nat) (a : Option Addr) (c : Nat), k ≤ n ∧ v15 = .int .i64 k ∧ v5 = .slice a k c ∧ Hid (Fr (O := fun _ => False) [ownA blkR 0 177 (.slice a k c) (blksS m.L (ids.take k))] (fun _ => False) w wr)) (fun _ v15 _ => n - (intOf v15).toNat)
 case atStart => exact ⟨0, _, _, Nat.zero_le _, rfl, rfl, by simpa [blksS] using HF1⟩
 case round =>
   clear HF1; obtain ⟨k, a, c, hk, rfl, rfl, HFR⟩ := hrel
   by_cases hlt : k < n
   · have hlt' : k < ids.length := by rw [HN.out]; exact hlt
     have HBR := Lib.hid HFR.out.below; have HPB := Lib.hid (box_after HBR.out HB.out); have HCR := Lib.hid (HC.out.keepB HBR.out); have hin := numsR.keepB HI.out HBR.out; rw [← HN.out] at hin; obtain ⟨bb, off, rfl, hbl, -, -, hcc⟩ := nums_at hin k hlt'; obtain ⟨hoid, s, hsm, hfs, hst⟩ := HK.out _ (List.getElem_mem hlt')
     have htk : blksS m.L (ids.take (k + 1)) = blksS m.L (ids.take k) ++ [s.b] := by
       rw [List.take_succ_eq_append_getElem hlt']; unfold blksS; rw [List.map_append]
       congr 1
       simp [blkS, hfs]
     have hlen : (blksS m.L (ids.take k)).length = k := by unfold blksS; rw [List.length_map, List.length_take]; omega
     have HTK := Lib.hid htk; have HLEN := Lib.hid hlen; have HSM := Lib.hid hsm; have HFS := Lib.hid hfs; have HST := Lib.hid hst; have HOI := Lib.hid hoid; generalize ids[k] = id at hcc HFS HOI hfs hoid; clear hin htk hlen hsm hfs hst hoid; obtain ⟨x0, x1⟩ := box_cells HPB.out
     have hk9 : k ≤ 1000 := by omega
     -- MARK2
     go_wp2_with fail
     refine (chBlock_any x.c SB PI wr r m bs v HCR.out id HOI.out s HFS.out HSM.out HST.out).mono ?_
     rintro e w2 ⟨ya, yc, rfl, hbk, hb2⟩; have HF2 := Lib.hid ((HFR.out.keepB hb2).alloc #[.int .u64 s.b.parent, .int .i64 s.b.height, .int .u64 s.b.miner, .int .u64 s.b.work, .int .u64 s.b.nonce, .slice ya s.b.txs.length yc] 177)
     have hrl : blkR.rel (fun k => (w2.alloc (.cells #[.int .u64 s.b.parent, .int .i64 s.b.height, .int .u64 s.b.miner, .int .u64 s.b.work, .int .u64 s.b.nonce, .slice ya s.b.txs.length yc] 177)).heap.size ≤ k) (w2.alloc (.cells #[.int .u64 s.b.parent, .int .i64 s.b.height, .int .u64 s.b.miner, .int .u64 s.b.work, .int .u64 s.b.nonce, .slice ya s.b.txs.length yc] 177)) [.int .u64 s.b.parent, .int .i64 s.b.height, .int .u64 s.b.miner, .int .u64 s.b.work, .int .u64 s.b.nonce, .slice ya s.b.txs.length yc] s.b := blkR_mk (blk_free hbk HST.out)
     go_upto_region 6 with (fail)
     obtain ⟨w3, hw3⟩ : ∃ z, w2.alloc (.cells #[.int .u64 s.b.parent, .int .i64 s.b.height, .int .u64 s.b.miner, .int .u64 s.b.work, .int .u64 s.b.nonce, .slice ya s.b.txs.length yc] 177) = z := ⟨_, rfl⟩; obtain ⟨X, hX⟩ : ∃ z, w2.heap.size = z := ⟨_, rfl⟩; rw [hw3, hX] at HF2; rw [hw3] at hrl; rw [hw3, hX]; have HF3 := HF2; have HFA := Lib.hid ((HF3.out.new (A := repA blkR [.int .u64 s.b.parent, .int .i64 s.b.height, .int .u64 s.b.miner, .int .u64 s.b.work, .int .u64 s.b.nonce, .slice ya s.b.txs.length yc] s.b) (Below.refl _ _) hrl).keepB (bnew (Below.refl _ _) (.cells #[.int .u64 s.b.parent, .int .i64 s.b.height, .int .u64 s.b.miner, .int .u64 s.b.work, .int .u64 s.b.nonce, .slice ya s.b.txs.length yc] 177))); have HCU : Hid (CellsAt (w3.alloc (.cells #[.int .u64 s.b.parent, .int .i64 s.b.height, .int .u64 s.b.miner, .int .u64 s.b.work, .int .u64 s.b.nonce, .slice ya s.b.txs.length yc] 177)) w3.heap.size 0 [.int .u64 s.b.parent, .int .i64 s.b.height, .int .u64 s.b.miner, .int .u64 s.b.work, .int .u64 s.b.nonce, .slice ya s.b.txs.length yc]) := CellsAt.new _ [.int .u64 s.b.parent, .int .i64 s.b.height, .int .u64 s.b.miner, .int .u64 s.b.work, .int .u64 s.b.nonce, .slice ya s.b.txs.length yc] 177; clear hw3 hX HF2 hrl hbk hb2 x0 x1 hcc
     go_wp2_with (first | (refine wpList_load_row rfl _ _ rfl X rfl _ _ _ _ (HF3.out.box i0) Tryz.underlying177 rfl (by kernel_rfl) ?_) | (at_builtin; refine wpList_appF rfl _ _ rfl Tryz.etyBlks HFA.out i1 HCU.out rfl rfl HLEN.out (by unfold maxLen; omega) (by omega) (Nat.zero_le _) ?_; intro a' c' w' hfa))
     -- MARK3
     have HFN : Hid (Fr (O := fun _ => False) [ownA blkR 0 177 (.slice a' (k + 1) c') (blksS m.L (ids.take (k + 1)))] (fun _ => False) w w') := by show Fr _ _ _ _; rw [HTK.out]; exact hfa.drop i0
     clear hfa
     go_roundw
     case rel => exact ⟨k + 1, a', c', by omega, by go_num, rfl, HFN⟩
     case measure => simp [intOf]; omega
   · obtain rfl : k = n := by omega
     go_wp2_with fail; go_ret; have h1 := Own.slice (HFR.out.get i0); rw [← HN.out, List.take_length] at h1; rw [← HN.out]
     exact ⟨a, c, rfl, blksR.mono h1 fun k _ h => h.1.elim (fun h => h.elim) id, HFR.out.below⟩
end Go.Proofs.YtphacfkcifpobaaGreatDoor
