/- BuilderDummy: the law. -/
import Derived.Test.YtdjcdejapkkcmaaGreatDoorM24
namespace Go.Proofs.YtdjcdejapkkcmaaGreatDoor
open Go.ChangeShapes Go.WideShapes Go.ChangeAt Go.RowKit Go.Sort

theorem wpList_load_rowH {P : Program} {ops : Array Oper} {rest : List Oper} {o : Oper} {a : Act} {w : World} {Q : Exit → Act → World → Prop} (hgw : Region.wanted o (yielded ops a.tmps) = true) (ty : TypeId) (x : Operand) (ho : o.op = .load ty x)
    (g : Nat) (hx : a.eval x = .pointer (some ⟨g, 0, none⟩)) (t : TypeId) (cs : Array Value) (fr : Nat × Nat) (d : TypeDesc) (hg : w.heap[g]? = some (.cells cs t fr))
    (hu : P.underlying ty = some d) (hd : (match d with | .struct _ | .array _ _ => true | _ => false) = true) (hi : (P.info? ty).map (·.size) = some cs.size)
    (h : wpList P ops Q rest (a.put o.dst (.agg cs)) w) : wpList P ops Q (o :: rest) a w :=
  wpList_step fun K hK => by rw [if_pos hgw]; exact wp_load_row ty x ho g hx t cs fr d hg hu hd hi (hK _ _ h)
set_option maxRecDepth 100000 in
set_option maxHeartbeats 8000000 in
theorem dummyL_in (w : World) (htab : TabAt w) (seed : Int) (hs : okU seed) (D : Nat) (h1 : 1 ≤ D) (h2 : D ≤ 12) :
    Calls Tryz.prog 4 #[.int .u64 seed, .int .i64 D] w fun e w' => e = .returned (.bool true) ∧ Below w.heap.size w w' := by
  have HT := Lib.hid htab
  have HS := Lib.hid hs
  have HDA := Lib.hid (DuAll.of seed h1 h2)

  have HD1 := Lib.hid h1
  have HD2 := Lib.hid h2
  have HW := Lib.hid ((Fr.nil (fun _ => False) w).alloc #[.int .u64 seed] 24)
  have d1 : decide ((D : Int) < 1) = false := decide_eq_false (by omega)
  have d2 : decide ((12 : Int) < (D : Int)) = false := decide_eq_false (by omega)
  obtain ⟨ky, hky⟩ : ∃ x, hashS 22 [seed, 0] = x := ⟨_, rfl⟩
  obtain ⟨rr, hrr⟩ : ∃ x, hashS 22 [seed, 1] = x := ⟨_, rfl⟩
  obtain ⟨bl, hbl⟩ : ∃ x, hashS 22 [seed, 2] = x := ⟨_, rfl⟩
  rw [hky, hrr, hbl] at HDA
  have HKY := Lib.hid hky
  have HRR := Lib.hid hrr
  have HBL := Lib.hid hbl
  clear htab hs h1 h2 hky hrr hbl
  go_enter Tryz.func4, Tryz.ntmps4
  go_upto_region 1 with (fail)
  obtain ⟨W, hW⟩ : ∃ z, w.alloc (.cells #[.int .u64 seed] 24) = z := ⟨_, rfl⟩
  obtain ⟨B, hB⟩ : ∃ z, w.heap.size = z := ⟨_, rfl⟩
  rw [hW, hB] at HW
  rw [hW, hB]
  have HFW := HW
  clear HW hW hB
  go_wp2_with fail
  refine (awake43_any W (HT.out.keepB HFW.out.below)).mono ?_
  rintro e w1 ⟨rfl, hb1⟩
  have HF1 := Lib.hid (HFW.out.keepB hb1)
  clear hb1 HFW
  obtain ⟨x0, x1⟩ := box_cells (HF1.out.box i0)
  go_wp2_with fail
  refine (dummy_lit w1 seed HS.out D D rfl HD1.out HD2.out).mono ?_
  rintro e w2 ⟨⟨ad, cd, rfl, hrel⟩, hb2⟩
  rw [HKY.out, HRR.out, HBL.out]
  have hf := (HF1.out.new (A := repA numsR [.slice ad D cd] (List.replicate D 0)) hb2 hrel).alloc #[.int .u64 0, .int .u64 0, .int .u64 0, .int .u64 0, .int .u64 0, .int .i64 0, .int .i64 0, .slice none 0 0, .bool false] 58
  have HF2 := Lib.hid hf
  have HBX := Lib.hid (hf.box i0)
  clear hf hb2 hrel HF1 x0 x1
  go_upto_region 4 with (refine wpList_store_row rfl _ _ _ rfl w2.heap.size _ rfl rfl _ _ HBX.out (by kernel_rfl) rfl (by kernel_rfl) ?_)
  have hf := HF2.out.setRow i0 #[.int .u64 0, .int .u64 (ownerS ky 0), .int .u64 rr, .int .u64 bl, .int .u64 ky, .int .i64 0, .int .i64 0, .slice ad D cd, .bool true]
  obtain ⟨B2, hB2⟩ : ∃ x, w2.heap.size = x := ⟨_, rfl⟩
  obtain ⟨w3, hw3⟩ : ∃ x, (w2.alloc (.cells #[.int .u64 0, .int .u64 0, .int .u64 0, .int .u64 0, .int .u64 0, .int .i64 0, .int .i64 0, .slice none 0 0, .bool false] 58)).setRow w2.heap.size #[.int .u64 0, .int .u64 (ownerS ky 0), .int .u64 rr, .int .u64 bl, .int .u64 ky, .int .i64 0, .int .i64 0, .slice ad D cd, .bool true] = x := ⟨_, rfl⟩
  rw [hw3, hB2] at hf
  rw [hw3, hB2]
  have HF3 := Lib.hid hf
  clear hf hw3 hB2 HBX HF2
  -- MARK2
  go_wp2_with fail
  -- MARK3
  refine (dumh_any w3 B seed 0 HS.out (okU_of (by omega) (by omega)) (HF3.out.box i2)).mono ?_
  rintro e w4 ⟨rfl, hb4⟩
  rw [HKY.out]
  have HF4 := Lib.hid (HF3.out.keepB hb4)
  clear hb4 HF3
  go_wp2_with fail
  refine (owner_any w4 ky 0 (by rw [← HKY.out]; exact hashS_ok _ _)).mono ?_
  rintro e w5 ⟨rfl, hb5⟩
  have HF5 := Lib.hid (HF4.out.keepB hb5)
  clear hb5 HF4
  go_wp2_with fail
  refine (dumh_any w5 B seed 1 HS.out (okU_of (by omega) (by omega)) (HF5.out.box i2)).mono ?_
  rintro e w6 ⟨rfl, hb6⟩
  rw [HRR.out]
  have HF6 := Lib.hid (HF5.out.keepB hb6)
  clear hb6 HF5
  go_wp2_with fail
  refine (dumh_any w6 B seed 2 HS.out (okU_of (by omega) (by omega)) (HF6.out.box i2)).mono ?_
  rintro e wa ⟨rfl, hba⟩
  rw [HBL.out]
  have hf := (HF6.out.keepB hba).alloc #[.int .u64 0, .int .u64 (ownerS ky 0), .int .u64 rr, .int .u64 bl] 56
  clear hba HF6
  -- MARK4
  go_upto_region 8 with (fail)
  obtain ⟨B7, hB7⟩ : ∃ x, wa.heap.size = x := ⟨_, rfl⟩
  obtain ⟨w7, hw7⟩ : ∃ x, wa.alloc (.cells #[.int .u64 0, .int .u64 (ownerS ky 0), .int .u64 rr, .int .u64 bl] 56) = x := ⟨_, rfl⟩
  rw [hw7, hB7] at hf
  rw [hw7, hB7]
  have HF7 := Lib.hid hf
  clear hf hw7 hB7
  -- MARK5
  go_cut [8] from 41 (fun v8 wc => ∃ (b8 : Nat) (a8 : Option Addr) (c8 : Nat), v8 = .pointer (some ⟨b8, 0, none⟩) ∧ Hid (Fr [boxA b8 #[.int .u64 0, .int .u64 (ownerS ky 0), .int .u64 rr, .int .u64 bl, .int .u64 ky, .int .i64 0, .int .i64 0, .slice a8 D c8, .bool true] 58, repA numsR [.slice a8 D c8] (List.replicate D 0), boxA B7 #[.int .u64 0, .int .u64 (ownerS ky 0), .int .u64 rr, .int .u64 bl] 56, boxA B2 #[.int .u64 0, .int .u64 (ownerS ky 0), .int .u64 rr, .int .u64 bl, .int .u64 ky, .int .i64 0, .int .i64 0, .slice ad D cd, .bool true] 58, repA numsR [.slice ad D cd] (List.replicate D 0), boxA B #[.int .u64 seed] 24] (fun _ => False) w wc))
  case first =>
    have HFwg00 := Lib.hid (HF7.out.drew)
    have hS0 : Hid ((Held [(B7, #[.int .u64 0, .int .u64 (ownerS ky 0), .int .u64 rr, .int .u64 bl], 56)] []) w7.drew) := Held.keepB (⟨⟨HF7.out.box i0, trivial⟩, trivial⟩) (Below.refl _ _).drew
    refine wp_region_held_drew (S := (Held [(B7, #[.int .u64 0, .int .u64 (ownerS ky 0), .int .u64 rr, .int .u64 bl], 56)] [])) (by kernel_rfl) hS0.out (fun hHeld => ?_)
    obtain ⟨wg0, hwd⟩ : ∃ x, w7.drew = x := ⟨_, rfl⟩
    rw [hwd] at hHeld HFwg00 ⊢
    have HFwg0 := HFwg00
    clear hwd HFwg00 hS0
    go_simp
    refine tkY 0 rfl (yieldsIf_load_mid (by rfl) _ _ rfl (B7) 0 rfl [.int .u64 0, .int .u64 (ownerS ky 0), .int .u64 rr, .int .u64 bl] _ (fun wz hSz => range_box hSz.b.1) Tryz.underlying56 rfl (by kernel_rfl)) ?_
    go_simp
    refine tkV 1 rfl (fun wz hSz => by go_simp; all_goals with_reducible rfl) ?_
    go_simp
    refine tkV 3 rfl (fun wz hSz => by go_simp; all_goals with_reducible rfl) ?_
    go_simp
    refine rd3 2 4 6 rfl rfl rfl (fun K hK => ?_) (fun K hK => ?_) (fun K hK => ?_)
    · skip
      go_simp
      refine (dumh_any wg0 B seed 0 HS.out (okU_of (by omega) (by omega)) (HFwg0.out.box i3)).mono ?_
      rintro E wg1 ⟨rfl, hb⟩
      have HFwg1 := Lib.hid (HFwg0.out.keepB hb)
      rw [HKY.out]
      clear hHeld hb
      refine hK.out _ _ (⟨⟨HFwg1.out.box i0, trivial⟩, trivial⟩) (fun hHeld => ?_)
      clear hK K
      go_simp
      refine rd2 4 6 rfl rfl (fun K hK => ?_) (fun K hK => ?_)
      · skip
        refine step_make_n rfl _ _ rfl u64R 0 Tryz.etyNums rfl (fun _ _ => ⟨rfl, okU_of (by omega) (by omega)⟩) rfl rfl (n := D) rfl rfl (by have := HD2.out; omega) (by have := HD2.out; unfold maxLen; omega) (Nat.zero_le _) ?_
        intro wg2 ho hb
        have hfa := HFwg1.out.new (A := repA numsR [.slice (some ⟨wg1.heap.size, 0, none⟩) D D] (List.replicate D 0)) hb (numsR.mono ho.slice fun k _ hk => Nat.le_of_eq hk.symm)
        obtain ⟨gm, hgm⟩ : ∃ x, wg1.heap.size = x := ⟨_, rfl⟩
        rw [hgm] at hfa
        try rw [hgm]
        have HFwg2 := Lib.hid hfa
        clear hHeld hfa ho hb hgm
        refine hK.out _ _ (⟨⟨HFwg2.out.box i1, trivial⟩, trivial⟩) (fun hHeld => ?_)
        clear hK K
        go_simp
        refine tkV 5 rfl (fun wz hSz => by go_simp; all_goals with_reducible rfl) ?_
        go_simp
        refine rd1 6 rfl (fun K hK => ?_)
        go_simp
        have hfa := HFwg2.out.alloc #[.int .u64 0, .int .u64 0, .int .u64 0, .int .u64 0, .int .u64 0, .int .i64 0, .int .i64 0, .slice none 0 0, .bool false] 58
        obtain ⟨b8, hbn⟩ : ∃ x, wg2.heap.size = x := ⟨_, rfl⟩
        rw [hbn] at hfa
        try rw [hbn]
        obtain ⟨wg3, hw⟩ : ∃ x, wg2.alloc (.cells #[.int .u64 0, .int .u64 0, .int .u64 0, .int .u64 0, .int .u64 0, .int .i64 0, .int .i64 0, .slice none 0 0, .bool false] 58) = x := ⟨_, rfl⟩
        rw [hw] at hfa ⊢
        have HFwg3 := Lib.hid hfa
        clear hHeld hfa hw hbn
        refine hK.out _ _ (⟨⟨HFwg3.out.box i2, trivial⟩, trivial⟩) (fun hHeld => ?_)
        clear hK K
        go_simp
        refine rd1 7 rfl (fun K hK => ?_)
        refine step_store_row rfl _ _ _ rfl (b8) _ rfl rfl _ _ (HFwg3.out.box i0) (by kernel_rfl) rfl (by kernel_rfl) ?_
        have hfa := HFwg3.out.setRow i0 #[.int .u64 0, .int .u64 (ownerS ky 0), .int .u64 rr, .int .u64 bl, .int .u64 ky, .int .i64 0, .int .i64 0, .slice (some ⟨gm, 0, none⟩) D D, .bool true]
        change K _ (wg3.setRow (b8) #[.int .u64 0, .int .u64 (ownerS ky 0), .int .u64 rr, .int .u64 bl, .int .u64 ky, .int .i64 0, .int .i64 0, .slice (some ⟨gm, 0, none⟩) D D, .bool true])
        obtain ⟨wg4, hw⟩ : ∃ x, wg3.setRow (b8) #[.int .u64 0, .int .u64 (ownerS ky 0), .int .u64 rr, .int .u64 bl, .int .u64 ky, .int .i64 0, .int .i64 0, .slice (some ⟨gm, 0, none⟩) D D, .bool true] = x := ⟨_, rfl⟩
        rw [hw] at hfa ⊢
        have HFwg4 := Lib.hid hfa
        clear hHeld hfa hw
        refine hK.out _ _ (⟨⟨HFwg4.out.box i2, trivial⟩, trivial⟩) (fun hHeld => ?_)
        clear hK K
        go_simp
        clear hHeld
        refine wpAnyH_done (by kernel_rfl) ?_ _
        go_wp2_with fail
        go_meet
        case rel => exact ⟨b8, some ⟨gm, 0, none⟩, D, rfl, HFwg4⟩
      · skip
        go_simp
        have hfa := HFwg1.out.alloc #[.int .u64 0, .int .u64 0, .int .u64 0, .int .u64 0, .int .u64 0, .int .i64 0, .int .i64 0, .slice none 0 0, .bool false] 58
        obtain ⟨b8, hbn⟩ : ∃ x, wg1.heap.size = x := ⟨_, rfl⟩
        rw [hbn] at hfa
        try rw [hbn]
        obtain ⟨wg5, hw⟩ : ∃ x, wg1.alloc (.cells #[.int .u64 0, .int .u64 0, .int .u64 0, .int .u64 0, .int .u64 0, .int .i64 0, .int .i64 0, .slice none 0 0, .bool false] 58) = x := ⟨_, rfl⟩
        rw [hw] at hfa ⊢
        have HFwg5 := Lib.hid hfa
        clear hHeld hfa hw hbn
        refine hK.out _ _ (⟨⟨HFwg5.out.box i1, trivial⟩, trivial⟩) (fun hHeld => ?_)
        clear hK K
        go_simp
        refine rd1 4 rfl (fun K hK => ?_)
        refine step_make_n rfl _ _ rfl u64R 0 Tryz.etyNums rfl (fun _ _ => ⟨rfl, okU_of (by omega) (by omega)⟩) rfl rfl (n := D) rfl rfl (by have := HD2.out; omega) (by have := HD2.out; unfold maxLen; omega) (Nat.zero_le _) ?_
        intro wg6 ho hb
        have hfa := HFwg5.out.new (A := repA numsR [.slice (some ⟨wg5.heap.size, 0, none⟩) D D] (List.replicate D 0)) hb (numsR.mono ho.slice fun k _ hk => Nat.le_of_eq hk.symm)
        obtain ⟨gm, hgm⟩ : ∃ x, wg5.heap.size = x := ⟨_, rfl⟩
        rw [hgm] at hfa
        try rw [hgm]
        have HFwg6 := Lib.hid hfa
        clear hHeld hfa ho hb hgm
        refine hK.out _ _ (⟨⟨HFwg6.out.box i2, trivial⟩, trivial⟩) (fun hHeld => ?_)
        clear hK K
        go_simp
        refine tkV 5 rfl (fun wz hSz => by go_simp; all_goals with_reducible rfl) ?_
        go_simp
        refine rd1 7 rfl (fun K hK => ?_)
        refine step_store_row rfl _ _ _ rfl (b8) _ rfl rfl _ _ (HFwg6.out.box i1) (by kernel_rfl) rfl (by kernel_rfl) ?_
        have hfa := HFwg6.out.setRow i1 #[.int .u64 0, .int .u64 (ownerS ky 0), .int .u64 rr, .int .u64 bl, .int .u64 ky, .int .i64 0, .int .i64 0, .slice (some ⟨gm, 0, none⟩) D D, .bool true]
        change K _ (wg6.setRow (b8) #[.int .u64 0, .int .u64 (ownerS ky 0), .int .u64 rr, .int .u64 bl, .int .u64 ky, .int .i64 0, .int .i64 0, .slice (some ⟨gm, 0, none⟩) D D, .bool true])
        obtain ⟨wg7, hw⟩ : ∃ x, wg6.setRow (b8) #[.int .u64 0, .int .u64 (ownerS ky 0), .int .u64 rr, .int .u64 bl, .int .u64 ky, .int .i64 0, .int .i64 0, .slice (some ⟨gm, 0, none⟩) D D, .bool true] = x := ⟨_, rfl⟩
        rw [hw] at hfa ⊢
        have HFwg7 := Lib.hid hfa
        clear hHeld hfa hw
        refine hK.out _ _ (⟨⟨HFwg7.out.box i2, trivial⟩, trivial⟩) (fun hHeld => ?_)
        clear hK K
        go_simp
        clear hHeld
        refine wpAnyH_done (by kernel_rfl) ?_ _
        go_wp2_with fail
        go_meet
        case rel => exact ⟨b8, some ⟨gm, 0, none⟩, D, rfl, Lib.hid (Fr.swap HFwg7.out)⟩
    · skip
      refine step_make_n rfl _ _ rfl u64R 0 Tryz.etyNums rfl (fun _ _ => ⟨rfl, okU_of (by omega) (by omega)⟩) rfl rfl (n := D) rfl rfl (by have := HD2.out; omega) (by have := HD2.out; unfold maxLen; omega) (Nat.zero_le _) ?_
      intro wg8 ho hb
      have hfa := HFwg0.out.new (A := repA numsR [.slice (some ⟨wg0.heap.size, 0, none⟩) D D] (List.replicate D 0)) hb (numsR.mono ho.slice fun k _ hk => Nat.le_of_eq hk.symm)
      obtain ⟨gm, hgm⟩ : ∃ x, wg0.heap.size = x := ⟨_, rfl⟩
      rw [hgm] at hfa
      try rw [hgm]
      have HFwg8 := Lib.hid hfa
      clear hHeld hfa ho hb hgm
      refine hK.out _ _ (⟨⟨HFwg8.out.box i1, trivial⟩, trivial⟩) (fun hHeld => ?_)
      clear hK K
      go_simp
      refine rd2 2 6 rfl rfl (fun K hK => ?_) (fun K hK => ?_)
      · skip
        go_simp
        refine (dumh_any wg8 B seed 0 HS.out (okU_of (by omega) (by omega)) (HFwg8.out.box i4)).mono ?_
        rintro E wg9 ⟨rfl, hb⟩
        have HFwg9 := Lib.hid (HFwg8.out.keepB hb)
        rw [HKY.out]
        clear hHeld hb
        refine hK.out _ _ (⟨⟨HFwg9.out.box i1, trivial⟩, trivial⟩) (fun hHeld => ?_)
        clear hK K
        go_simp
        refine tkV 5 rfl (fun wz hSz => by go_simp; all_goals with_reducible rfl) ?_
        go_simp
        refine rd1 6 rfl (fun K hK => ?_)
        go_simp
        have hfa := HFwg9.out.alloc #[.int .u64 0, .int .u64 0, .int .u64 0, .int .u64 0, .int .u64 0, .int .i64 0, .int .i64 0, .slice none 0 0, .bool false] 58
        obtain ⟨b8, hbn⟩ : ∃ x, wg9.heap.size = x := ⟨_, rfl⟩
        rw [hbn] at hfa
        try rw [hbn]
        obtain ⟨wg10, hw⟩ : ∃ x, wg9.alloc (.cells #[.int .u64 0, .int .u64 0, .int .u64 0, .int .u64 0, .int .u64 0, .int .i64 0, .int .i64 0, .slice none 0 0, .bool false] 58) = x := ⟨_, rfl⟩
        rw [hw] at hfa ⊢
        have HFwg10 := Lib.hid hfa
        clear hHeld hfa hw hbn
        refine hK.out _ _ (⟨⟨HFwg10.out.box i2, trivial⟩, trivial⟩) (fun hHeld => ?_)
        clear hK K
        go_simp
        refine rd1 7 rfl (fun K hK => ?_)
        refine step_store_row rfl _ _ _ rfl (b8) _ rfl rfl _ _ (HFwg10.out.box i0) (by kernel_rfl) rfl (by kernel_rfl) ?_
        have hfa := HFwg10.out.setRow i0 #[.int .u64 0, .int .u64 (ownerS ky 0), .int .u64 rr, .int .u64 bl, .int .u64 ky, .int .i64 0, .int .i64 0, .slice (some ⟨gm, 0, none⟩) D D, .bool true]
        change K _ (wg10.setRow (b8) #[.int .u64 0, .int .u64 (ownerS ky 0), .int .u64 rr, .int .u64 bl, .int .u64 ky, .int .i64 0, .int .i64 0, .slice (some ⟨gm, 0, none⟩) D D, .bool true])
        obtain ⟨wg11, hw⟩ : ∃ x, wg10.setRow (b8) #[.int .u64 0, .int .u64 (ownerS ky 0), .int .u64 rr, .int .u64 bl, .int .u64 ky, .int .i64 0, .int .i64 0, .slice (some ⟨gm, 0, none⟩) D D, .bool true] = x := ⟨_, rfl⟩
        rw [hw] at hfa ⊢
        have HFwg11 := Lib.hid hfa
        clear hHeld hfa hw
        refine hK.out _ _ (⟨⟨HFwg11.out.box i2, trivial⟩, trivial⟩) (fun hHeld => ?_)
        clear hK K
        go_simp
        clear hHeld
        refine wpAnyH_done (by kernel_rfl) ?_ _
        go_wp2_with fail
        go_meet
        case rel => exact ⟨b8, some ⟨gm, 0, none⟩, D, rfl, HFwg11⟩
      · skip
        go_simp
        have hfa := HFwg8.out.alloc #[.int .u64 0, .int .u64 0, .int .u64 0, .int .u64 0, .int .u64 0, .int .i64 0, .int .i64 0, .slice none 0 0, .bool false] 58
        obtain ⟨b8, hbn⟩ : ∃ x, wg8.heap.size = x := ⟨_, rfl⟩
        rw [hbn] at hfa
        try rw [hbn]
        obtain ⟨wg12, hw⟩ : ∃ x, wg8.alloc (.cells #[.int .u64 0, .int .u64 0, .int .u64 0, .int .u64 0, .int .u64 0, .int .i64 0, .int .i64 0, .slice none 0 0, .bool false] 58) = x := ⟨_, rfl⟩
        rw [hw] at hfa ⊢
        have HFwg12 := Lib.hid hfa
        clear hHeld hfa hw hbn
        refine hK.out _ _ (⟨⟨HFwg12.out.box i2, trivial⟩, trivial⟩) (fun hHeld => ?_)
        clear hK K
        go_simp
        refine rd1 2 rfl (fun K hK => ?_)
        go_simp
        refine (dumh_any wg12 B seed 0 HS.out (okU_of (by omega) (by omega)) (HFwg12.out.box i5)).mono ?_
        rintro E wg13 ⟨rfl, hb⟩
        have HFwg13 := Lib.hid (HFwg12.out.keepB hb)
        rw [HKY.out]
        clear hHeld hb
        refine hK.out _ _ (⟨⟨HFwg13.out.box i2, trivial⟩, trivial⟩) (fun hHeld => ?_)
        clear hK K
        go_simp
        refine tkV 5 rfl (fun wz hSz => by go_simp; all_goals with_reducible rfl) ?_
        go_simp
        refine rd1 7 rfl (fun K hK => ?_)
        refine step_store_row rfl _ _ _ rfl (b8) _ rfl rfl _ _ (HFwg13.out.box i0) (by kernel_rfl) rfl (by kernel_rfl) ?_
        have hfa := HFwg13.out.setRow i0 #[.int .u64 0, .int .u64 (ownerS ky 0), .int .u64 rr, .int .u64 bl, .int .u64 ky, .int .i64 0, .int .i64 0, .slice (some ⟨gm, 0, none⟩) D D, .bool true]
        change K _ (wg13.setRow (b8) #[.int .u64 0, .int .u64 (ownerS ky 0), .int .u64 rr, .int .u64 bl, .int .u64 ky, .int .i64 0, .int .i64 0, .slice (some ⟨gm, 0, none⟩) D D, .bool true])
        obtain ⟨wg14, hw⟩ : ∃ x, wg13.setRow (b8) #[.int .u64 0, .int .u64 (ownerS ky 0), .int .u64 rr, .int .u64 bl, .int .u64 ky, .int .i64 0, .int .i64 0, .slice (some ⟨gm, 0, none⟩) D D, .bool true] = x := ⟨_, rfl⟩
        rw [hw] at hfa ⊢
        have HFwg14 := Lib.hid hfa
        clear hHeld hfa hw
        refine hK.out _ _ (⟨⟨HFwg14.out.box i2, trivial⟩, trivial⟩) (fun hHeld => ?_)
        clear hK K
        go_simp
        clear hHeld
        refine wpAnyH_done (by kernel_rfl) ?_ _
        go_wp2_with fail
        go_meet
        case rel => exact ⟨b8, some ⟨gm, 0, none⟩, D, rfl, HFwg14⟩
    · skip
      go_simp
      have hfa := HFwg0.out.alloc #[.int .u64 0, .int .u64 0, .int .u64 0, .int .u64 0, .int .u64 0, .int .i64 0, .int .i64 0, .slice none 0 0, .bool false] 58
      obtain ⟨b8, hbn⟩ : ∃ x, wg0.heap.size = x := ⟨_, rfl⟩
      rw [hbn] at hfa
      try rw [hbn]
      obtain ⟨wg15, hw⟩ : ∃ x, wg0.alloc (.cells #[.int .u64 0, .int .u64 0, .int .u64 0, .int .u64 0, .int .u64 0, .int .i64 0, .int .i64 0, .slice none 0 0, .bool false] 58) = x := ⟨_, rfl⟩
      rw [hw] at hfa ⊢
      have HFwg15 := Lib.hid hfa
      clear hHeld hfa hw hbn
      refine hK.out _ _ (⟨⟨HFwg15.out.box i1, trivial⟩, trivial⟩) (fun hHeld => ?_)
      clear hK K
      go_simp
      refine rd2 2 4 rfl rfl (fun K hK => ?_) (fun K hK => ?_)
      · skip
        go_simp
        refine (dumh_any wg15 B seed 0 HS.out (okU_of (by omega) (by omega)) (HFwg15.out.box i4)).mono ?_
        rintro E wg16 ⟨rfl, hb⟩
        have HFwg16 := Lib.hid (HFwg15.out.keepB hb)
        rw [HKY.out]
        clear hHeld hb
        refine hK.out _ _ (⟨⟨HFwg16.out.box i1, trivial⟩, trivial⟩) (fun hHeld => ?_)
        clear hK K
        go_simp
        refine rd1 4 rfl (fun K hK => ?_)
        refine step_make_n rfl _ _ rfl u64R 0 Tryz.etyNums rfl (fun _ _ => ⟨rfl, okU_of (by omega) (by omega)⟩) rfl rfl (n := D) rfl rfl (by have := HD2.out; omega) (by have := HD2.out; unfold maxLen; omega) (Nat.zero_le _) ?_
        intro wg17 ho hb
        have hfa := HFwg16.out.new (A := repA numsR [.slice (some ⟨wg16.heap.size, 0, none⟩) D D] (List.replicate D 0)) hb (numsR.mono ho.slice fun k _ hk => Nat.le_of_eq hk.symm)
        obtain ⟨gm, hgm⟩ : ∃ x, wg16.heap.size = x := ⟨_, rfl⟩
        rw [hgm] at hfa
        try rw [hgm]
        have HFwg17 := Lib.hid hfa
        clear hHeld hfa ho hb hgm
        refine hK.out _ _ (⟨⟨HFwg17.out.box i2, trivial⟩, trivial⟩) (fun hHeld => ?_)
        clear hK K
        go_simp
        refine tkV 5 rfl (fun wz hSz => by go_simp; all_goals with_reducible rfl) ?_
        go_simp
        refine rd1 7 rfl (fun K hK => ?_)
        refine step_store_row rfl _ _ _ rfl (b8) _ rfl rfl _ _ (HFwg17.out.box i1) (by kernel_rfl) rfl (by kernel_rfl) ?_
        have hfa := HFwg17.out.setRow i1 #[.int .u64 0, .int .u64 (ownerS ky 0), .int .u64 rr, .int .u64 bl, .int .u64 ky, .int .i64 0, .int .i64 0, .slice (some ⟨gm, 0, none⟩) D D, .bool true]
        change K _ (wg17.setRow (b8) #[.int .u64 0, .int .u64 (ownerS ky 0), .int .u64 rr, .int .u64 bl, .int .u64 ky, .int .i64 0, .int .i64 0, .slice (some ⟨gm, 0, none⟩) D D, .bool true])
        obtain ⟨wg18, hw⟩ : ∃ x, wg17.setRow (b8) #[.int .u64 0, .int .u64 (ownerS ky 0), .int .u64 rr, .int .u64 bl, .int .u64 ky, .int .i64 0, .int .i64 0, .slice (some ⟨gm, 0, none⟩) D D, .bool true] = x := ⟨_, rfl⟩
        rw [hw] at hfa ⊢
        have HFwg18 := Lib.hid hfa
        clear hHeld hfa hw
        refine hK.out _ _ (⟨⟨HFwg18.out.box i2, trivial⟩, trivial⟩) (fun hHeld => ?_)
        clear hK K
        go_simp
        clear hHeld
        refine wpAnyH_done (by kernel_rfl) ?_ _
        go_wp2_with fail
        go_meet
        case rel => exact ⟨b8, some ⟨gm, 0, none⟩, D, rfl, Lib.hid (Fr.swap HFwg18.out)⟩
      · skip
        refine step_make_n rfl _ _ rfl u64R 0 Tryz.etyNums rfl (fun _ _ => ⟨rfl, okU_of (by omega) (by omega)⟩) rfl rfl (n := D) rfl rfl (by have := HD2.out; omega) (by have := HD2.out; unfold maxLen; omega) (Nat.zero_le _) ?_
        intro wg19 ho hb
        have hfa := HFwg15.out.new (A := repA numsR [.slice (some ⟨wg15.heap.size, 0, none⟩) D D] (List.replicate D 0)) hb (numsR.mono ho.slice fun k _ hk => Nat.le_of_eq hk.symm)
        obtain ⟨gm, hgm⟩ : ∃ x, wg15.heap.size = x := ⟨_, rfl⟩
        rw [hgm] at hfa
        try rw [hgm]
        have HFwg19 := Lib.hid hfa
        clear hHeld hfa ho hb hgm
        refine hK.out _ _ (⟨⟨HFwg19.out.box i2, trivial⟩, trivial⟩) (fun hHeld => ?_)
        clear hK K
        go_simp
        refine rd1 2 rfl (fun K hK => ?_)
        go_simp
        refine (dumh_any wg19 B seed 0 HS.out (okU_of (by omega) (by omega)) (HFwg19.out.box i5)).mono ?_
        rintro E wg20 ⟨rfl, hb⟩
        have HFwg20 := Lib.hid (HFwg19.out.keepB hb)
        rw [HKY.out]
        clear hHeld hb
        refine hK.out _ _ (⟨⟨HFwg20.out.box i2, trivial⟩, trivial⟩) (fun hHeld => ?_)
        clear hK K
        go_simp
        refine tkV 5 rfl (fun wz hSz => by go_simp; all_goals with_reducible rfl) ?_
        go_simp
        refine rd1 7 rfl (fun K hK => ?_)
        refine step_store_row rfl _ _ _ rfl (b8) _ rfl rfl _ _ (HFwg20.out.box i1) (by kernel_rfl) rfl (by kernel_rfl) ?_
        have hfa := HFwg20.out.setRow i1 #[.int .u64 0, .int .u64 (ownerS ky 0), .int .u64 rr, .int .u64 bl, .int .u64 ky, .int .i64 0, .int .i64 0, .slice (some ⟨gm, 0, none⟩) D D, .bool true]
        change K _ (wg20.setRow (b8) #[.int .u64 0, .int .u64 (ownerS ky 0), .int .u64 rr, .int .u64 bl, .int .u64 ky, .int .i64 0, .int .i64 0, .slice (some ⟨gm, 0, none⟩) D D, .bool true])
        obtain ⟨wg21, hw⟩ : ∃ x, wg20.setRow (b8) #[.int .u64 0, .int .u64 (ownerS ky 0), .int .u64 rr, .int .u64 bl, .int .u64 ky, .int .i64 0, .int .i64 0, .slice (some ⟨gm, 0, none⟩) D D, .bool true] = x := ⟨_, rfl⟩
        rw [hw] at hfa ⊢
        have HFwg21 := Lib.hid hfa
        clear hHeld hfa hw
        refine hK.out _ _ (⟨⟨HFwg21.out.box i2, trivial⟩, trivial⟩) (fun hHeld => ?_)
        clear hK K
        go_simp
        clear hHeld
        refine wpAnyH_done (by kernel_rfl) ?_ _
        go_wp2_with fail
        go_meet
        case rel => exact ⟨b8, some ⟨gm, 0, none⟩, D, rfl, Lib.hid (Fr.swap HFwg21.out)⟩
  case rest =>
    obtain ⟨b8, a8, c8, rfl, HFC⟩ := hcut
    obtain ⟨wd, hwd⟩ : ∃ z, z = wc := ⟨_, rfl⟩
    subst hwd
    have HFD := Lib.hid (HFC.out.alloc #[.int .u64 0, .int .u64 (ownerS ky 0), .int .u64 rr, .int .u64 bl, .int .u64 ky, .int .i64 0, .int .i64 0, .slice ad D cd, .bool true] 58)
    -- MARK6
    go_wp2_with (first
      | refine wpList_load_row rfl _ _ rfl B2 rfl _ _ _ _ (HFC.out.box i3) Tryz.underlying58 rfl (by kernel_rfl) ?_
      | refine wpList_load_row rfl _ _ rfl b8 rfl _ _ _ _ (HFD.out.box i1) Tryz.underlying58 rfl (by kernel_rfl) ?_)
    -- MARK7
    have hpr := du_pair HDA.out 58 (HFC.out.get i4) (HFC.out.get i1)
    refine (same39_one _ _ _ (duS ky rr bl D) wd.heap.size (wd.heap.size + 1) hpr.1 hpr.2 (by show (List.replicate D (0 : Int)).length ≤ 20; rw [List.length_replicate]; have := HD2.out; omega)).mono ?_
    rintro e w8 ⟨rfl, hb8⟩
    have HF8 := Lib.hid (HFC.out.keepB (bnext (bnew (bnew (Below.refl _ _) _) _) hb8))
    clear hb8 hpr HFC HFD HF7
    go_wp2_with fail
    -- MARK8
    refine (open43_lit w8).mono ?_
    rintro e w9 ⟨rfl, hb9⟩
    have hf := (HF8.out.keepB hb9).alloc #[.int .i64 2, .int .i64 2, .int .i64 0, .int .i64 0, .int .i64 0, .int .u64 0, .int .i64 1, .int .i64 1, .int .u64 1] 26
    clear hb9 HF8
    go_upto_region 12 with (fail)
    -- MARK9
    obtain ⟨B9, hB9⟩ : ∃ x, w9.heap.size = x := ⟨_, rfl⟩
    obtain ⟨w10, hw10⟩ : ∃ x, w9.alloc (.cells #[.int .i64 2, .int .i64 2, .int .i64 0, .int .i64 0, .int .i64 0, .int .u64 0, .int .i64 1, .int .i64 1, .int .u64 1] 26) = x := ⟨_, rfl⟩
    rw [hw10, hB9] at hf
    rw [hw10, hB9]
    have HF10 := Lib.hid hf
    clear hf hw10 hB9
    obtain ⟨x0, x1⟩ := box_cells (HF10.out.box i0)
    go_upto_region 13 with (fail)
    have hf := (HF10.out.set i0 1 (.int .i64 D)).map i0 (A' := boxA B9 #[.int .i64 2, .int .i64 D, .int .i64 0, .int .i64 0, .int .i64 0, .int .u64 0, .int .i64 1, .int .i64 1, .int .u64 1] 26) (fun _ h => h)
    obtain ⟨w11, hw11⟩ : ∃ x, w10.setCell ⟨B9, 1, none⟩ (.int .i64 D) = x := ⟨_, rfl⟩
    rw [hw11] at hf
    rw [hw11]
    have HF11 := Lib.hid hf
    clear hf hw11 HF10 x0 x1
    go_wp2_with fail
    -- MARK10
    refine (real_any w11).mono ?_
    rintro e w12 ⟨p, rfl, -, ho, hb12⟩
    have HF12 := Lib.hid (HF11.out.new (A := orcA p ⟨false, 0, 0, []⟩) hb12 ho)
    clear ho hb12 HF11
    go_wp2_with (first
      | refine wpList_load_row rfl _ _ rfl B9 rfl _ _ _ _ (HF12.out.box i1) Tryz.underlying26 rfl (by kernel_rfl) ?_
      | refine wpList_load_row rfl _ _ rfl B2 rfl _ _ _ _ (HF12.out.box i5) Tryz.underlying58 rfl (by kernel_rfl) ?_)
    -- MARK11
    have hf := HF12.out.alloc #[.int .u64 0, .int .u64 (ownerS ky 0), .int .u64 rr, .int .u64 bl, .int .u64 ky, .int .i64 0, .int .i64 0, .slice ad D cd, .bool true] 58
    obtain ⟨B13, hB13⟩ : ∃ x, w12.heap.size = x := ⟨_, rfl⟩
    obtain ⟨w13, hw13⟩ : ∃ x, w12.alloc (.cells #[.int .u64 0, .int .u64 (ownerS ky 0), .int .u64 rr, .int .u64 bl, .int .u64 ky, .int .i64 0, .int .i64 0, .slice ad D cd, .bool true] 58) = x := ⟨_, rfl⟩
    rw [hw13, hB13] at hf
    rw [hw13, hB13]
    have HF13 := Lib.hid hf
    clear hf hw13 hB13 HF12
    refine (build_dum HDA.out HF13.out i1 i0 i6 (HT.out.keepB HF13.out.below)).mono ?_
    rintro e w14 ⟨t, xw, m4, y, rfl, ⟨k1, k2, k3, k4⟩, hf4⟩
    have HK1 := Lib.hid k1
    have HK3 := Lib.hid k3
    have HK4 := Lib.hid k4
    have HK2 := Lib.hid k2
    have hf := (hf4.alloc (txC t y.ma y.oa y.pa y.mc y.oc y.pc) 45).alloc (witC xw y.ia y.ic y.na y.nc) 48
    rw [World.size_alloc] at hf
    clear hf4 k1 k2 k3 k4 HF13
    go_upto_region 15 with (fail)
    -- MARK12
    obtain ⟨BA, hBA⟩ : ∃ x, w14.heap.size = x := ⟨_, rfl⟩
    rw [hBA] at hf
    rw [hBA]
    obtain ⟨w15, hw15⟩ : ∃ x, (w14.alloc (.cells (txC t y.ma y.oa y.pa y.mc y.oc y.pc) 45)).alloc (.cells (witC xw y.ia y.ic y.na y.nc) 48) = x := ⟨_, rfl⟩
    rw [hw15] at hf
    rw [hw15]
    have HF15 := Lib.hid hf
    clear hf hw15 hBA
    obtain ⟨x0, x1⟩ := box_cells (HF15.out.box i1)
    obtain ⟨G, -, hog, -⟩ := HF15.out.open i4
    have hoa := hog.at
    rw [HK1.out] at hoa
    have HOA := Lib.hid hoa
    have HTX := Lib.hid (HF15.out.get i2).1
    have HBT := Lib.hid (HF15.out.box i1)
    have HBR := Lib.hid (HF15.out.box i5)
    unfold txC at x0
    rw [HK2.out] at x0
    clear hog hoa
    go_wp2_with (first
      | refine wpList_load_rowH (by rfl) _ _ rfl B9 rfl _ _ _ _ HBR.out Tryz.underlying26 rfl (by kernel_rfl) ?_
      | refine wpList_load_rowH (by rfl) _ _ rfl BA rfl _ _ _ _ HBT.out Tryz.underlying45 rfl (by kernel_rfl) ?_)
    -- MARK13
    refine (check_open _ w15 p m4.st HOA.out D 0 0 0 0 1 1 1 t y.ma y.oa y.pa y.mc y.oc y.pc HTX.out (by have := HK3.out; omega)).mono ?_
    rintro e w16 ⟨rfl, hb16⟩
    rw [HK4.out]
    have HBE := Lib.hid (bnext HF15.out.below hb16)
    clear x0 x1
    go_wp2_with fail
    go_ret
    exact ⟨rfl, HBE.out⟩
theorem dummy_law (w : World) (htab : TabAt w) (seed D : Int) (hs : okU seed) :
    Calls Tryz.prog 4 #[.int .u64 seed, .int .i64 D] w fun e w' => e = .returned (.bool true) ∧ Below w.heap.size w w' := by
  by_cases h : 1 ≤ D ∧ D ≤ 12
  · obtain ⟨N, rfl⟩ := Int.eq_ofNat_of_zero_le (show 0 ≤ D by omega)
    exact dummyL_in w htab seed hs N (by omega) (by omega)
  · exact dummyL_out w htab seed D h
end Go.Proofs.YtdjcdejapkkcmaaGreatDoor
