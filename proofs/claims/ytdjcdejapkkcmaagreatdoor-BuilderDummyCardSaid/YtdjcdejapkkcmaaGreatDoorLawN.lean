/- The reference's equality of witnesses: of one input each, the same. -/
import Derived.Test.YtdjcdejapkkcmaaGreatDoorLawG
import Derived.Test.YtdjcdejapkkcmaaGreatDoorM02
import Derived.Test.YtdjcdejapkkcmaaGreatDoorM23
namespace Go.Proofs.YtdjcdejapkkcmaaGreatDoor
open Go.ChangeShapes Go.WideShapes Go.ChangeAt Go.RowKit Go.Sort

theorem Fr.swap {A B : Asn} {L : List Asn} {F0 : Nat → Prop} {w0 w : World} (h : Fr (A :: B :: L) F0 w0 w) : Fr (B :: A :: L) F0 w0 w := by
  obtain ⟨⟨F, ⟨G, h1, h2, G2, h3, h4, h5⟩, h6⟩, hk⟩ := h
  exact ⟨⟨F, ⟨G2, fun k h => (h3 k h).1, h4, G, fun k h => ⟨h1 k h, fun h7 => (h3 k h7).2 h⟩, h2, h5.mono fun k h => ⟨⟨h.1.1, h.2⟩, h.1.2⟩⟩, h6⟩, hk⟩
theorem one_range {S : Nat → Prop} {w : World} {b : Nat} {s : SpentM} (h : spentsR.rel S w [.slice (some ⟨b, 0, none⟩) 1 1] [s]) : ∃ pa pc, w.rangeAt b 0 [.int .u64 s.note.value, .int .u64 s.note.owner, .int .u64 s.note.rho, .int .u64 s.note.blind, .int .u64 s.key, .int .i64 s.number, .int .i64 s.position, .slice pa s.path.length pc, .bool s.dummy] ∧ SpentOk s ∧ numsR.rel S w [.slice pa s.path.length pc] s.path ∧ b < w.heap.size := by
  obtain ⟨b', off', es, he, -, hbl, hr, hc⟩ := sliceR.at h 0 (by simp)
  obtain ⟨pa, pc, rfl, hok, hp⟩ := spentR.inv hr
  simp only [Option.some.injEq, Addr.mk.injEq, and_true] at he
  obtain ⟨rfl, rfl⟩ := he
  exact ⟨pa, pc, fun j v hv => by have := hc j v hv; simpa using this, hok, hp, hbl⟩
set_option maxRecDepth 100000 in
set_option maxHeartbeats 4000000 in
theorem same39_one (S S' : Nat → Prop) (w : World) (s : SpentM) (b1 b2 : Nat) (h1 : spentsR.rel S w [.slice (some ⟨b1, 0, none⟩) 1 1] [s]) (h2 : spentsR.rel S' w [.slice (some ⟨b2, 0, none⟩) 1 1] [s]) (hpl : s.path.length ≤ 20) :
    Calls Tryz.prog 12 #[.agg #[.slice (some ⟨b1, 0, none⟩) 1 1, .slice none 0 0, .int .u64 0], .agg #[.slice (some ⟨b2, 0, none⟩) 1 1, .slice none 0 0, .int .u64 0]] w fun e w' => e = .returned (.bool true) ∧ Below w.heap.size w w' := by
  obtain ⟨pa, pc, r1, -, n1, lt1⟩ := one_range h1
  obtain ⟨qa, qc, r2, -, n2, lt2⟩ := one_range h2
  have hf := Fr.al2 (fun _ => False) w #[.slice (some ⟨b1, 0, none⟩) 1 1, .slice none 0 0, .int .u64 0] #[.slice (some ⟨b2, 0, none⟩) 1 1, .slice none 0 0, .int .u64 0] 48 48
  have HW := Lib.hid hf
  have HR1 := Lib.hid r1
  have HR2 := Lib.hid r2
  have HN1 := Lib.hid n1
  have HN2 := Lib.hid n2
  have HPL := Lib.hid hpl
  clear h1 h2 r1 r2 n1 n2 lt1 lt2 hf hpl
  go_enter Tryz.func12, Tryz.ntmps12
  go_upto_region 1 with (fail)
  obtain ⟨W, hW⟩ : ∃ z, (w.alloc (.cells #[.slice (some ⟨b1, 0, none⟩) 1 1, .slice none 0 0, .int .u64 0] 48)).alloc (.cells #[.slice (some ⟨b2, 0, none⟩) 1 1, .slice none 0 0, .int .u64 0] 48) = z := ⟨_, rfl⟩
  rw [hW] at HW ⊢
  obtain ⟨B, hB⟩ : ∃ z, w.heap.size = z := ⟨_, rfl⟩
  obtain ⟨D, hD⟩ : ∃ z, w.heap.size + 1 = z := ⟨_, rfl⟩
  rw [hD] at HW ⊢
  rw [hB] at HW ⊢
  clear hW hB hD
  have HFW := HW
  clear HW
  obtain ⟨x0, x1⟩ := box_cells (HFW.out.box i0)
  obtain ⟨y0, y1⟩ := box_cells (HFW.out.box i1)
  go_wp2_with fail
  clear x0 x1 y0 y1
  go_loopw [5] (fun vi wr => ∃ i : Nat, i ≤ 1 ∧ vi = .int .i64 i ∧ Hid (Fr [boxA B #[.slice (some ⟨b1, 0, none⟩) 1 1, .slice none 0 0, .int .u64 0] 48, boxA D #[.slice (some ⟨b2, 0, none⟩) 1 1, .slice none 0 0, .int .u64 0] 48] (fun _ => False) w wr)) (fun vi _ => 1 - (intOf vi).toNat)
  case atStart => exact ⟨0, by omega, rfl, HFW⟩
  case round =>
    obtain ⟨i, hi, rfl, HFR⟩ := hrel
    by_cases h0 : i = 0
    · subst h0
      obtain ⟨x0, x1⟩ := box_cells (HFR.out.box i0)
      go_upto_region 6 with (fail)
      clear x0 x1
      go_cut [6, 7] from 32 to 89 (fun v6 v7 wc => ∃ bx bz : Nat, v6 = .pointer (some ⟨bx, 0, none⟩) ∧ v7 = .pointer (some ⟨bz, 0, none⟩) ∧ Hid (Fr (boxA bx #[.int .u64 s.note.value, .int .u64 s.note.owner, .int .u64 s.note.rho, .int .u64 s.note.blind, .int .u64 s.key, .int .i64 s.number, .int .i64 s.position, .slice pa s.path.length pc, .bool s.dummy] 58 :: boxA bz #[.int .u64 s.note.value, .int .u64 s.note.owner, .int .u64 s.note.rho, .int .u64 s.note.blind, .int .u64 s.key, .int .i64 s.number, .int .i64 s.position, .slice qa s.path.length qc, .bool s.dummy] 58 :: [boxA B #[.slice (some ⟨b1, 0, none⟩) 1 1, .slice none 0 0, .int .u64 0] 48, boxA D #[.slice (some ⟨b2, 0, none⟩) 1 1, .slice none 0 0, .int .u64 0] 48]) (fun _ => False) w wc))
      case first =>
        have HFwg00 := Lib.hid (HFR.out.drew)
        have hS0 : Hid ((Held [(B, #[.slice (some ⟨b1, 0, none⟩) 1 1, .slice none 0 0, .int .u64 0], 48), (D, #[.slice (some ⟨b2, 0, none⟩) 1 1, .slice none 0 0, .int .u64 0], 48)] [(b1, 0, [.int .u64 s.note.value, .int .u64 s.note.owner, .int .u64 s.note.rho, .int .u64 s.note.blind, .int .u64 s.key, .int .i64 s.number, .int .i64 s.position, .slice pa s.path.length pc, .bool s.dummy]), (b2, 0, [.int .u64 s.note.value, .int .u64 s.note.owner, .int .u64 s.note.rho, .int .u64 s.note.blind, .int .u64 s.key, .int .i64 s.number, .int .i64 s.position, .slice qa s.path.length qc, .bool s.dummy])]) wr.drew) := Held.keepB (⟨⟨HFR.out.box i0, HFR.out.box i1, trivial⟩, range_below HR1.out HFR.out.below, range_below HR2.out HFR.out.below, trivial⟩) (Below.refl _ _).drew
        refine wp_region_held_drew (S := (Held [(B, #[.slice (some ⟨b1, 0, none⟩) 1 1, .slice none 0 0, .int .u64 0], 48), (D, #[.slice (some ⟨b2, 0, none⟩) 1 1, .slice none 0 0, .int .u64 0], 48)] [(b1, 0, [.int .u64 s.note.value, .int .u64 s.note.owner, .int .u64 s.note.rho, .int .u64 s.note.blind, .int .u64 s.key, .int .i64 s.number, .int .i64 s.position, .slice pa s.path.length pc, .bool s.dummy]), (b2, 0, [.int .u64 s.note.value, .int .u64 s.note.owner, .int .u64 s.note.rho, .int .u64 s.note.blind, .int .u64 s.key, .int .i64 s.number, .int .i64 s.position, .slice qa s.path.length qc, .bool s.dummy])])) (by kernel_rfl) hS0.out (fun hHeld => ?_)
        obtain ⟨wg0, hwd⟩ : ∃ x, wr.drew = x := ⟨_, rfl⟩
        rw [hwd] at hHeld HFwg00 ⊢
        have HFwg0 := HFwg00
        clear hwd HFwg00 hS0
        go_simp
        refine tkV 0 rfl (fun wz hSz => by go_simp; all_goals with_reducible rfl) ?_
        go_simp
        refine tkV 1 rfl (fun wz hSz => by have cx := (box_cells hSz.b.1).1; go_simp; all_goals with_reducible rfl) ?_
        go_simp
        refine tkV 2 rfl (fun wz hSz => by go_simp; all_goals with_reducible rfl) ?_
        go_simp
        refine tkV 3 rfl (fun wz hSz => by go_simp; all_goals with_reducible rfl) ?_
        go_simp
        refine tkY 4 rfl (yieldsIf_load_mid (by rfl) _ _ rfl (b1) (0) rfl [.int .u64 s.note.value, .int .u64 s.note.owner, .int .u64 s.note.rho, .int .u64 s.note.blind, .int .u64 s.key, .int .i64 s.number, .int .i64 s.position, .slice pa s.path.length pc, .bool s.dummy] _ (fun wz hSz => hSz.r.1) Tryz.underlying58 rfl (by kernel_rfl)) ?_
        go_simp
        refine tkV 5 rfl (fun wz hSz => by go_simp; all_goals with_reducible rfl) ?_
        go_simp
        refine tkV 6 rfl (fun wz hSz => by have cx := (box_cells hSz.b.2.1).1; go_simp; all_goals with_reducible rfl) ?_
        go_simp
        refine tkV 7 rfl (fun wz hSz => by go_simp; all_goals with_reducible rfl) ?_
        go_simp
        refine tkV 8 rfl (fun wz hSz => by go_simp; all_goals with_reducible rfl) ?_
        go_simp
        refine tkY 9 rfl (yieldsIf_load_mid (by rfl) _ _ rfl (b2) (0) rfl [.int .u64 s.note.value, .int .u64 s.note.owner, .int .u64 s.note.rho, .int .u64 s.note.blind, .int .u64 s.key, .int .i64 s.number, .int .i64 s.position, .slice qa s.path.length qc, .bool s.dummy] _ (fun wz hSz => hSz.r.2.1) Tryz.underlying58 rfl (by kernel_rfl)) ?_
        go_simp
        refine rd2 10 11 rfl rfl (fun K hK => ?_) (fun K hK => ?_)
        · skip
          go_simp
          have hfa := HFwg0.out.alloc #[.int .u64 0, .int .u64 0, .int .u64 0, .int .u64 0, .int .u64 0, .int .i64 0, .int .i64 0, .slice none 0 0, .bool false] 58
          obtain ⟨bx, hbn⟩ : ∃ x, wg0.heap.size = x := ⟨_, rfl⟩
          rw [hbn] at hfa
          try rw [hbn]
          obtain ⟨wg1, hw⟩ : ∃ x, wg0.alloc (.cells #[.int .u64 0, .int .u64 0, .int .u64 0, .int .u64 0, .int .u64 0, .int .i64 0, .int .i64 0, .slice none 0 0, .bool false] 58) = x := ⟨_, rfl⟩
          rw [hw] at hfa ⊢
          have HFwg1 := Lib.hid hfa
          clear hHeld hfa hw hbn
          refine hK.out _ _ (⟨⟨HFwg1.out.box i1, HFwg1.out.box i2, trivial⟩, range_below HR1.out HFwg1.out.below, range_below HR2.out HFwg1.out.below, trivial⟩) (fun hHeld => ?_)
          clear hK K
          go_simp
          refine rd1 11 rfl (fun K hK => ?_)
          go_simp
          have hfa := HFwg1.out.alloc #[.int .u64 0, .int .u64 0, .int .u64 0, .int .u64 0, .int .u64 0, .int .i64 0, .int .i64 0, .slice none 0 0, .bool false] 58
          obtain ⟨bz, hbn⟩ : ∃ x, wg1.heap.size = x := ⟨_, rfl⟩
          rw [hbn] at hfa
          try rw [hbn]
          obtain ⟨wg2, hw⟩ : ∃ x, wg1.alloc (.cells #[.int .u64 0, .int .u64 0, .int .u64 0, .int .u64 0, .int .u64 0, .int .i64 0, .int .i64 0, .slice none 0 0, .bool false] 58) = x := ⟨_, rfl⟩
          rw [hw] at hfa ⊢
          have HFwg2 := Lib.hid hfa
          clear hHeld hfa hw hbn
          refine hK.out _ _ (⟨⟨HFwg2.out.box i2, HFwg2.out.box i3, trivial⟩, range_below HR1.out HFwg2.out.below, range_below HR2.out HFwg2.out.below, trivial⟩) (fun hHeld => ?_)
          clear hK K
          go_simp
          refine rd1 12 rfl (fun K hK => ?_)
          refine step_store_row rfl _ _ _ rfl (bx) _ rfl rfl _ _ (HFwg2.out.box i1) (by kernel_rfl) rfl (by kernel_rfl) ?_
          have hfa := HFwg2.out.setRow i1 #[.int .u64 s.note.value, .int .u64 s.note.owner, .int .u64 s.note.rho, .int .u64 s.note.blind, .int .u64 s.key, .int .i64 s.number, .int .i64 s.position, .slice pa s.path.length pc, .bool s.dummy]
          change K _ (wg2.setRow (bx) #[.int .u64 s.note.value, .int .u64 s.note.owner, .int .u64 s.note.rho, .int .u64 s.note.blind, .int .u64 s.key, .int .i64 s.number, .int .i64 s.position, .slice pa s.path.length pc, .bool s.dummy])
          obtain ⟨wg3, hw⟩ : ∃ x, wg2.setRow (bx) #[.int .u64 s.note.value, .int .u64 s.note.owner, .int .u64 s.note.rho, .int .u64 s.note.blind, .int .u64 s.key, .int .i64 s.number, .int .i64 s.position, .slice pa s.path.length pc, .bool s.dummy] = x := ⟨_, rfl⟩
          rw [hw] at hfa ⊢
          have HFwg3 := Lib.hid hfa
          clear hHeld hfa hw
          refine hK.out _ _ (⟨⟨HFwg3.out.box i2, HFwg3.out.box i3, trivial⟩, range_below HR1.out HFwg3.out.below, range_below HR2.out HFwg3.out.below, trivial⟩) (fun hHeld => ?_)
          clear hK K
          go_simp
          refine rd1 13 rfl (fun K hK => ?_)
          refine step_store_row rfl _ _ _ rfl (bz) _ rfl rfl _ _ (HFwg3.out.box i0) (by kernel_rfl) rfl (by kernel_rfl) ?_
          have hfa := HFwg3.out.setRow i0 #[.int .u64 s.note.value, .int .u64 s.note.owner, .int .u64 s.note.rho, .int .u64 s.note.blind, .int .u64 s.key, .int .i64 s.number, .int .i64 s.position, .slice qa s.path.length qc, .bool s.dummy]
          change K _ (wg3.setRow (bz) #[.int .u64 s.note.value, .int .u64 s.note.owner, .int .u64 s.note.rho, .int .u64 s.note.blind, .int .u64 s.key, .int .i64 s.number, .int .i64 s.position, .slice qa s.path.length qc, .bool s.dummy])
          obtain ⟨wg4, hw⟩ : ∃ x, wg3.setRow (bz) #[.int .u64 s.note.value, .int .u64 s.note.owner, .int .u64 s.note.rho, .int .u64 s.note.blind, .int .u64 s.key, .int .i64 s.number, .int .i64 s.position, .slice qa s.path.length qc, .bool s.dummy] = x := ⟨_, rfl⟩
          rw [hw] at hfa ⊢
          have HFwg4 := Lib.hid hfa
          clear hHeld hfa hw
          refine hK.out _ _ (⟨⟨HFwg4.out.box i2, HFwg4.out.box i3, trivial⟩, range_below HR1.out HFwg4.out.below, range_below HR2.out HFwg4.out.below, trivial⟩) (fun hHeld => ?_)
          clear hK K
          go_simp
          clear hHeld
          refine wpAnyH_done (by kernel_rfl) ?_ _
          go_wp2_with fail
          go_meet
          case rel => exact ⟨bx, bz, rfl, rfl, Lib.hid (Fr.swap HFwg4.out)⟩
        · skip
          go_simp
          have hfa := HFwg0.out.alloc #[.int .u64 0, .int .u64 0, .int .u64 0, .int .u64 0, .int .u64 0, .int .i64 0, .int .i64 0, .slice none 0 0, .bool false] 58
          obtain ⟨bz, hbn⟩ : ∃ x, wg0.heap.size = x := ⟨_, rfl⟩
          rw [hbn] at hfa
          try rw [hbn]
          obtain ⟨wg5, hw⟩ : ∃ x, wg0.alloc (.cells #[.int .u64 0, .int .u64 0, .int .u64 0, .int .u64 0, .int .u64 0, .int .i64 0, .int .i64 0, .slice none 0 0, .bool false] 58) = x := ⟨_, rfl⟩
          rw [hw] at hfa ⊢
          have HFwg5 := Lib.hid hfa
          clear hHeld hfa hw hbn
          refine hK.out _ _ (⟨⟨HFwg5.out.box i1, HFwg5.out.box i2, trivial⟩, range_below HR1.out HFwg5.out.below, range_below HR2.out HFwg5.out.below, trivial⟩) (fun hHeld => ?_)
          clear hK K
          go_simp
          refine rd1 10 rfl (fun K hK => ?_)
          go_simp
          have hfa := HFwg5.out.alloc #[.int .u64 0, .int .u64 0, .int .u64 0, .int .u64 0, .int .u64 0, .int .i64 0, .int .i64 0, .slice none 0 0, .bool false] 58
          obtain ⟨bx, hbn⟩ : ∃ x, wg5.heap.size = x := ⟨_, rfl⟩
          rw [hbn] at hfa
          try rw [hbn]
          obtain ⟨wg6, hw⟩ : ∃ x, wg5.alloc (.cells #[.int .u64 0, .int .u64 0, .int .u64 0, .int .u64 0, .int .u64 0, .int .i64 0, .int .i64 0, .slice none 0 0, .bool false] 58) = x := ⟨_, rfl⟩
          rw [hw] at hfa ⊢
          have HFwg6 := Lib.hid hfa
          clear hHeld hfa hw hbn
          refine hK.out _ _ (⟨⟨HFwg6.out.box i2, HFwg6.out.box i3, trivial⟩, range_below HR1.out HFwg6.out.below, range_below HR2.out HFwg6.out.below, trivial⟩) (fun hHeld => ?_)
          clear hK K
          go_simp
          refine rd1 12 rfl (fun K hK => ?_)
          refine step_store_row rfl _ _ _ rfl (bx) _ rfl rfl _ _ (HFwg6.out.box i0) (by kernel_rfl) rfl (by kernel_rfl) ?_
          have hfa := HFwg6.out.setRow i0 #[.int .u64 s.note.value, .int .u64 s.note.owner, .int .u64 s.note.rho, .int .u64 s.note.blind, .int .u64 s.key, .int .i64 s.number, .int .i64 s.position, .slice pa s.path.length pc, .bool s.dummy]
          change K _ (wg6.setRow (bx) #[.int .u64 s.note.value, .int .u64 s.note.owner, .int .u64 s.note.rho, .int .u64 s.note.blind, .int .u64 s.key, .int .i64 s.number, .int .i64 s.position, .slice pa s.path.length pc, .bool s.dummy])
          obtain ⟨wg7, hw⟩ : ∃ x, wg6.setRow (bx) #[.int .u64 s.note.value, .int .u64 s.note.owner, .int .u64 s.note.rho, .int .u64 s.note.blind, .int .u64 s.key, .int .i64 s.number, .int .i64 s.position, .slice pa s.path.length pc, .bool s.dummy] = x := ⟨_, rfl⟩
          rw [hw] at hfa ⊢
          have HFwg7 := Lib.hid hfa
          clear hHeld hfa hw
          refine hK.out _ _ (⟨⟨HFwg7.out.box i2, HFwg7.out.box i3, trivial⟩, range_below HR1.out HFwg7.out.below, range_below HR2.out HFwg7.out.below, trivial⟩) (fun hHeld => ?_)
          clear hK K
          go_simp
          refine rd1 13 rfl (fun K hK => ?_)
          refine step_store_row rfl _ _ _ rfl (bz) _ rfl rfl _ _ (HFwg7.out.box i1) (by kernel_rfl) rfl (by kernel_rfl) ?_
          have hfa := HFwg7.out.setRow i1 #[.int .u64 s.note.value, .int .u64 s.note.owner, .int .u64 s.note.rho, .int .u64 s.note.blind, .int .u64 s.key, .int .i64 s.number, .int .i64 s.position, .slice qa s.path.length qc, .bool s.dummy]
          change K _ (wg7.setRow (bz) #[.int .u64 s.note.value, .int .u64 s.note.owner, .int .u64 s.note.rho, .int .u64 s.note.blind, .int .u64 s.key, .int .i64 s.number, .int .i64 s.position, .slice qa s.path.length qc, .bool s.dummy])
          obtain ⟨wg8, hw⟩ : ∃ x, wg7.setRow (bz) #[.int .u64 s.note.value, .int .u64 s.note.owner, .int .u64 s.note.rho, .int .u64 s.note.blind, .int .u64 s.key, .int .i64 s.number, .int .i64 s.position, .slice qa s.path.length qc, .bool s.dummy] = x := ⟨_, rfl⟩
          rw [hw] at hfa ⊢
          have HFwg8 := Lib.hid hfa
          clear hHeld hfa hw
          refine hK.out _ _ (⟨⟨HFwg8.out.box i2, HFwg8.out.box i3, trivial⟩, range_below HR1.out HFwg8.out.below, range_below HR2.out HFwg8.out.below, trivial⟩) (fun hHeld => ?_)
          clear hK K
          go_simp
          clear hHeld
          refine wpAnyH_done (by kernel_rfl) ?_ _
          go_wp2_with fail
          go_meet
          case rel => exact ⟨bx, bz, rfl, rfl, HFwg8⟩
      case rest =>
        obtain ⟨bx, bz, rfl, rfl, HFC⟩ := hcut
        obtain ⟨wd, hwd⟩ : ∃ z, z = wc := ⟨_, rfl⟩
        subst hwd
        obtain ⟨x0, x1⟩ := box_cells (HFC.out.box i0)
        obtain ⟨y0, y1⟩ := box_cells (HFC.out.box i1)
        go_wp2_with fail
        refine (rsame_any _ _ wd pa qa s.path.length s.path.length pc qc s.path s.path rfl rfl (HFC.out.arg HN1.out (fun _ _ _ h => h)) (HFC.out.arg HN2.out (fun _ _ _ h => h)) (by have := HPL.out; omega)).mono ?_
        rintro e w3 ⟨rfl, hb3⟩
        rw [decide_eq_true (rfl : s.path = s.path)]
        have HF3 := Lib.hid (((HFC.out.drop i0).drop i0).keepB hb3)
        clear x0 x1 y0 y1 hb3 HFC HFR
        go_wp2_with fail
        go_roundw
        case rel => exact ⟨1, by omega, by go_num, HF3⟩
        case measure => simp [intOf]
    · obtain rfl : i = 1 := by omega
      obtain ⟨x0, x1⟩ := box_cells (HFR.out.box i0)
      go_wp2_with fail
      clear x0 x1
      go_loopw [8] (fun vi wr => vi = .int .i64 0 ∧ Hid (Fr [boxA B #[.slice (some ⟨b1, 0, none⟩) 1 1, .slice none 0 0, .int .u64 0] 48, boxA D #[.slice (some ⟨b2, 0, none⟩) 1 1, .slice none 0 0, .int .u64 0] 48] (fun _ => False) w wr)) (fun vi _ => 1 - (intOf vi).toNat)
      case atStart => exact ⟨rfl, HFR⟩
      case round =>
        obtain ⟨rfl, HFS⟩ := hrel
        obtain ⟨x0, x1⟩ := box_cells (HFS.out.box i0)
        go_wp2_with fail
        go_ret
        exact ⟨rfl, HFS.out.below⟩
end Go.Proofs.YtdjcdejapkkcmaaGreatDoor
