/- The builder: the note of a dummy for a depth out of range. -/
import Derived.Test.YtdjcdejapkkcmaaGreatDoorM18
import Derived.Test.YtdjcdejapkkcmaaGreatDoorLawN
import Derived.Test.YtdjcdejapkkcmaaGreatDoorM22
import Derived.Test.YtdjcdejapkkcmaaGreatDoorM23
namespace Go.Proofs.YtdjcdejapkkcmaaGreatDoor
open Go.ChangeShapes Go.WideShapes Go.ChangeAt Go.RowKit

set_option maxRecDepth 100000 in
theorem dummy0_any (w : World) (seed D : Int) (h : ¬ (1 ≤ D ∧ D ≤ 12)) :
    Calls Tryz.prog 11 #[.int .u64 seed, .int .i64 D] w fun e w' => e = .returned (.agg #[.int .u64 0, .int .u64 0, .int .u64 0, .int .u64 0, .int .u64 0, .int .i64 0, .int .i64 0, .slice none 0 0, .bool false]) ∧ Below w.heap.size w w' := by
  have HQ0 := Lib.hid (box_new w (.cells #[.int .u64 0, .int .u64 0, .int .u64 0, .int .u64 0, .int .u64 0, .int .i64 0, .int .i64 0, .slice none 0 0, .bool false] 58))
  have HB := Lib.hid (bnew (Below.refl w.heap.size w) (.cells #[.int .u64 0, .int .u64 0, .int .u64 0, .int .u64 0, .int .u64 0, .int .i64 0, .int .i64 0, .slice none 0 0, .bool false] 58))
  have HF := Lib.hid (setRow_heap _ _ _ #[.int .u64 0, .int .u64 0, .int .u64 0, .int .u64 0, .int .u64 0, .int .i64 0, .int .i64 0, .slice none 0 0, .bool false] _ _ HQ0.out)
  by_cases h1 : D < 1
  · have d1 : decide (D < 1) = true := decide_eq_true h1
    clear h h1
    go_enter Tryz.func11, Tryz.ntmps11
    go_wp2_with (refine wpList_store_row rfl _ _ _ rfl w.heap.size _ rfl rfl _ _ HQ0.out (by kernel_rfl) rfl (by kernel_rfl) ?_)
    (try simp only [Exit.inBlock, Exit.then])
    refine bodyPost_ret (ret_c Tryz.results11 rfl HF.out Tryz.underlying58 rfl (by kernel_rfl)) rfl ?_
    exact ⟨rfl, below_setRow (g := w.heap.size) HB.out (Nat.le_refl _) _⟩
  · have d1 : decide (D < 1) = false := decide_eq_false h1
    have h2 : 12 < D := by omega
    have d2 : decide (12 < D) = true := decide_eq_true h2
    clear h h1 h2
    go_enter Tryz.func11, Tryz.ntmps11
    go_wp2_with (refine wpList_store_row rfl _ _ _ rfl w.heap.size _ rfl rfl _ _ HQ0.out (by kernel_rfl) rfl (by kernel_rfl) ?_)
    (try simp only [Exit.inBlock, Exit.then])
    refine bodyPost_ret (ret_c Tryz.results11 rfl HF.out Tryz.underlying58 rfl (by kernel_rfl)) rfl ?_
    exact ⟨rfl, below_setRow (g := w.heap.size) HB.out (Nat.le_refl _) _⟩
end Go.Proofs.YtdjcdejapkkcmaaGreatDoor
/- BuilderDummy: its hash; a depth out of range. -/
namespace Go.Proofs.YtdjcdejapkkcmaaGreatDoor
open Go.ChangeShapes Go.WideShapes Go.ChangeAt Go.RowKit Go.Sort

theorem hash_red2 (label x y : Int) : hashS label [x % 18446744069414584321, y] = hashS label [x, y] := by
  unfold hashS absorbS
  rw [if_neg (by simp), if_neg (by simp)]
  unfold absLoop
  rw [show addP (absStart label [x % 18446744069414584321, y].length).1 (x % 18446744069414584321) = addP (absStart label [x, y].length).1 x from by unfold addP; show (_ + x % 18446744069414584321) % _ = _; simp only [List.length_cons, List.length_nil]; omega]
  rfl
set_option maxRecDepth 100000 in
theorem dumh_any (w : World) (b : Nat) (seed k : Int) (hs : okU seed) (hk : okU k) (hb : w.heap[b]? = some (.cells #[.int .u64 seed] 24 (0, 0))) :
    Calls Tryz.prog 13 #[.int .u64 k, .pointer (some ⟨b, 0, none⟩)] w fun e w' => e = .returned (.int .u64 (hashS 22 [seed, k])) ∧ Below w.heap.size w w' := by
  obtain ⟨c0, c1⟩ := box_cells hb
  have hr : okU (seed % 18446744069414584321) := okU_of (by have := (okU_in hs).1; omega) (by omega)
  have htm : seed.tmod 18446744069414584321 = seed % 18446744069414584321 := Int.tmod_eq_emod_of_nonneg (okU_in hs).1
  have HX := Lib.hid (nums2 w 24 hr hk)
  have HE := Lib.hid (hash_red2 22 seed k)
  have HM := Lib.hid htm
  clear hs hk hr hb htm
  go_enter Tryz.func13, Tryz.ntmps13
  go_wp2_with fail
  rw [HM.out]
  refine (Hash_big 22 (by omega) (fun _ => True) _ _ 2 [seed % 18446744069414584321, k] (by simpa using HX.out) (by simp)).mono ?_
  rintro e w1 ⟨rfl, hb⟩
  rw [HE.out]
  go_wp2_with fail
  go_ret
  exact ⟨rfl, bnext (bnew (Below.refl _ _) _) hb⟩
def sp0 : SpentM := ⟨⟨0, 0, 0, 0⟩, 0, 0, 0, [], false⟩
theorem spent_box {S : Nat → Prop} {w : World} {b : Nat} {cs : List Value} {s : SpentM} {t : TypeId} (h : spentR.rel S w cs s) (hb : w.heap[b]? = some (.cells cs.toArray t)) (hS : S b) : spentsR.rel S w [.slice (some ⟨b, 0, none⟩) 1 1] [s] :=
  slice_one h hS (box_lt hb) (fun j v hv => by rw [Nat.zero_add, (box_cells hb).1]; simpa using hv)
theorem sp0_ok : SpentOk sp0 := ⟨⟨okU_of (by show (0 : Int) ≤ 0; omega) (by show (0 : Int) < _; omega), okU_of (by show (0 : Int) ≤ 0; omega) (by show (0 : Int) < _; omega), okU_of (by show (0 : Int) ≤ 0; omega) (by show (0 : Int) < _; omega), okU_of (by show (0 : Int) ≤ 0; omega) (by show (0 : Int) < _; omega)⟩, okU_of (by show (0 : Int) ≤ 0; omega) (by show (0 : Int) < _; omega), okI_of (by show _ ≤ (0 : Int); omega) (by show (0 : Int) < _; omega), okI_of (by show _ ≤ (0 : Int); omega) (by show (0 : Int) < _; omega)⟩
theorem sp0_rel (w : World) : spentR.rel (fun _ => True) w [.int .u64 0, .int .u64 0, .int .u64 0, .int .u64 0, .int .u64 0, .int .i64 0, .int .i64 0, .slice none 0 0, .bool false] sp0 := spentR.mk (s := sp0) sp0_ok sliceR.nil
theorem zero_pair (w : World) : spentsR.rel (fun _ => True) ((w.alloc (.cells #[.int .u64 0, .int .u64 0, .int .u64 0, .int .u64 0, .int .u64 0, .int .i64 0, .int .i64 0, .slice none 0 0, .bool false] 58)).alloc (.cells #[.int .u64 0, .int .u64 0, .int .u64 0, .int .u64 0, .int .u64 0, .int .i64 0, .int .i64 0, .slice none 0 0, .bool false] 58)) [.slice (some ⟨w.heap.size, 0, none⟩) 1 1] [sp0] ∧ spentsR.rel (fun _ => True) ((w.alloc (.cells #[.int .u64 0, .int .u64 0, .int .u64 0, .int .u64 0, .int .u64 0, .int .i64 0, .int .i64 0, .slice none 0 0, .bool false] 58)).alloc (.cells #[.int .u64 0, .int .u64 0, .int .u64 0, .int .u64 0, .int .u64 0, .int .i64 0, .int .i64 0, .slice none 0 0, .bool false] 58)) [.slice (some ⟨w.heap.size + 1, 0, none⟩) 1 1] [sp0] := by
  have q0 := box_old (o' := .cells #[.int .u64 0, .int .u64 0, .int .u64 0, .int .u64 0, .int .u64 0, .int .i64 0, .int .i64 0, .slice none 0 0, .bool false] 58) (box_new w (.cells #[.int .u64 0, .int .u64 0, .int .u64 0, .int .u64 0, .int .u64 0, .int .i64 0, .int .i64 0, .slice none 0 0, .bool false] 58))
  have q1 := box_new (w.alloc (.cells #[.int .u64 0, .int .u64 0, .int .u64 0, .int .u64 0, .int .u64 0, .int .i64 0, .int .i64 0, .slice none 0 0, .bool false] 58)) (.cells #[.int .u64 0, .int .u64 0, .int .u64 0, .int .u64 0, .int .u64 0, .int .i64 0, .int .i64 0, .slice none 0 0, .bool false] 58)
  rw [World.size_alloc] at q1
  exact ⟨spent_box (sp0_rel _) q0 trivial, spent_box (sp0_rel _) q1 trivial⟩
set_option maxRecDepth 100000 in
set_option maxHeartbeats 4000000 in
theorem dummyL_out (w : World) (htab : TabAt w) (seed D : Int) (h : ¬ (1 ≤ D ∧ D ≤ 12)) :
    Calls Tryz.prog 4 #[.int .u64 seed, .int .i64 D] w fun e w' => e = .returned (.bool true) ∧ Below w.heap.size w w' := by
  have HT := Lib.hid htab
  have HO := Lib.hid h
  have HW := Lib.hid ((Fr.nil (fun _ => False) w).alloc #[.int .u64 seed] 24)
  by_cases h1 : D < 1
  · skip
    have d1 : decide (D < 1) = true := decide_eq_true h1
    clear h h1 htab
    go_enter Tryz.func4, Tryz.ntmps4
    go_upto_region 1 with (fail)
    obtain ⟨W, hW⟩ : ∃ z, w.alloc (.cells #[.int .u64 seed] 24) = z := ⟨_, rfl⟩
    obtain ⟨B, hB⟩ : ∃ z, w.heap.size = z := ⟨_, rfl⟩
    rw [hW, hB] at HW
    rw [hW, hB]
    have HFW := HW
    clear HW hW hB
    go_wp2_with fail
    refine (awake43_any W (HT.out.keepB HFW.out.below)).mono ?_
    rintro e w1 ⟨rfl, hb1⟩
    have HF1 := Lib.hid (HFW.out.keepB hb1)
    clear hb1 HFW
    obtain ⟨x0, x1⟩ := box_cells (HF1.out.box i0)
    go_wp2_with fail
    refine (dummy0_any w1 seed D HO.out).mono ?_
    rintro e w2 ⟨rfl, hb2⟩
    have hf := (HF1.out.keepB hb2).alloc #[.int .u64 0, .int .u64 0, .int .u64 0, .int .u64 0, .int .u64 0, .int .i64 0, .int .i64 0, .slice none 0 0, .bool false] 58
    have HF2 := Lib.hid hf
    have HBX := Lib.hid (hf.box i0)
    clear hf hb2 HF1 x0 x1
    -- MARK1
    go_upto_region 4 with (refine wpList_store_row rfl _ _ _ rfl w2.heap.size _ rfl rfl _ _ HBX.out (by kernel_rfl) rfl (by kernel_rfl) ?_)
    have hf := HF2.out.setRow i0 #[.int .u64 0, .int .u64 0, .int .u64 0, .int .u64 0, .int .u64 0, .int .i64 0, .int .i64 0, .slice none 0 0, .bool false]
    obtain ⟨B2, hB2⟩ : ∃ x, w2.heap.size = x := ⟨_, rfl⟩
    obtain ⟨w3, hw3⟩ : ∃ x, (w2.alloc (.cells #[.int .u64 0, .int .u64 0, .int .u64 0, .int .u64 0, .int .u64 0, .int .i64 0, .int .i64 0, .slice none 0 0, .bool false] 58)).setRow w2.heap.size #[.int .u64 0, .int .u64 0, .int .u64 0, .int .u64 0, .int .u64 0, .int .i64 0, .int .i64 0, .slice none 0 0, .bool false] = x := ⟨_, rfl⟩
    rw [hw3, hB2] at hf
    rw [hw3, hB2]
    have HF3 := Lib.hid hf
    clear hf hw3 hB2 HBX HF2
    -- MARK2
    go_wp2_with (refine wpList_load_row rfl _ _ rfl B2 rfl _ _ _ _ (HF3.out.box i0) Tryz.underlying58 rfl (by kernel_rfl) ?_)
    -- MARK3
    refine (same39_one _ _ _ sp0 w3.heap.size (w3.heap.size + 1) (zero_pair w3).1 (zero_pair w3).2 (by show 0 ≤ 20; omega)).mono ?_
    rintro e w4 ⟨rfl, hb4⟩
    have HBE := Lib.hid (bnext (bnew (bnew HF3.out.below _) _) hb4)
    go_wp2_with fail
    go_ret
    exact ⟨rfl, HBE.out⟩
  · skip
    have d1 : decide (D < 1) = false := decide_eq_false h1
    have d2 : decide (12 < D) = true := decide_eq_true (by omega)
    clear h h1 htab
    go_enter Tryz.func4, Tryz.ntmps4
    go_upto_region 1 with (fail)
    obtain ⟨W, hW⟩ : ∃ z, w.alloc (.cells #[.int .u64 seed] 24) = z := ⟨_, rfl⟩
    obtain ⟨B, hB⟩ : ∃ z, w.heap.size = z := ⟨_, rfl⟩
    rw [hW, hB] at HW
    rw [hW, hB]
    have HFW := HW
    clear HW hW hB
    go_wp2_with fail
    refine (awake43_any W (HT.out.keepB HFW.out.below)).mono ?_
    rintro e w1 ⟨rfl, hb1⟩
    have HF1 := Lib.hid (HFW.out.keepB hb1)
    clear hb1 HFW
    obtain ⟨x0, x1⟩ := box_cells (HF1.out.box i0)
    go_wp2_with fail
    refine (dummy0_any w1 seed D HO.out).mono ?_
    rintro e w2 ⟨rfl, hb2⟩
    have hf := (HF1.out.keepB hb2).alloc #[.int .u64 0, .int .u64 0, .int .u64 0, .int .u64 0, .int .u64 0, .int .i64 0, .int .i64 0, .slice none 0 0, .bool false] 58
    have HF2 := Lib.hid hf
    have HBX := Lib.hid (hf.box i0)
    clear hf hb2 HF1 x0 x1
    -- MARK1
    go_upto_region 4 with (refine wpList_store_row rfl _ _ _ rfl w2.heap.size _ rfl rfl _ _ HBX.out (by kernel_rfl) rfl (by kernel_rfl) ?_)
    have hf := HF2.out.setRow i0 #[.int .u64 0, .int .u64 0, .int .u64 0, .int .u64 0, .int .u64 0, .int .i64 0, .int .i64 0, .slice none 0 0, .bool false]
    obtain ⟨B2, hB2⟩ : ∃ x, w2.heap.size = x := ⟨_, rfl⟩
    obtain ⟨w3, hw3⟩ : ∃ x, (w2.alloc (.cells #[.int .u64 0, .int .u64 0, .int .u64 0, .int .u64 0, .int .u64 0, .int .i64 0, .int .i64 0, .slice none 0 0, .bool false] 58)).setRow w2.heap.size #[.int .u64 0, .int .u64 0, .int .u64 0, .int .u64 0, .int .u64 0, .int .i64 0, .int .i64 0, .slice none 0 0, .bool false] = x := ⟨_, rfl⟩
    rw [hw3, hB2] at hf
    rw [hw3, hB2]
    have HF3 := Lib.hid hf
    clear hf hw3 hB2 HBX HF2
    -- MARK2
    go_wp2_with (refine wpList_load_row rfl _ _ rfl B2 rfl _ _ _ _ (HF3.out.box i0) Tryz.underlying58 rfl (by kernel_rfl) ?_)
    -- MARK3
    refine (same39_one _ _ _ sp0 w3.heap.size (w3.heap.size + 1) (zero_pair w3).1 (zero_pair w3).2 (by show 0 ≤ 20; omega)).mono ?_
    rintro e w4 ⟨rfl, hb4⟩
    have HBE := Lib.hid (bnext (bnew (bnew HF3.out.below _) _) hb4)
    go_wp2_with fail
    go_ret
    exact ⟨rfl, HBE.out⟩
end Go.Proofs.YtdjcdejapkkcmaaGreatDoor
/- BuilderDummy: Build over a frame, for one dummy note. -/
namespace Go.Proofs.YtdjcdejapkkcmaaGreatDoor
open Go.ChangeShapes Go.WideShapes Go.ChangeAt Go.RowKit Go.Sort

abbrev duC (k r b : Int) (D : Nat) (a : Option Addr) (c : Nat) : Array Value := #[.int .u64 0, .int .u64 (ownerS k 0), .int .u64 r, .int .u64 b, .int .u64 k, .int .i64 0, .int .i64 0, .slice a D c, .bool true]
structure DuAll (k r b : Int) (D : Nat) : Prop where
  ok : DuOk k r b D
  ge : DuIn k r b
theorem DuAll.spent {k r b : Int} {D : Nat} (h : DuAll k r b D) : SpentOk (duS k r b D) := by
  have h1 := h.ok.kk
  have h2 := h.ok.rr
  have h3 := h.ok.bb
  have h4 := h.ok.oo
  exact ⟨⟨okU_of (by show (0 : Int) ≤ 0; omega) (by show (0 : Int) < _; omega), okU_of (owner_ge k) (by show ownerS k 0 < _; omega), okU_of h.ge.r0 (by show r < _; omega), okU_of h.ge.b0 (by show b < _; omega)⟩, okU_of h.ge.k0 (by show k < _; omega), okI_of (by show _ ≤ (0 : Int); omega) (by show (0 : Int) < _; omega), okI_of (by show _ ≤ (0 : Int); omega) (by show (0 : Int) < _; omega)⟩
theorem DuAll.rel {k r b : Int} {D : Nat} (h : DuAll k r b D) {S : Nat → Prop} {w : World} {a : Option Addr} {c : Nat} (hn : numsR.rel S w [.slice a D c] (List.replicate D 0)) : spentR.rel S w (duC k r b D a c).toList (duS k r b D) :=
  spentR_mk' (s := duS k r b D) (n := D) h.spent (by show (List.replicate D (0 : Int)).length = D; rw [List.length_replicate]) hn
theorem DuAll.of (seed : Int) {D : Nat} (h0 : 1 ≤ D) (h1 : D ≤ 12) : DuAll (hashS 22 [seed, 0]) (hashS 22 [seed, 1]) (hashS 22 [seed, 2]) D :=
  ⟨⟨(hashS_in _ _).2, (hashS_in _ _).2, (hashS_in _ _).2, owner_lt _, h0, h1⟩, ⟨(hashS_in _ _).1, (hashS_in _ _).1, (hashS_in _ _).1⟩⟩
theorem du_pair {k r b : Int} {D : Nat} (h : DuAll k r b D) {S S' : Nat → Prop} {w : World} {a a' : Option Addr} {c c' : Nat} (t : TypeId) (h1 : numsR.rel S w [.slice a D c] (List.replicate D 0)) (h2 : numsR.rel S' w [.slice a' D c'] (List.replicate D 0)) :
    spentsR.rel (fun _ => True) ((w.alloc (.cells (duC k r b D a c) t)).alloc (.cells (duC k r b D a' c') t)) [.slice (some ⟨w.heap.size, 0, none⟩) 1 1] [duS k r b D] ∧ spentsR.rel (fun _ => True) ((w.alloc (.cells (duC k r b D a c) t)).alloc (.cells (duC k r b D a' c') t)) [.slice (some ⟨w.heap.size + 1, 0, none⟩) 1 1] [duS k r b D] := by
  have hb := bnew (bnew (Below.refl w.heap.size w) (.cells (duC k r b D a c) t)) (.cells (duC k r b D a' c') t)
  have q0 := box_old (o' := .cells (duC k r b D a' c') t) (box_new w (.cells (duC k r b D a c) t))
  have q1 := box_new (w.alloc (.cells (duC k r b D a c) t)) (.cells (duC k r b D a' c') t)
  rw [World.size_alloc] at q1
  exact ⟨spent_box (h.rel (numsR.mono (numsR.keepB h1 hb) fun _ _ _ => trivial)) q0 trivial, spent_box (h.rel (numsR.mono (numsR.keepB h2 hb) fun _ _ _ => trivial)) q1 trivial⟩
theorem duQ_ok (s : SpentM) : ReqOk (duQ s) := reqOk_mk (okU_of (by omega) (by omega)) (okU_of (by omega) (by omega)) (okU_of (by omega) (by omega)) (okU_of (by omega) (by omega)) (okU_of (by omega) (by omega)) (okU_of (by omega) (by omega)) (okU_of (by omega) (by omega)) (okI_of (by omega) (by omega)) (okU_of (by omega) (by omega))
theorem build_dum {L E E1 E2 : List Asn} {f f1 f2 : Asn → List Asn} {F0 : Nat → Prop} {w0 w : World} {p bs : Nat} {k r b : Int} {D : Nat} (hd : DuAll k r b D) {a : Option Addr} {c : Nat} {ty : TypeId} (h : Fr L F0 w0 w) (ixo : In L (orcA p ⟨false, 0, 0, []⟩) f E) (ixb : In E (boxA bs (duC k r b D a c) ty) f1 E1) (ixn : In E (repA numsR [.slice a D c] (List.replicate D 0)) f2 E2) (htab : TabAt w) :
    Calls Tryz.prog 9 #[.pointer (some ⟨p, 0, none⟩), .agg #[.int .i64 2, .int .i64 D, .int .i64 0, .int .i64 0, .int .i64 0, .int .u64 0, .int .i64 1, .int .i64 1, .int .u64 1], .agg #[.int .u64 5, .slice (some ⟨bs, 0, none⟩) 1 1, .slice none 0 0, .int .u64 0, .int .u64 0, .int .u64 0, .int .u64 0, .int .u64 0, .int .u64 0, .int .i64 1, .int .u64 0]] w fun e w' =>
      ∃ (t : TxM) (x : WitM) (m' : OrM) (y : TwAd), e = .returned (.tuple #[.agg (txC t y.ma y.oa y.pa y.mc y.oc y.pc), .agg (witC x y.ia y.ic y.na y.nc), .int .i64 0]) ∧ (m'.ideal = false ∧ t.marks.length = 1 ∧ t.proof.length ≤ 1000 ∧ checkE D 0 0 0 0 1 1 1 t = 0) ∧ Fr (twA t x y :: f (orcA p m')) F0 w0 w' := by
  obtain ⟨G, hG, ho, hrd, hcl⟩ := h.open' ixo
  have hreq : ReqAt (fun k => ¬ G k) w (duQ (duS k r b D)) (some ⟨bs, 0, none⟩) 1 none 0 := ⟨spent_box (hd.rel (hrd ixn)) (hrd ixb).2 (hrd ixb).1, sliceR.nil⟩
  refine (build_gen G _ w htab p ⟨false, 0, 0, []⟩ ho (fun k h => (hG k h).2) (openR 2 D) (by show ¬ (2 : Int) = 1; omega) (duQ (duS k r b D)) (duQ_ok _) (some ⟨bs, 0, none⟩) none 1 0 hreq (fun _ h => h) (by show 0 + 0 + 300 ≤ 100000; omega)).mono ?_
  have hg : buildG ⟨false, 0, 0, []⟩ (openR 2 D) (openR 2 D).depth.toNat (duQ (duS k r b D)) = (0, duTx k r b D, duX (duS k r b D), m1D k r) := by
    rw [show (openR 2 D).depth.toNat = D from Int.toNat_natCast D]
    exact build_du hd.ok
  rw [hg]
  rintro e w' ⟨ma, oa2, pa, ia2, na, mc, oc2, pc, ic2, nc, G', rfl, ht, hw, ho', hG', hk⟩
  exact ⟨_, _, _, ⟨ma, oa2, pa, ia2, na, mc, oc2, pc, ic2, nc⟩, rfl, ⟨rfl, rfl, wit_len (spent_in hd.ok hd.ge).len, check_du hd.ok hd.ge⟩, hcl _ (twA _ _ ⟨ma, oa2, pa, ia2, na, mc, oc2, pc, ic2, nc⟩) w' G' ho' (fun k h => (hG' k h).1) ⟨ht, hw⟩ hk⟩
end Go.Proofs.YtdjcdejapkkcmaaGreatDoor
