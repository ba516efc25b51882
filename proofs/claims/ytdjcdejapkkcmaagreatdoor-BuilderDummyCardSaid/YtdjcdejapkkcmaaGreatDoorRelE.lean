/- The relation: the bytes of a witness, exact. -/
import Derived.Test.YtdjcdejapkkcmaaGreatDoorM11
import Derived.Test.YtdjcdejapkkcmaaGreatDoorM10
namespace Go.Proofs.YtdjcdejapkkcmaaGreatDoor
open Go.ChangeShapes Go.WideShapes Go.ChangeAt Go.RowKit Go.Sort

def FreN (l : List Int) (N : Nat) (w : World) (e : Ending) (w' : World) : Prop := ∃ (ys : List Int) (a : Option Addr) (cap : Nat), Hid (ys = l) ∧ ys.length ≤ N ∧ e = .returned (.slice a ys.length cap) ∧ bytesR.rel (fun k => w.heap.size ≤ k) w' [.slice a ys.length cap] ys ∧ Below w.heap.size w w'
theorem GivesS.freN {ys : List Int} {N : Nat} {w w' : World} {e : Ending} (h : GivesN ys w e w') (hl : ys.length ≤ N) : FreN ys N w e w' := by
  obtain ⟨a, cap, h1, h2, h3⟩ := h
  exact ⟨ys, a, cap, rfl, hl, h1, h2, h3⟩
theorem UintF (S : Nat → Prop) (N : Nat) (w : World) (a : Option Addr) (cap : Nat) (xs : List Int) (h : bytesR.rel S w [.slice a xs.length cap] xs) (hx : xs.length ≤ N) (hN : N ≤ 100000) (n : Int) (hn : okU n) :
    Calls Tryz.prog 74 #[.slice a xs.length cap, .int .u64 n] w (FreN (xs ++ digs 8 n) (N + 8) w) :=
  (Uint_new _ w a cap xs h n (okU_in hn).1 (okU_in hn).2 (by omega)).mono fun _ _ h => GivesS.freN h (by rw [List.length_append, digs_len]; omega)
theorem IntF (S : Nat → Prop) (N : Nat) (w : World) (a : Option Addr) (cap : Nat) (xs : List Int) (h : bytesR.rel S w [.slice a xs.length cap] xs) (hx : xs.length ≤ N) (hN : N ≤ 100000) (n : Nat) (hn : n ≤ 4294967295) :
    Calls Tryz.prog 81 #[.slice a xs.length cap, .int .i64 n] w (FreN (xs ++ digs 4 n) (N + 4) w) :=
  (Int_new _ w a cap xs h n hn (by omega)).mono fun _ _ h => GivesS.freN h (by rw [List.length_append, digs_len]; omega)
theorem ListF (S : Nat → Prop) (N M : Nat) (S' : Nat → Prop) (w : World) (a : Option Addr) (cap : Nat) (xs : List Int) (h : bytesR.rel S w [.slice a xs.length cap] xs) (hx : xs.length ≤ N) (hN : N ≤ 100000) (la : Option Addr) (lc : Nat) (l : List Int) (hl : numsR.rel S' w [.slice la l.length lc] l) (hlm : l.length ≤ M) (hM : M ≤ 1000) :
    Calls Tryz.prog 80 #[.slice a xs.length cap, .slice la l.length lc] w (FreN (xs ++ listS l) (N + 4 + 8 * M) w) :=
  (List_new _ S' w a cap xs h la lc l hl (by omega) (by omega)).mono fun _ _ h => by
    rw [List.append_assoc] at h
    exact GivesS.freN (ys := xs ++ listS l) h (by simp only [List.length_append, listS_len]; omega)
def noteS (n : NoteM) : List Int := digs 8 n.value ++ (digs 8 n.owner ++ (digs 8 n.rho ++ digs 8 n.blind))
def dumN (b : Bool) : Nat := if b = true then 1 else 0
def spentS (i : SpentM) : List Int := noteS i.note ++ (digs 8 i.key ++ (digs 4 i.number ++ (digs 4 i.position ++ (listS i.path ++ digs 4 (dumN i.dummy)))))
def witS (t : WitM) : List Int := digs 4 t.ins.length ++ ((t.ins.map spentS).flatten ++ (digs 4 t.outs.length ++ ((t.outs.map noteS).flatten ++ digs 8 t.secret)))
def encB (t : WitM) : Bool := decide (t.ins.length ≤ 4 ∧ t.outs.length ≤ 4) && (elemsB [t.secret] && (t.ins.all spendableB && t.outs.all noteB))
theorem encB_facts {t : WitM} (h : encB t = true) : t.ins.length ≤ 4 ∧ t.outs.length ≤ 4 ∧ elemsB [t.secret] = true ∧ t.ins.all spendableB = true ∧ t.outs.all noteB = true := by
  unfold encB at h
  simp only [Bool.and_eq_true, decide_eq_true_eq] at h
  exact ⟨h.1.1, h.1.2, h.2.1, h.2.2.1, h.2.2.2⟩
theorem spendable_facts {i : SpentM} (h : spendableB i = true) : noteB i.note = true ∧ 0 ≤ i.number ∧ i.number < 4 ∧ 0 ≤ i.position ∧ i.position ≤ 4095 ∧ i.path.length ≤ 12 := by
  unfold spendableB at h
  simp only [Bool.and_eq_true, decide_eq_true_eq] at h
  exact ⟨h.1, h.2.2.1⟩
set_option maxRecDepth 100000 in
set_option maxHeartbeats 1000000 in
theorem appendNote_any (S : Nat → Prop) (N : Nat) (w : World) (a : Option Addr) (cap : Nat) (xs : List Int) (h : bytesR.rel S w [.slice a xs.length cap] xs) (hx : xs.length ≤ N) (hN : N ≤ 10000) (n : NoteM) (hn : NoteOk n) :
    Calls Tryz.prog 124 #[.slice a xs.length cap, .agg #[.int .u64 n.value, .int .u64 n.owner, .int .u64 n.rho, .int .u64 n.blind]] w (FreN (xs ++ noteS n) (N + 32) w) := by
  have hb0 := bnew (Below.refl w.heap.size w) (.cells #[.int .u64 n.value, .int .u64 n.owner, .int .u64 n.rho, .int .u64 n.blind] 56)
  have HX := Lib.hid (box_new w (.cells #[.int .u64 n.value, .int .u64 n.owner, .int .u64 n.rho, .int .u64 n.blind] 56))
  have H := Lib.hid (bytesR.keepB h hb0)
  have HB := Lib.hid hb0
  have HN := Lib.hid hn
  have HE : Hid (noteS n = digs 8 n.value ++ (digs 8 n.owner ++ (digs 8 n.rho ++ digs 8 n.blind))) := rfl
  clear hb0 h hn
  go_enter Tryz.func124, Tryz.ntmps124
  go_wp2_with fail
  generalize w.alloc (.cells #[.int .u64 n.value, .int .u64 n.owner, .int .u64 n.rho, .int .u64 n.blind] 56) = W at *
  refine (UintF S N W a cap xs H.out hx (by omega) n.value HN.out.value).mono ?_
  rintro e w1 ⟨y1, a1, c1, Ey1, l1, rfl, h1, hb1⟩
  obtain ⟨x0, x1⟩ := box_cells (box_after hb1 HX.out)
  go_wp2_with fail
  refine (UintF _ (N + 8) w1 a1 c1 y1 h1 l1 (by omega) n.owner HN.out.owner).mono ?_
  rintro e w2 ⟨y2, a2, c2, Ey2, l2, rfl, h2, hb2⟩
  have hk2 := bnext hb1 hb2
  clear x0 x1
  obtain ⟨x0, x1⟩ := box_cells (box_after hk2 HX.out)
  go_wp2_with fail
  refine (UintF _ (N + 16) w2 a2 c2 y2 h2 (by omega) (by omega) n.rho HN.out.rho).mono ?_
  rintro e w3 ⟨y3, a3, c3, Ey3, l3, rfl, h3, hb3⟩
  have hk3 := bnext hk2 hb3
  clear x0 x1
  obtain ⟨x0, x1⟩ := box_cells (box_after hk3 HX.out)
  go_wp2_with fail
  refine (UintF _ (N + 24) w3 a3 c3 y3 h3 (by omega) (by omega) n.blind HN.out.blind).mono ?_
  rintro e w4 ⟨y4, a4, c4, Ey4, l4, rfl, h4, hb4⟩
  have hk4 := bnext hk3 hb4
  go_wp2_with fail
  go_ret
  exact ⟨y4, a4, c4, by show _ = _; rw [Ey4.out, Ey3.out, Ey2.out, Ey1.out, HE.out]; simp, by omega, rfl, bytesR.mono h4 fun k _ (hk : w3.heap.size ≤ k) => Nat.le_trans (bnext HB.out hk3).size hk, bnext HB.out hk4⟩
abbrev witC (t : WitM) (ia : Option Addr) (ic : Nat) (oa : Option Addr) (oc : Nat) : Array Value := #[.slice ia t.ins.length ic, .slice oa t.outs.length oc, .int .u64 t.secret]
set_option maxRecDepth 100000 in
set_option maxHeartbeats 2000000 in
theorem encodable_yes (S : Nat → Prop) (w : World) (t : WitM) (ia oa : Option Addr) (ic oc : Nat) (h : WtIn S w t ia oa ic oc) (he : encB t = true) :
    Calls Tryz.prog 123 #[.agg (witC t ia ic oa oc)] w fun e w' => e = .returned (.bool true) ∧ Below w.heap.size w w' := by
  obtain ⟨f1, f2, f3, f4, f5⟩ := encB_facts he
  have g1 := (sliceR.lens h.ins).2
  have g2 := (sliceR.lens h.outs).2
  unfold maxLen at g1 g2
  have hb0 := bnew (Below.refl w.heap.size w) (.cells (witC t ia ic oa oc) 48)
  have HX := Lib.hid (box_new w (.cells (witC t ia ic oa oc) 48))
  have H := Lib.hid (h.keepB hb0)
  have HB := Lib.hid hb0
  have HF3 := Lib.hid f3
  have HF4 := Lib.hid f4
  have HF5 := Lib.hid f5
  have i1 : ¬ (4 : Int) < (t.ins.length : Int) := by omega
  have i2 : ¬ (4 : Int) < (t.outs.length : Int) := by omega
  clear hb0 h he f3 f4 f5 f1 f2
  go_enter Tryz.func123, Tryz.ntmps123
  go_upto_region 1 with (fail)
  generalize w.alloc (.cells (witC t ia ic oa oc) 48) = W at *
  have HK := Lib.hid (nums1 W 24 H.out.secret)
  obtain ⟨x0, x1⟩ := box_cells HX.out
  go_wp2_with fail
  refine (elements_any (fun _ => True) _ _ 1 [t.secret] HK.out).mono ?_
  rintro e w1 ⟨rfl, hb1⟩
  rw [HF3.out]
  have hbn := bnew (Below.refl W.heap.size W) (.cells #[.int .u64 t.secret] 24)
  have HB1 := Lib.hid (bnext hbn hb1)
  clear x0 x1 hbn hb1 HK
  obtain ⟨x0, x1⟩ := box_cells (box_after HB1.out HX.out)
  go_wp2_with fail
  go_loopw [25] (fun vi wr => ∃ k : Nat, k ≤ t.ins.length ∧ vi = .int .i64 k ∧ Below W.heap.size W wr) (fun vi _ => t.ins.length - (intOf vi).toNat)
  case atStart => exact ⟨0, Nat.zero_le _, rfl, HB1.out⟩
  case round =>
    obtain ⟨k, hk, rfl, hbr⟩ := hrel
    clear x0 x1
    obtain ⟨x0, x1⟩ := box_cells (box_after hbr HX.out)
    by_cases hlt : k < t.ins.length
    · obtain ⟨b, off, pa, pc, rfl, hbl, hok, hpa, c0, c1, c2, c3, c4, c5, c6, c7, c8⟩ := spents_at (spentsR.keepB H.out.ins hbr) k hlt
      have HSP := Lib.hid (List.all_eq_true.1 HF4.out t.ins[k] (List.getElem_mem hlt))
      obtain ⟨i, hi⟩ : ∃ x, t.ins[k] = x := ⟨_, rfl⟩
      rw [hi] at hok hpa c0 c1 c2 c3 c4 c5 c6 c7 c8 HSP
      have hbn := bnew (Below.refl wr.heap.size wr) (.cells #[.int .u64 i.note.value, .int .u64 i.note.owner, .int .u64 i.note.rho, .int .u64 i.note.blind, .int .u64 i.key, .int .i64 i.number, .int .i64 i.position, .slice pa i.path.length pc, .bool i.dummy] 58)
      have HPA := Lib.hid (numsR.keepB hpa hbn)
      have HBN := Lib.hid (bnext hbr hbn)
      have HOK := Lib.hid hok
      clear hi hok hpa hbn
      go_wp2_with fail
      refine (spendable_any S _ i HOK.out pa pc HPA.out).mono ?_
      rw [HSP.out]
      rintro e w2 ⟨rfl, hb2⟩
      go_wp2_with fail
      go_roundw
      case rel => exact ⟨k + 1, by omega, by go_num, bnext HBN.out hb2⟩
      case measure => simp [intOf]; omega
    · obtain rfl : k = t.ins.length := by omega
      go_wp2_with fail
      refine (notes_any S wr oa oc t.outs (notesR.keepB H.out.outs hbr)).mono ?_
      rw [HF5.out]
      rintro e w3 ⟨rfl, hb3⟩
      go_wp2_with fail
      go_ret
      exact ⟨rfl, bnext HB.out (bnext hbr hb3)⟩
/-- The bytes of a witness, at most 752 of them. -/
def EncTo (t : WitM) (w : World) (e : Ending) (w' : World) : Prop :=
  ∃ (ys : List Int) (a : Option Addr) (cap : Nat), Hid (ys = witS t) ∧ ys.length ≤ 752 ∧ e = .returned (.tuple #[.slice a ys.length cap, .int .i64 0]) ∧ bytesR.rel (fun k => w.heap.size ≤ k) w' [.slice a ys.length cap] ys ∧ Below w.heap.size w w'
theorem flat_snoc {α : Type} (f : α → List Int) (l : List α) (k : Nat) (h : k < l.length) : ((l.take (k + 1)).map f).flatten = ((l.take k).map f).flatten ++ f l[k] := by
  rw [List.take_succ_eq_append_getElem h, List.map_append, List.flatten_append]; simp only [List.map_cons, List.map_nil, List.flatten_cons, List.flatten_nil, List.append_nil]
set_option maxRecDepth 100000 in
set_option maxHeartbeats 4000000 in
theorem relEncode_any (S : Nat → Prop) (w : World) (t : WitM) (ia oa : Option Addr) (ic oc : Nat) (h : WtIn S w t ia oa ic oc) (he : encB t = true) :
    Calls Tryz.prog 70 #[.agg (witC t ia ic oa oc)] w (EncTo t w) := by
  obtain ⟨f1, f2, -, f4, f5⟩ := encB_facts he
  have g1 := (sliceR.lens h.ins).2
  have g2 := (sliceR.lens h.outs).2
  unfold maxLen at g1 g2
  have hb0 := bnew (Below.refl w.heap.size w) (.cells (witC t ia ic oa oc) 48)
  have HX := Lib.hid (box_new w (.cells (witC t ia ic oa oc) 48))
  have H := Lib.hid (h.keepB hb0)
  have HB := Lib.hid hb0
  have HF4 := Lib.hid f4
  have HE := Lib.hid he
  have HWS : Hid (witS t = digs 4 t.ins.length ++ ((t.ins.map spentS).flatten ++ (digs 4 t.outs.length ++ ((t.outs.map noteS).flatten ++ digs 8 t.secret)))) := rfl
  clear hb0 h he f4 f5
  go_enter Tryz.func70, Tryz.ntmps70
  go_upto_region 1 with (fail)
  generalize w.alloc (.cells (witC t ia ic oa oc) 48) = W at *
  obtain ⟨x0, x1⟩ := box_cells HX.out
  go_wp2_with fail
  refine (encodable_yes S W t ia oa ic oc H.out HE.out).mono ?_
  rintro e v0 ⟨rfl, hv0⟩
  clear x0 x1
  obtain ⟨x0, x1⟩ := box_cells (box_after hv0 HX.out)
  go_wp2_with fail
  refine (IntF (fun _ => True) 0 v0 none 0 [] sliceR.nil (Nat.le_refl _) (by omega) t.ins.length (by omega)).mono ?_
  rintro e v1 ⟨y0, a0, c0, Ey0, l0, rfl, h0, hv1⟩
  have HV1 := Lib.hid (bnext hv0 hv1)
  have HH0 : Hid (bytesR.rel (fun k => w.heap.size ≤ k) v1 [.slice a0 y0.length c0] y0) := bytesR.mono h0 fun k _ (hk : v0.heap.size ≤ k) => Nat.le_trans (bnext HB.out hv0).size hk
  have HY0 : Hid (y0 = digs 4 t.ins.length) := by show _ = _; rw [Ey0.out]; rfl
  clear x0 x1 hv0 hv1 Ey0
  obtain ⟨x0, x1⟩ := box_cells (box_after HV1.out HX.out)
  go_wp2_with fail
  go_loopw [4, 20] (fun vb vi wr => ∃ (k : Nat) (ys : List Int) (a : Option Addr) (c : Nat), k ≤ t.ins.length ∧ vi = .int .i64 k ∧ vb = .slice a ys.length c ∧ Hid (ys = digs 4 t.ins.length ++ ((t.ins.take k).map spentS).flatten) ∧ ys.length ≤ 4 + 152 * k ∧ bytesR.rel (fun k => w.heap.size ≤ k) wr [.slice a ys.length c] ys ∧ Below W.heap.size W wr) (fun _ vi _ => t.ins.length - (intOf vi).toNat)
  case atStart => exact ⟨0, y0, a0, c0, Nat.zero_le _, rfl, rfl, by show _ = _; rw [HY0.out]; simp, by omega, HH0.out, HV1.out⟩
  case round =>
    obtain ⟨k, ys, a, c, hk, rfl, rfl, hye, hyl, hys, hbr⟩ := hrel
    clear x0 x1
    obtain ⟨x0, x1⟩ := box_cells (box_after hbr HX.out)
    by_cases hlt : k < t.ins.length
    · obtain ⟨b, off, pa, pc, rfl, hbl, hok, hpa, c0', c1', c2', c3', c4', c5', c6', c7', c8'⟩ := spents_at (spentsR.keepB H.out.ins hbr) k hlt
      have hsf := spendable_facts (List.all_eq_true.1 HF4.out t.ins[k] (List.getElem_mem hlt))
      have HT := Lib.hid (flat_snoc spentS t.ins k hlt)
      have HSE : Hid (∀ i : SpentM, spentS i = noteS i.note ++ (digs 8 i.key ++ (digs 4 i.number ++ (digs 4 i.position ++ (listS i.path ++ digs 4 (dumN i.dummy)))))) := fun _ => rfl
      obtain ⟨i, hi⟩ : ∃ x, t.ins[k] = x := ⟨_, rfl⟩
      rw [hi] at hok hpa c0' c1' c2' c3' c4' c5' c6' c7' c8' hsf HT
      obtain ⟨-, n0, n1, p0, p1, pl⟩ := hsf
      obtain ⟨nn, hnn⟩ : ∃ nn : Nat, i.number = nn := ⟨i.number.toNat, by omega⟩
      obtain ⟨pp, hpp⟩ : ∃ pp : Nat, i.position = pp := ⟨i.position.toNat, by omega⟩
      have HNN : Hid (i.number = nn) := hnn
      have HPP : Hid (i.position = pp) := hpp
      have HN4 : Hid (nn ≤ 4) := by show _ ≤ _; omega
      have HP4 : Hid (pp ≤ 4095) := by show _ ≤ _; omega
      have HPL : Hid (i.path.length ≤ 12) := pl
      have hbn := bnew (Below.refl wr.heap.size wr) (.cells #[.int .u64 i.note.value, .int .u64 i.note.owner, .int .u64 i.note.rho, .int .u64 i.note.blind, .int .u64 i.key, .int .i64 i.number, .int .i64 i.position, .slice pa i.path.length pc, .bool i.dummy] 58)
      have HIN := Lib.hid (box_new wr (.cells #[.int .u64 i.note.value, .int .u64 i.note.owner, .int .u64 i.note.rho, .int .u64 i.note.blind, .int .u64 i.key, .int .i64 i.number, .int .i64 i.position, .slice pa i.path.length pc, .bool i.dummy] 58))
      have HPA := Lib.hid (numsR.keepB hpa hbn)
      have HYS := Lib.hid (bytesR.keepB hys hbn)
      have HBN := Lib.hid (bnext hbr hbn)
      have HOK := Lib.hid hok
      clear hi hok hpa hbn hnn hpp n0 n1 p0 p1 pl hys
      go_upto_region 7 with (fail)
      generalize wr.alloc (.cells #[.int .u64 i.note.value, .int .u64 i.note.owner, .int .u64 i.note.rho, .int .u64 i.note.blind, .int .u64 i.key, .int .i64 i.number, .int .i64 i.position, .slice pa i.path.length pc, .bool i.dummy] 58) = wn at *
      clear c0' c1' c2' c3' c4' c5' c6' c7' c8' x0 x1
      obtain ⟨x0, x1⟩ := box_cells HIN.out
      go_wp2_with fail
      refine (appendNote_any _ (4 + 152 * k) wn a c ys HYS.out hyl (by omega) i.note HOK.out.note).mono ?_
      rintro e w1 ⟨y1, a1, c1, Ey1, l1, rfl, h1, hb1⟩
      clear x0 x1
      obtain ⟨x0, x1⟩ := box_cells (box_after hb1 HIN.out)
      go_wp2_with fail
      refine (UintF _ (4 + 152 * k + 32) w1 a1 c1 y1 h1 l1 (by omega) i.key HOK.out.key).mono ?_
      rintro e w2 ⟨y2, a2, c2, Ey2, l2, rfl, h2, hb2⟩
      have hk2 := bnext hb1 hb2
      clear x0 x1
      obtain ⟨x0, x1⟩ := box_cells (box_after hk2 HIN.out)
      go_wp2_with fail
      rw [HNN.out]
      refine (IntF _ (4 + 152 * k + 40) w2 a2 c2 y2 h2 (by omega) (by omega) nn (by have := HN4.out; omega)).mono ?_
      rintro e w3 ⟨y3, a3, c3, Ey3, l3, rfl, h3, hb3⟩
      have hk3 := bnext hk2 hb3
      clear x0 x1
      obtain ⟨x0, x1⟩ := box_cells (box_after hk3 HIN.out)
      go_wp2_with fail
      rw [HPP.out]
      refine (IntF _ (4 + 152 * k + 44) w3 a3 c3 y3 h3 (by omega) (by omega) pp (by have := HP4.out; omega)).mono ?_
      rintro e w4 ⟨y4, a4, c4, Ey4, l4, rfl, h4, hb4⟩
      have hk4 := bnext hk3 hb4
      clear x0 x1
      obtain ⟨x0, x1⟩ := box_cells (box_after hk4 HIN.out)
      go_wp2_with fail
      refine (ListF _ (4 + 152 * k + 48) 12 S w4 a4 c4 y4 h4 (by omega) (by omega) pa pc i.path (numsR.keepB HPA.out hk4) HPL.out (by omega)).mono ?_
      rintro e w5 ⟨y5, a5, c5, Ey5, l5, rfl, h5, hb5⟩
      have hk5 := bnext hk4 hb5
      clear x0 x1
      obtain ⟨x0, x1⟩ := box_cells (box_after hk5 HIN.out)
      have hnn := HNN.out
      have hpp := HPP.out
      cases hd : i.dummy with
      | false =>
        rw [hd] at x0
        clear hnn hpp
        go_wp2_with fail
        refine (IntF _ (4 + 152 * k + 148) w5 a5 c5 y5 h5 (by omega) (by omega) 0 (by omega)).mono ?_
        rintro e w6 ⟨y6, a6, c6, Ey6, l6, rfl, h6, hb6⟩
        have HYE : Hid (y6 = digs 4 t.ins.length ++ ((t.ins.take (k + 1)).map spentS).flatten) := by
          show _ = _
          rw [Ey6.out, Ey5.out, Ey4.out, Ey3.out, Ey2.out, Ey1.out, hye.out, HT.out, HSE.out, hd, HNN.out, HPP.out]
          simp [dumN]
        go_wp2_with fail
        go_roundw
        case rel => exact ⟨k + 1, y6, a6, c6, by omega, by go_num, rfl, HYE, by omega, bytesR.mono h6 fun j _ (hj : w5.heap.size ≤ j) => Nat.le_trans (bnext HB.out (bnext HBN.out hk5)).size hj, bnext HBN.out (bnext hk5 hb6)⟩
        case measure => simp [intOf]; omega
      | true =>
        rw [hd] at x0
        clear hnn hpp
        go_wp2_with fail
        refine (IntF _ (4 + 152 * k + 148) w5 a5 c5 y5 h5 (by omega) (by omega) 1 (by omega)).mono ?_
        rintro e w6 ⟨y6, a6, c6, Ey6, l6, rfl, h6, hb6⟩
        have HYE : Hid (y6 = digs 4 t.ins.length ++ ((t.ins.take (k + 1)).map spentS).flatten) := by
          show _ = _
          rw [Ey6.out, Ey5.out, Ey4.out, Ey3.out, Ey2.out, Ey1.out, hye.out, HT.out, HSE.out, hd, HNN.out, HPP.out]
          simp [dumN]
        go_wp2_with fail
        go_roundw
        case rel => exact ⟨k + 1, y6, a6, c6, by omega, by go_num, rfl, HYE, by omega, bytesR.mono h6 fun j _ (hj : w5.heap.size ≤ j) => Nat.le_trans (bnext HB.out (bnext HBN.out hk5)).size hj, bnext HBN.out (bnext hk5 hb6)⟩
        case measure => simp [intOf]; omega
    · obtain rfl : k = t.ins.length := by omega
      have HYI : Hid (ys = digs 4 t.ins.length ++ (t.ins.map spentS).flatten) := by show _ = _; rw [hye.out, List.take_length]
      clear hye
      go_wp2_with fail
      refine (IntF _ 612 wr a c ys hys (by omega) (by omega) t.outs.length (by omega)).mono ?_
      rintro e v2 ⟨z0, b0, d0, Ez0, m0, rfl, g0, hv2⟩
      have HV2 := Lib.hid (bnext hbr hv2)
      have HG0 : Hid (bytesR.rel (fun k => w.heap.size ≤ k) v2 [.slice b0 z0.length d0] z0) := bytesR.mono g0 fun j _ (hj : wr.heap.size ≤ j) => Nat.le_trans (bnext HB.out hbr).size hj
      clear x0 x1 hv2
      obtain ⟨x0, x1⟩ := box_cells (box_after HV2.out HX.out)
      go_wp2_with fail
      go_loopw [4, 58] (fun vb vi wr => ∃ (k : Nat) (zs : List Int) (a : Option Addr) (c : Nat), k ≤ t.outs.length ∧ vi = .int .i64 k ∧ vb = .slice a zs.length c ∧ Hid (zs = z0 ++ ((t.outs.take k).map noteS).flatten) ∧ zs.length ≤ 616 + 32 * k ∧ bytesR.rel (fun k => w.heap.size ≤ k) wr [.slice a zs.length c] zs ∧ Below W.heap.size W wr) (fun _ vi _ => t.outs.length - (intOf vi).toNat)
      case atStart => exact ⟨0, z0, b0, d0, Nat.zero_le _, rfl, rfl, by show _ = _; simp, by omega, HG0.out, HV2.out⟩
      case round =>
        clear hbr hys
        obtain ⟨k, zs, a2, c2, hk2, rfl, rfl, hze, hzl, hzs, hbr⟩ := hrel
        clear x0 x1
        obtain ⟨x0, x1⟩ := box_cells (box_after hbr HX.out)
        by_cases hlt2 : k < t.outs.length
        · obtain ⟨b, off, rfl, hbl, hok, c0', c1', c2', c3'⟩ := notes_at (notesR.keepB H.out.outs hbr) k hlt2
          have HT := Lib.hid (flat_snoc noteS t.outs k hlt2)
          obtain ⟨n, hn⟩ : ∃ x, t.outs[k] = x := ⟨_, rfl⟩
          rw [hn] at hok c0' c1' c2' c3' HT
          have hbn := bnew (Below.refl wr.heap.size wr) (.cells #[.int .u64 n.value, .int .u64 n.owner, .int .u64 n.rho, .int .u64 n.blind] 56)
          have HZS := Lib.hid (bytesR.keepB hzs hbn)
          have HBN := Lib.hid (bnext hbr hbn)
          have HOK := Lib.hid hok
          clear hn hok hbn hzs
          go_wp2_with fail
          refine (appendNote_any _ (616 + 32 * k) _ a2 c2 zs HZS.out hzl (by omega) n HOK.out).mono ?_
          rintro e w1 ⟨y1, a1, c1, Ey1, l1, rfl, h1, hb1⟩
          have HYE : Hid (y1 = z0 ++ ((t.outs.take (k + 1)).map noteS).flatten) := by show _ = _; rw [Ey1.out, hze.out, HT.out, List.append_assoc]
          go_wp2_with fail
          go_roundw
          case rel => exact ⟨k + 1, y1, a1, c1, by omega, by go_num, rfl, HYE, by omega, bytesR.mono h1 fun j _ hj => Nat.le_trans (bnext HB.out HBN.out).size hj, bnext HBN.out hb1⟩
          case measure => simp [intOf]; omega
        · obtain rfl : k = t.outs.length := by omega
          go_wp2_with fail
          refine (UintF _ 744 wr a2 c2 zs hzs (by omega) (by omega) t.secret H.out.secret).mono ?_
          rintro e w5 ⟨y5, a5, c5, Ey5, l5, rfl, h5, hb5⟩
          have HFE : Hid (y5 = witS t) := by
            show _ = _
            rw [Ey5.out, hze.out, Ez0.out, HYI.out, HWS.out, List.take_length]
            simp only [List.append_assoc]
          go_wp2_with fail
          go_ret2
          exact ⟨y5, a5, c5, HFE, by omega, rfl, bytesR.mono h5 fun j _ (hj : wr.heap.size ≤ j) => Nat.le_trans (bnext HB.out hbr).size hj, bnext HB.out (bnext hbr hb5)⟩
end Go.Proofs.YtdjcdejapkkcmaaGreatDoor
