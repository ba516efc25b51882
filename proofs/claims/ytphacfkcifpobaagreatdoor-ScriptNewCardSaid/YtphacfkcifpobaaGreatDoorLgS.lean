/- The ledger of the program: set. -/
import Derived.Test.YtphacfkcifpobaaGreatDoorLgZ
import Derived.Test.YtphacfkcifpobaaGreatDoorM08
set_option maxRecDepth 100000
namespace Go.Proofs.YtphacfkcifpobaaGreatDoor
open Go.ChangeShapes Go.WideShapes Go.ChangeAt Go.RowKit Go.Sort
theorem cloneA_len (S : Nat → Prop) (w : World) (a : Option Addr) (cap len : Nat) (l : List AcM) (hlen : l.length = len) (h : accsR.rel S w [.slice a len cap] l) (hl : l.length ≤ 1000000) :
   Calls Tryz.prog 145 #[.slice a len cap] w fun e w' => ∃ v, e = .returned v ∧ Own acR w.heap.size 244 (fun x => False ∨ w.heap.size ≤ x) w' v l ∧ Below w.heap.size w w' := by
 subst hlen; exact cloneA_any S w a cap l h hl
theorem dropA {S : Nat → Prop} {w : World} {ad : Addr} {cap : Nat} {l : List AcM} (h : accsR.rel S w [.slice (some ad) l.length cap] l) (q : Nat) (hq : q ≤ l.length) : accsR.rel S w [.slice (some (ad.add (q * 3))) (l.length - q) (cap - q)] (l.drop q) := by
 have hc := sliceR.lens h
 rcases Nat.lt_or_ge q l.length with hlt | hge
 · obtain ⟨b, off, e, -⟩ := acs_at h q hlt
   obtain rfl := Option.some.inj e; have h2 := sliceR.dropN h q hq; rw [acR.n] at h2; rw [Addr.add_lit]
   exact h2
 · have e : l.length - q = 0 := by omega
   rw [e, List.drop_of_length_le hge]
   exact ⟨_, 0, cap - q, rfl, rfl, Nat.zero_le _, by have := hc.2.2.1; omega, fun h => by simp at h, fun i x h => by simp at h⟩
def setL (l : List AcM) (x : AcM) : List AcM := l.take (posL l x.id) ++ (if x.bal ≠ 0 ∨ x.nonce ≠ 0 then [x] else []) ++ l.drop (if foundL l x.id = true then posL l x.id + 1 else posL l x.id)
set_option maxHeartbeats 2000000 in
theorem lset_any (S : Nat → Prop) (w : World) (a : Option Addr) (cap : Nat) (l : List AcM) (h : accsR.rel S w [.slice a l.length cap] l) (hl : l.length ≤ 100000) (hup : upL l) (x : AcM) (hx : AcOk x) :
   Calls Tryz.prog 289 #[.agg #[.slice a l.length cap], .agg #[.int .u64 x.id, .int .u64 x.bal, .int .u64 x.nonce]] w fun e w' => ∃ (a' : Option Addr) (c' : Nat), e = .returned (.agg #[.slice a' (setL l x).length c']) ∧ accsR.rel (fun k => w.heap.size ≤ k) w' [.slice a' (setL l x).length c'] (setL l x) ∧ Below w.heap.size w w' := by
 have hbA := bnew (bnew (bnew (Below.refl w.heap.size w) (.cells #[.slice a l.length cap] 155)) (.cells #[.int .u64 x.id, .int .u64 x.bal, .int .u64 x.nonce] 244)) (.cells #[.slice none 0 0] 155); obtain ⟨t1, t2, t3⟩ := three_new w (.cells #[.slice a l.length cap] 155) (.cells #[.int .u64 x.id, .int .u64 x.bal, .int .u64 x.nonce] 244) (.cells #[.slice none 0 0] 155); have HR : Hid (((((w.alloc (.cells #[.slice a l.length cap] 155)).alloc (.cells #[.int .u64 x.id, .int .u64 x.bal, .int .u64 x.nonce] 244)).alloc (.cells #[.slice none 0 0] 155)).heap[w.heap.size + 1 + 1]? = some (.cells #[.slice none 0 0] 155 (0, 0)))) := t1; have HXA := Lib.hid t2; have HX := Lib.hid t3; have H := Lib.hid ((accsR).keepB h hbA); have HB := Lib.hid hbA; have HOX := Lib.hid hx
 have HSZ : Hid ((((w.alloc (.cells #[.slice a l.length cap] 155)).alloc (.cells #[.int .u64 x.id, .int .u64 x.bal, .int .u64 x.nonce] 244)).alloc (.cells #[.slice none 0 0] 155)).heap.size = w.heap.size + 3) := by show _ = _; rw [World.size_alloc, World.size_alloc, World.size_alloc]
 clear hbA h hx t1 t2 t3
 go_enter Tryz.func289, Tryz.ntmps289
 go_upto_region 1 with (fail)
 generalize (((w.alloc (.cells #[.slice a l.length cap] 155)).alloc (.cells #[.int .u64 x.id, .int .u64 x.bal, .int .u64 x.nonce] 244)).alloc (.cells #[.slice none 0 0] 155)) = W at *; obtain ⟨x0, x1⟩ := box_cells HX.out; obtain ⟨y0, y1⟩ := box_cells HXA.out; go_wp2_with fail
 refine (lfind_any S W a cap l H.out (by omega) hup x.id).mono ?_
 rintro e w1 ⟨rfl, hb1⟩; have hp := posL_le l x.id
 have HP : Hid ((l.take (posL l x.id)).length = posL l x.id) := by show _ = _; rw [List.length_take]; omega
 have hcap := (sliceR.lens H.out).2.1; have HS : Hid (setL l x = l.take (posL l x.id) ++ (if x.bal ≠ 0 ∨ x.nonce ≠ 0 then [x] else []) ++ l.drop (if foundL l x.id = true then posL l x.id + 1 else posL l x.id)) := rfl; have HFL : Hid (foundL l x.id = true → posL l x.id < l.length) := found_lt; generalize posL l x.id = p at *; generalize foundL l x.id = fd at *; clear x0 x1 y0 y1; obtain ⟨x0, x1⟩ := box_cells (box_after hb1 HX.out); go_wp2_with fail
 refine (cloneA_len S w1 a cap p (l.take p) HP.out (sliceR.takeN ((accsR).keepB H.out hb1) p hp) (by have := HP.out; omega)).mono ?_
 rintro e w2 ⟨v2, rfl, ho2, hb2⟩; have HO2 := Lib.hid ho2; have HB1 := Lib.hid hb1; have HB2 := Lib.hid hb2; clear ho2 hb2 x0 x1; have HXA2 := Lib.hid (box_after HB2.out (box_after hb1 HXA.out)); have HBW := Lib.hid (bnext hb1 HB2.out); clear hb1; obtain ⟨y0, y1⟩ := box_cells HXA2.out; obtain ⟨L0, hL0⟩ : ∃ L, l.take p = L := ⟨_, rfl⟩; rw [hL0] at HO2 HS HP
 have HLL : Hid (L0.length ≤ 100000) := by show _ ≤ _; have := HP.out; omega
 clear hL0
 rcases (show (x.bal = 0 ∧ x.nonce = 0) ∨ (x.bal = 0 ∧ x.nonce ≠ 0) ∨ x.bal ≠ 0 by omega) with ⟨h1, h2⟩ | ⟨h1, h2⟩ | h1
 rotate_left
 have z1 : (x.bal != 0) = false := by rw [bne_eq_false_iff_eq]; exact h1
 have z2 : (x.nonce != 0) = true := by rw [bne_iff_ne]; exact h2
 rw [if_pos (.inr h2)] at HS; clear h1 h2
 rotate_left
 have z1 : (x.bal != 0) = true := by rw [bne_iff_ne]; exact h1
 rw [if_pos (.inl h1)] at HS; clear h1
 rotate_right
 iterate 2
   focus
     have HY : Hid (acR.rel (fun _ => False) w2 [.int .u64 x.id, .int .u64 x.bal, .int .u64 x.nonce] x) := acR.mk HOX.out
     go_wp2_with (at_builtin; go_loud (refine wpList_push (r := acR) (v := v2) (wr := w2) (es := [.int .u64 x.id, .int .u64 x.bal, .int .u64 x.nonce]) (w0 := w1) (B := w1.heap.size) rfl _ _ rfl Tryz.etyAcc rfl rfl HB2.out HB2.out.size HO2.out HY.out (fun x hx => hx.elim) (by unfold maxLen; have := HLL.out; omega) (by have := HLL.out; omega) ?_))
     intro vk wk hok hbk
     have HOK : Hid (Own acR w1.heap.size 244 (fun x => False ∨ w1.heap.size ≤ x) wk vk (L0 ++ [x])) := Own.mono hok fun x _ h => by first | exact h | exact .inr h
     have HBK := Lib.hid hbk; have HBWK := Lib.hid (bnext HB1.out hbk)
     have HLK : Hid ((L0 ++ [x]).length ≤ 100001) := by show _ ≤ _; have := HLL.out; rw [List.length_append]; simp; omega
     obtain ⟨L1, hL1⟩ : ∃ L, L0 ++ [x] = L := ⟨_, rfl⟩; rw [hL1] at HOK HS HLK; clear hL1 hok hbk y0 y1; obtain ⟨y0, y1⟩ := box_cells (box_after HBWK.out HXA.out)
   rotate_left
 have z1 : (x.bal != 0) = false := by rw [bne_eq_false_iff_eq]; exact h1
 have z2 : (x.nonce != 0) = false := by rw [bne_eq_false_iff_eq]; exact h2
 rw [if_neg (by rintro (h | h); exact h h1; exact h h2), List.append_nil] at HS
 clear h1 h2; have HOK := HO2; have HBK := HB2; have HBWK := HBW; have HLK : Hid (L0.length ≤ 100001) := Nat.le_succ_of_le HLL.out; obtain ⟨vk, hvk⟩ : ∃ v, v = v2 := ⟨v2, rfl⟩; subst hvk; obtain ⟨wk, hwk⟩ : ∃ v, v = w2 := ⟨w2, rfl⟩; subst hwk; obtain ⟨L1, hL1⟩ : ∃ v, v = L0 := ⟨L0, rfl⟩; subst hL1
 all_goals
   obtain ⟨x0, x1⟩ := box_cells (box_after HBWK.out HX.out); have HSK := HS; clear HS
   cases fd
   have HS3 : Hid (setL l x = L1 ++ l.drop p) := by show _ = _; rw [HSK.out, if_neg (by simp)]
   focus
     clear HSK
     rcases a with _ | ad
     focus
       obtain rfl := (sliceR.lens H.out).2.2.2 rfl
       obtain rfl := List.eq_nil_of_length_eq_zero (by omega : l.length = 0)
       obtain rfl : p = 0 := by simpa using hp
       have DRR : Hid (accsR.rel S wk [.slice none 0 0] []) := sliceR.nil
       go_wp2_with (at_builtin; go_loud (refine wpList_catP (S := S) (B := w1.heap.size) (w0 := w1) (v := vk) (u := .slice none 0 0) (xs := L1) (ys := []) rfl _ _ rfl plainAc Tryz.etyAcc rfl rfl HBK.out HBK.out.size HOK.out DRR.out (by unfold maxLen; have := HLK.out; simp; omega) (by have := HLK.out; simp; omega) ?_))
       intro v3 w3 ho3 hb3
       have HL3 : Hid (setL [] x = L1) := by show _ = _; rw [HS3.out, List.drop_nil, List.append_nil]
       obtain ⟨L3, HOL, HO3⟩ : ∃ L, Hid (setL [] x = L) ∧ Hid (Own acR w1.heap.size 244 (fun k => w1.heap.size ≤ k) w3 v3 L) := ⟨L1, HL3, Own.mono ho3 fun k _ h => by first | exact h | (rcases h with h | h; exact h.elim; exact h)⟩
     rotate_left
     by_cases hq : p = cap
     focus
       have hlc : l.length = cap := by omega
       have HL3 : Hid (setL l x = L1) := by show _ = _; rw [HS3.out, List.drop_of_length_le (by omega), List.append_nil]
       have DRR : Hid (accsR.rel S wk [.slice (some ad) 0 0] []) := ⟨some ad, 0, 0, rfl, rfl, Nat.le_refl _, by unfold maxLen; omega, fun h => by simp at h, fun i x h => by simp at h⟩
       go_wp2_with (at_builtin; go_loud (refine wpList_catP (S := S) (B := w1.heap.size) (w0 := w1) (v := vk) (u := .slice (some ad) 0 0) (xs := L1) (ys := []) rfl _ _ rfl plainAc Tryz.etyAcc rfl rfl HBK.out HBK.out.size HOK.out DRR.out (by unfold maxLen; have := HLK.out; simp; omega) (by have := HLK.out; simp; omega) ?_))
       intro v3 w3 ho3 hb3
       obtain ⟨L3, HOL, HO3⟩ : ∃ L, Hid (setL l x = L) ∧ Hid (Own acR w1.heap.size 244 (fun k => w1.heap.size ≤ k) w3 v3 L) := ⟨L1, HL3, Own.mono ho3 fun k _ h => by first | exact h | (rcases h with h | h; exact h.elim; exact h)⟩
     rotate_left
     focus
       have DRR := Lib.hid (dropA ((accsR).keepB H.out HBWK.out) (p) (by omega))
       have hdl : (l.drop (p)).length = l.length - (p) := List.length_drop ..
       go_wp2_with (at_builtin; go_loud (refine wpList_catP (S := S) (B := w1.heap.size) (w0 := w1) (v := vk) (u := .slice (some (ad.add ((p) * 3))) (l.length - (p)) (cap - (p))) (xs := L1) (ys := l.drop (p)) rfl _ _ rfl plainAc Tryz.etyAcc rfl rfl HBK.out HBK.out.size HOK.out DRR.out (by unfold maxLen; have := HLK.out; simp; omega) (by have := HLK.out; simp; omega) ?_))
       intro v3 w3 ho3 hb3
       have HL3 := HS3
       obtain ⟨L3, HOL, HO3⟩ : ∃ L, Hid (setL l x = L) ∧ Hid (Own acR w1.heap.size 244 (fun k => w1.heap.size ≤ k) w3 v3 L) := ⟨L1 ++ l.drop (p), HL3, Own.mono ho3 fun k _ h => by first | exact h | (rcases h with h | h; exact h.elim; exact h)⟩
   rotate_right
   have HS3 : Hid (setL l x = L1 ++ l.drop (p + 1)) := by show _ = _; rw [HSK.out, if_pos rfl]
   have hpl := HFL.out rfl
   have hwp : wrap64 ((p : Int) + 1) = ((p + 1 : Nat) : Int) := by unfold wrap64; omega
   focus
     clear HSK
     rcases a with _ | ad
     exact absurd hpl (by have := (sliceR.lens H.out).2.2.2 rfl; omega)
     by_cases hq : p + 1 = cap
     focus
       have hlc : l.length = cap := by omega
       have HL3 : Hid (setL l x = L1) := by show _ = _; rw [HS3.out, List.drop_of_length_le (by omega), List.append_nil]
       have DRR : Hid (accsR.rel S wk [.slice (some ad) 0 0] []) := ⟨some ad, 0, 0, rfl, rfl, Nat.le_refl _, by unfold maxLen; omega, fun h => by simp at h, fun i x h => by simp at h⟩
       go_wp2_with (at_builtin; go_loud (refine wpList_catP (S := S) (B := w1.heap.size) (w0 := w1) (v := vk) (u := .slice (some ad) 0 0) (xs := L1) (ys := []) rfl _ _ rfl plainAc Tryz.etyAcc rfl rfl HBK.out HBK.out.size HOK.out DRR.out (by unfold maxLen; have := HLK.out; simp; omega) (by have := HLK.out; simp; omega) ?_))
       intro v3 w3 ho3 hb3
       obtain ⟨L3, HOL, HO3⟩ : ∃ L, Hid (setL l x = L) ∧ Hid (Own acR w1.heap.size 244 (fun k => w1.heap.size ≤ k) w3 v3 L) := ⟨L1, HL3, Own.mono ho3 fun k _ h => by first | exact h | (rcases h with h | h; exact h.elim; exact h)⟩
     rotate_left
     focus
       have DRR := Lib.hid (dropA ((accsR).keepB H.out HBWK.out) (p + 1) (by omega))
       have hdl : (l.drop (p + 1)).length = l.length - (p + 1) := List.length_drop ..
       go_wp2_with (at_builtin; go_loud (refine wpList_catP (S := S) (B := w1.heap.size) (w0 := w1) (v := vk) (u := .slice (some (ad.add ((p + 1) * 3))) (l.length - (p + 1)) (cap - (p + 1))) (xs := L1) (ys := l.drop (p + 1)) rfl _ _ rfl plainAc Tryz.etyAcc rfl rfl HBK.out HBK.out.size HOK.out DRR.out (by unfold maxLen; have := HLK.out; simp; omega) (by have := HLK.out; simp; omega) ?_))
       intro v3 w3 ho3 hb3
       have HL3 := HS3
       obtain ⟨L3, HOL, HO3⟩ : ∃ L, Hid (setL l x = L) ∧ Hid (Own acR w1.heap.size 244 (fun k => w1.heap.size ≤ k) w3 v3 L) := ⟨L1 ++ l.drop (p + 1), HL3, Own.mono ho3 fun k _ h => by first | exact h | (rcases h with h | h; exact h.elim; exact h)⟩
 all_goals
   obtain ⟨va, vc, rfl, -, -⟩ := sliceR.form HO3.out.slice; have HB3 := Lib.hid (bnext HB.out (bnext HB1.out hb3)); have HR3 := Lib.hid (box_after hb3 (box_after HB1.out HR.out))
   have HW1 : Hid (w.heap.size + 3 ≤ w1.heap.size) := by show _ ≤ _; have := HB1.out.size; have := HSZ.out; omega
   clear ho3 hb3; obtain ⟨r0, r1⟩ := box_cells HR3.out; clear x0 x1 y0 y1; have hR := cells_box (old := [.slice none 0 0]) HR3.out [.slice va L3.length vc] rfl
   have hK := kept_cells w3 (q := w.heap.size + 1 + 1) (S := fun k => k ≠ w.heap.size + 1 + 1) (fun h => h rfl) [.slice va L3.length vc] 0
   obtain ⟨wf, hwf⟩ : ∃ wf, wf = w3.setCells (w.heap.size + 1 + 1) 0 [.slice va L3.length vc] := ⟨_, rfl⟩; rw [← hwf] at hR hK
   simp only [World.setCells] at hwf
   have HW := Lib.hid hwf; have HRF := Lib.hid hR; have HK := Lib.hid hK; clear hwf hR hK; go_wp2_with fail; rw [← HW.out]; obtain ⟨g0, -⟩ := box_cells HRF.out
   refine bodyPost_ret (v := .agg #[.slice va L3.length vc]) (by simp [results, Tryz.results289, go_sem, g0]) rfl ?_
   rw [HOL.out]
   refine ⟨va, vc, rfl, ?_, ?_⟩
   · have h1 := (accsR).keep HO3.out.slice (HK.out.mono fun k _ h => by have h' : w1.heap.size ≤ k := h; have := HW1.out; show k ≠ _; omega)
     exact (accsR).mono h1 fun k _ h => by have h' : w1.heap.size ≤ k := h; have := HW1.out; show _ ≤ _; omega
   · have h0 : Kept (fun i => i < w.heap.size) w w3 := Kept.of_below HB3.out
     have h1 : Kept (fun i => i < w.heap.size) w wf := h0.trans HK.out fun i _ h => by have h' : i < w.heap.size := h; show i ≠ _; omega
     exact h1.below (Nat.le_refl _)
end Go.Proofs.YtphacfkcifpobaaGreatDoor
