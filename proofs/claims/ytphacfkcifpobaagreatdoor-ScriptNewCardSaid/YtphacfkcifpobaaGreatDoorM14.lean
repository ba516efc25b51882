/- Frontiers of the program: Append. -/
import Derived.Test.YtphacfkcifpobaaGreatDoorM13
import Derived.Test.YtphacfkcifpobaaGreatDoorM05
import Derived.Test.YtphacfkcifpobaaGreatDoorTxT
import Derived.Test.YtphacfkcifpobaaGreatDoorM08
set_option maxRecDepth 100000
namespace Go.Proofs.YtphacfkcifpobaaGreatDoor
open Go.ChangeShapes Go.WideShapes Go.ChangeAt Go.RowKit Go.Sort
def carryF (c : Int) : Nat → Nat → Int → List Int → List Int
 | 0, _, _, l => l
 | n + 1, lv, d, l => if bitF c lv = 1 then carryF c n (lv + 1) (nodeH (l.getD lv 0) d) (l.set lv 0) else l.set lv d
def appF (f : FrM) (leaf : Int) : FrM := ⟨f.depth, f.count + 1, carryF f.count (f.left.length) 0 leaf f.left⟩
theorem carryF_hit (c : Int) (n lv : Nat) (d : Int) (l : List Int) (h : bitF c lv = 1) : carryF c (n + 1) lv d l = carryF c n (lv + 1) (nodeH (l.getD lv 0) d) (l.set lv 0) := by
 conv => lhs; unfold carryF
 rw [if_pos h]
theorem carryF_miss (c : Int) (n lv : Nat) (d : Int) (l : List Int) (h : bitF c lv ≠ 1) : carryF c (n + 1) lv d l = l.set lv d := by
 conv => lhs; unfold carryF
 rw [if_neg h]
theorem carryF_len (c : Int) : ∀ (n lv : Nat) (d : Int) (l : List Int), (carryF c n lv d l).length = l.length
 | 0, _, _, _ => rfl
 | n + 1, lv, d, l => by
   unfold carryF
   split
   · rw [carryF_len c n, List.length_set]
   · rw [List.length_set]
theorem ones_mod (c : Nat) : ∀ n, (∀ i, i < n → c / 2 ^ i % 2 = 1) → c % 2 ^ n = 2 ^ n - 1
 | 0, _ => by simp [Nat.mod_one]
 | n + 1, h => by
   have ih := ones_mod c n fun i hi => h i (by omega)
   have h1 := h n (by omega)
   have hp : 0 < 2 ^ n := Nat.pow_pos (by omega)
   rw [Nat.mod_pow_succ, ih, h1, Nat.pow_succ]; omega
theorem ones_le (c n : Nat) (h : ∀ i, i < n → c / 2 ^ i % 2 = 1) : 2 ^ n ≤ c + 1 := by
 have h1 := ones_mod c n h; have h2 := Nat.mod_le c (2 ^ n)
 omega
theorem step_bits (c lv : Nat) (h : ∀ i, i < lv → c / 2 ^ i % 2 = 1) (h0 : c / 2 ^ lv % 2 = 0) : (c + 1) / 2 ^ lv % 2 = 1 ∧ ∀ i, lv < i → (c + 1) / 2 ^ i = c / 2 ^ i := by
 have h1 := ones_mod c lv h
 have hp : 0 < 2 ^ lv := Nat.pow_pos (by omega)
 have h2 : c % 2 ^ (lv + 1) = 2 ^ lv - 1 := by rw [Nat.mod_pow_succ, h1, h0]; omega
 have h3 := Nat.div_add_mod c (2 ^ (lv + 1)); rw [h2] at h3; obtain ⟨q, hq⟩ : ∃ q, c / 2 ^ (lv + 1) = q := ⟨_, rfl⟩; rw [hq] at h3
 have e : 2 ^ (lv + 1) * q = 2 ^ lv * (2 * q) := by rw [Nat.pow_succ, Nat.mul_assoc]
 have h4 : c + 1 = 2 ^ lv * (2 * q + 1) := by rw [Nat.mul_add, ← e]; omega
 have h5 : (c + 1) / 2 ^ (lv + 1) = q := by
   have : c + 1 = 2 ^ lv + 2 ^ (lv + 1) * q := by omega
   rw [this, Nat.add_mul_div_left _ _ (Nat.pow_pos (by omega)), Nat.div_eq_of_lt (by rw [Nat.pow_succ]; omega)]; omega
 refine ⟨by rw [h4, Nat.mul_div_cancel_left _ hp]; omega, fun i hi => ?_⟩
 obtain ⟨j, rfl⟩ : ∃ j, i = (lv + 1) + j := ⟨i - (lv + 1), by omega⟩
 rw [Nat.pow_add, ← Nat.div_div_eq_div_mul, ← Nat.div_div_eq_div_mul, h5, hq]
theorem bitF_nat (n i : Nat) (h : n / 2 ^ i < 4096) : bitF (n : Int) i = ((n / 2 ^ i % 2 : Nat) : Int) := by
 have e : (n : Int) / 2 ^ i = ((n / 2 ^ i : Nat) : Int) := by push_cast; rfl
 show bits BinOp.and IntKind.i64 ((n : Int) / 2 ^ i) 1 = _
 rw [e, bit_and _ h]
theorem carryF_spec (c D : Nat) (hc : c < 2 ^ D) (hD : D ≤ 12) : ∀ (n lv : Nat) (d : Int) (l : List Int), lv + n = D + 1 → l.length = D + 1 → (∀ i, i < lv → c / 2 ^ i % 2 = 1) → (∀ i, i < lv → l.getD i 0 = 0) → (0 ≤ d ∧ d < 18446744069414584321) →
   ∃ m, lv ≤ m ∧ m ≤ D ∧ (∀ i, i < m → c / 2 ^ i % 2 = 1) ∧ c / 2 ^ m % 2 = 0 ∧ (∀ i, i < m → (carryF c n lv d l).getD i 0 = 0) ∧ (0 ≤ (carryF c n lv d l).getD m 0 ∧ (carryF c n lv d l).getD m 0 < 18446744069414584321) ∧ ∀ i, m < i → (carryF c n lv d l).getD i 0 = l.getD i 0
 | 0, lv, d, l, h1, h2, h3, h4, h5 => by
   exfalso
   have h6 := ones_le c (D + 1) fun i hi => h3 i (by omega)
   rw [Nat.pow_succ] at h6; omega
 | n + 1, lv, d, l, h1, h2, h3, h4, h5 => by
   have hlt : c / 2 ^ lv < 4096 := by
     have h6 : c < 2 ^ 12 := Nat.lt_of_lt_of_le hc (Nat.pow_le_pow_right (by omega) hD)
     exact Nat.lt_of_le_of_lt (Nat.div_le_self _ _) h6
   have hb := bitF_nat c lv hlt; unfold carryF
   by_cases hbit : c / 2 ^ lv % 2 = 1
   · rw [if_pos (by rw [hb, hbit]; rfl)]
     have h3' : ∀ i, i < lv + 1 → c / 2 ^ i % 2 = 1 := fun i hi => by rcases Nat.lt_succ_iff_lt_or_eq.1 hi with h | rfl; exact h3 i h; exact hbit
     obtain ⟨m, m1, m2, m3, m4, m5, m6, m7⟩ := carryF_spec c D hc hD n (lv + 1) (nodeH (l.getD lv 0) d) (l.set lv 0) (by omega) (by rw [List.length_set, h2]) h3' (fun i hi => by
       rw [List.getD_eq_getElem?_getD, List.getElem?_set]
       by_cases he : lv = i
       · rw [if_pos he]; split <;> rfl
       · rw [if_neg he, ← List.getD_eq_getElem?_getD]; exact h4 i (by omega)) (nodeH_in _ _)
     refine ⟨m, by omega, m2, m3, m4, m5, m6, fun i hi => ?_⟩
     rw [m7 i hi, List.getD_eq_getElem?_getD, List.getElem?_set, if_neg (by omega), ← List.getD_eq_getElem?_getD]
   · have hz : c / 2 ^ lv % 2 = 0 := by omega
     rw [if_neg (by rw [hb, hz]; decide)]
     refine ⟨lv, Nat.le_refl _, by omega, h3, hz, fun i hi => ?_, ?_, fun i hi => ?_⟩
     · rw [List.getD_eq_getElem?_getD, List.getElem?_set, if_neg (by omega), ← List.getD_eq_getElem?_getD]; exact h4 i hi
     · rw [List.getD_eq_getElem?_getD, List.getElem?_set, if_pos rfl, if_pos (by omega)]; exact h5
     · rw [List.getD_eq_getElem?_getD, List.getElem?_set, if_neg (by omega), ← List.getD_eq_getElem?_getD]
theorem appF_ok {f : FrM} {D : Nat} (h : FrOK f D) (hc : f.count < 2 ^ D) (leaf : Int) (hl : 0 ≤ leaf ∧ leaf < 18446744069414584321) : FrOK (appF f leaf) D := by
 obtain ⟨d0, d1, hd, c0, c1, hlen, hbits⟩ := h; obtain ⟨dp, ct, lf⟩ := f
 simp only at hd c0 c1 hlen hbits hc
 obtain ⟨c, rfl⟩ := Int.eq_ofNat_of_zero_le c0
 have hcn : c < 2 ^ D := by exact_mod_cast hc
 have hp12 : 2 ^ D ≤ 2 ^ 12 := Nat.pow_le_pow_right (by omega) d1
 obtain ⟨m, m1, m2, m3, m4, m5, m6, m7⟩ := carryF_spec c D hcn d1 (D + 1) 0 leaf lf (by omega) hlen (fun i hi => by omega) (fun i hi => by omega) hl
 obtain ⟨s1, s2⟩ := step_bits c m m3 m4; rw [← hlen] at m5 m6 m7
 refine ⟨d0, d1, hd, ?_, ?_, ?_, ?_⟩
 · show (0 : Int) ≤ c + 1; omega
 · show ((c : Int) + 1) ≤ 2 ^ D; omega
 · show (carryF _ _ _ _ _).length = _; rw [carryF_len, hlen]
 · intro i hi
   have hi' : i < lf.length := by have : i < (carryF c lf.length 0 leaf lf).length := hi; rwa [carryF_len] at this
   have hg : (appF ⟨dp, c, lf⟩ leaf).left[i] = (carryF c lf.length 0 leaf lf).getD i 0 := by
     rw [List.getD_eq_getElem?_getD, List.getElem?_eq_getElem (show i < (carryF (c : Int) lf.length 0 leaf lf).length from hi)]; rfl
   rw [hg]
   have hcast : (appF ⟨dp, (c : Int), lf⟩ leaf).count = ((c + 1 : Nat) : Int) := by show (c : Int) + 1 = _; push_cast; rfl
   rw [hcast]
   rcases Nat.lt_trichotomy i m with h | rfl | h
   · rw [m5 i h]; exact ⟨by omega, by omega, fun _ => rfl⟩
   · refine ⟨m6.1, m6.2, fun hz => ?_⟩
     exfalso
     have hlt : (c + 1) / 2 ^ i < 4096 := by
       rcases Nat.eq_zero_or_pos i with rfl | hp
       · have e0 : c / 2 ^ 0 = c := by simp
         rw [e0] at m4
         have : (c + 1) / 2 ^ 0 = c + 1 := by simp
         rw [this]
         have : 2 ^ D % 2 = 0 := by obtain ⟨k, rfl⟩ : ∃ k, D = k + 1 := ⟨D - 1, by omega⟩; rw [Nat.pow_succ]; omega
         omega
       · have h2 : 2 ^ 1 ≤ 2 ^ i := Nat.pow_le_pow_right (by omega) hp
         exact Nat.div_lt_of_lt_mul (by omega)
     rw [bitF_nat _ _ hlt, s1] at hz
     omega
   · rw [m7 i h]
     have hb := hbits i hi'
     have hg2 : lf.getD i 0 = lf[i] := by rw [List.getD_eq_getElem?_getD, List.getElem?_eq_getElem hi']; rfl
     rw [hg2]
     refine ⟨hb.1, hb.2.1, fun hz => hb.2.2 ?_⟩
     have e := s2 i h
     have hlt : c / 2 ^ i < 4096 := Nat.lt_of_le_of_lt (Nat.div_le_self _ _) (by omega)
     rw [bitF_nat _ _ (by rw [e]; exact hlt), e] at hz
     rw [bitF_nat _ _ hlt]; exact hz
set_option maxHeartbeats 1000000 in
theorem cloneO_any (S : Nat → Prop) (w : World) (a : Option Addr) (cap : Nat) (l : List Int) (h : numsR.rel S w [.slice a l.length cap] l) (hl : l.length ≤ 1000000) :
   Calls Tryz.prog 167 #[.slice a l.length cap] w fun e w' => ∃ v, e = .returned v ∧ Own u64R w.heap.size 24 (fun k => w.heap.size ≤ k) w' v l ∧ Below w.heap.size w w' := by
 have hen := eql_nil
 cases a with
 | none =>
   have hl0 : l = [] := by
     cases l with
     | nil => rfl
     | cons x xs => obtain ⟨b, off, h1, -⟩ := nums_at h 0 (by simp); cases h1
   subst hl0
   go_enter Tryz.func167, Tryz.ntmps167
   go_wp2_with fail; go_ret
   exact ⟨_, rfl, Own.nil _ _ _ _ _, Below.refl _ _⟩
 | some ad =>
   have hb0 := bnew (Below.refl w.heap.size w) (.cells #[] 24); have HO := Lib.hid (Own.empty u64R w.heap.size 24 (box_new w (.cells #[] 24)) (Nat.le_refl _))
   have HS := Lib.hid (Src.plain (S' := fun _ => False) (Plain.int .u64) (Src.of_slice (numsR.keepB h hb0)))
   have HB := Lib.hid hb0; clear h hb0
   go_enter Tryz.func167, Tryz.ntmps167
   go_wp2_with (at_builtin; refine wpList_append_rel (r := u64R) (base := w.heap.size) rfl _ _ rfl Tryz.etyNums rfl rfl HO.out HS.out (fun _ _ h => h.elim) (fun _ _ h => h) (by unfold maxLen; simp; omega) (by simp; omega) (by rw [World.size_alloc]; omega) ?_)
   intro v3 w3 ho3 hk3 _
   have hb3 : Below w.heap.size w w3 := Kept.behind HB.out hk3 (by rw [World.size_alloc]; omega) fun k hk h => by have := (HO.out.lt h).2.2; omega
   have HG : Hid (Own u64R w.heap.size 24 (fun k => w.heap.size ≤ k) w3 v3 l) := by
     have := ho3.mono (F' := fun k => w.heap.size ≤ k) fun k _ h => by rcases h with h | h <;> omega
     exact this
   have HB3 := Lib.hid hb3; clear ho3 hb3; go_wp2_with fail; go_ret
   exact ⟨_, rfl, HG.out, HB3.out⟩
theorem frValidD_any (S : Nat → Prop) (w : World) (f : FrM) (D : Nat) (hf : FrOK f D) (la : Option Addr) (lc : Nat) (hl : numsR.rel S w [.slice la f.left.length lc] f.left) :
   Calls Tryz.prog 111 #[.agg #[.int .i64 D, .int .i64 f.count, .slice la f.left.length lc]] w fun e w' => e = .returned (.bool true) ∧ Below w.heap.size w w' := by
 have h := frValid_any S w f D hf la lc hl; rwa [hf.depth] at h
def FrOut (f : FrM) (w : World) (e : Ending) (w' : World) : Prop := ∃ (a : Option Addr) (c : Nat), e = .returned (.tuple #[.agg #[.int .i64 f.depth, .int .i64 f.count, .slice a f.left.length c], .int .i64 0]) ∧ numsR.rel (fun k => w.heap.size ≤ k) w' [.slice a f.left.length c] f.left ∧ Below w.heap.size w w'
set_option maxHeartbeats 4000000 in
theorem frAppend_any (S : Nat → Prop) (w : World) (f : FrM) (D : Nat) (hf : FrOK f D) (hc : f.count < 2 ^ D) (la : Option Addr) (lc : Nat) (hl : numsR.rel S w [.slice la f.left.length lc] f.left) (leaf : Int) (hlf : 0 ≤ leaf ∧ leaf < 18446744069414584321) :
   Calls Tryz.prog 312 #[.agg #[.int .i64 f.depth, .int .i64 f.count, .slice la f.left.length lc], .int .u64 leaf] w (FrOut (appF f leaf) w) := by
 have HFOK := Lib.hid hf; obtain ⟨d0, d1, hd, c0, c1, hlen, hbits⟩ := hf
 obtain ⟨e1, e2, e3⟩ := pow12 ⟨D, by omega⟩
 simp only at e1 e2 e3
 have HD := Lib.hid hd; have HLEN := Lib.hid hlen; have hbA := bnew (bnew (Below.refl w.heap.size w) (.cells #[.int .i64 D, .int .i64 f.count, .slice la f.left.length lc] 148)) (.cells #[.int .i64 0, .int .i64 0, .slice none 0 0] 148); have HX := Lib.hid (two_new w (.cells #[.int .i64 D, .int .i64 f.count, .slice la f.left.length lc] 148) (.cells #[.int .i64 0, .int .i64 0, .slice none 0 0] 148)).2; have HZ := Lib.hid (two_new w (.cells #[.int .i64 D, .int .i64 f.count, .slice la f.left.length lc] 148) (.cells #[.int .i64 0, .int .i64 0, .slice none 0 0] 148)).1; have HL := Lib.hid (numsR.keepB hl hbA); have HB := Lib.hid hbA
 have HSZ : Hid (((w.alloc (.cells #[.int .i64 D, .int .i64 f.count, .slice la f.left.length lc] 148)).alloc (.cells #[.int .i64 0, .int .i64 0, .slice none 0 0] 148)).heap.size = w.heap.size + 2) := by show _ = _; rw [World.size_alloc, World.size_alloc]
 have HC1 : Hid (f.count + 1 ≤ 2 ^ D) := by show _ ≤ _; omega
 have hl13 : f.left.length ≤ 13 := by omega
 have hcs : f.count < 4096 := by omega
 rw [hd]; generalize hP2 : (2 : Int) ^ D = P2 at *
 have e4 : wrap64 P2 = P2 := by unfold wrap64; omega
 have g1 : (f.count == P2) = false := by rw [beq_eq_false_iff_ne]; omega
 have g2 : decide (18446744069414584321 ≤ leaf) = false := decide_eq_false (by omega)
 have hcw : wrap64 (f.count + 1) = f.count + 1 := by unfold wrap64; omega
 clear hbA hl hbits hlen hd
 go_enter Tryz.func312, Tryz.ntmps312
 go_upto_region 1 with (fail)
 generalize (w.alloc (.cells #[.int .i64 D, .int .i64 f.count, .slice la f.left.length lc] 148)).alloc (.cells #[.int .i64 0, .int .i64 0, .slice none 0 0] 148) = W at *; obtain ⟨y0, y1⟩ := box_cells HX.out; go_wp2_with fail
 refine (frValidD_any S W f D HFOK.out la lc HL.out).mono ?_
 rintro e w1 ⟨rfl, hb1⟩; clear y0 y1; have x0 := box_regrown (box_after hb1 HX.out); go_wp2_with fail
 refine wp_region_quiet_below (by kernel_rfl) (by kernel_rfl) ?_
 repeat (first | go_big_quiet_step (fail) | quiet_step (fail))
 refine wpQuiet_nil ?_
 intro wq hw'
 obtain ⟨⟨dq, osq⟩, hw''⟩ := hw'; have hbwq := below_regrown w1 dq osq; rw [← hw''] at hbwq; clear hw'' x0; have hbq := bnext hb1 hbwq; obtain ⟨y0, y1⟩ := box_cells (box_after hbq HX.out); go_wp2_with fail
 refine (cloneO_any S wq la lc f.left (numsR.keepB HL.out hbq) (by omega)).mono ?_
 rintro e w3 ⟨v, rfl, ho, hb3⟩; have HO := Lib.hid ho; have HB3 := Lib.hid (bnext hbq hb3); have HB3Q := Lib.hid hb3; have HB3W := Lib.hid hbq; have HQ := Lib.hid hbq.size; clear ho hb1 hbwq hbq hb3 y0 y1
 obtain ⟨g, cap, rfl, -, -, hgl, hgB, -, -, -⟩ := HO.out.setInt 0 (by have := HLEN.out; omega)
 have HG := Lib.hid hgB; clear hgl hgB; go_wp2_with fail
 go_loopw [7, 8] (fun vl vd wr => ∃ (lv : Nat) (d : Int) (l : List Int), vl = .int .i64 lv ∧ vd = .int .u64 d ∧ lv ≤ D ∧ Hid (0 ≤ d ∧ d < 18446744069414584321) ∧ Hid (l.length = f.left.length) ∧ Hid (Own u64R wq.heap.size 24 (fun k => wq.heap.size ≤ k) wr (.slice (some ⟨g, 0, none⟩) f.left.length cap) l) ∧ Hid (Kept (fun i => i < wq.heap.size) wq wr) ∧ Hid (∀ i, i < lv → bitF f.count i = 1) ∧ Hid (carryF f.count (f.left.length - lv) lv d l = carryF f.count f.left.length 0 leaf f.left)) (fun vl _ _ => D + 1 - (intOf vl).toNat)
 case atStart => exact ⟨0, leaf, f.left, rfl, rfl, Nat.zero_le _, hlf, rfl, HO.out, Kept.of_below HB3Q.out, fun i hi => by omega, rfl⟩
 case round =>
   obtain ⟨lv, d, l, rfl, rfl, hlv, hd, hll, hown, hkr, hone, hcar⟩ := hrel
   have hlt : lv < f.left.length := by have := HLEN.out; omega
   obtain ⟨g', cap', hv', -, -, -, -, hcell, hfr, hst⟩ := hown.out.setInt lv (by rw [hll.out]; exact hlt)
   simp only [Value.slice.injEq, Option.some.injEq, Addr.mk.injEq, and_true] at hv'
   obtain ⟨rfl, -, rfl⟩ := hv'
   have HXR := Lib.hid (box_kept hkr.out (box_after HB3W.out HX.out) (show w.heap.size < wq.heap.size by have := HSZ.out; have := HQ.out; omega))
   have HZR := Lib.hid (box_kept hkr.out (box_after HB3W.out HZ.out) (show w.heap.size + 1 < wq.heap.size by have := HSZ.out; have := HQ.out; omega))
   have HU : Hid (f.left.length - lv = (f.left.length - (lv + 1)) + 1) := by show _ = _; omega
   have HGD : Hid (l.getD lv 0 = l[lv]'(by rw [hll.out]; exact hlt)) := by show _ = _; rw [List.getD_eq_getElem?_getD, List.getElem?_eq_getElem (by rw [hll.out]; exact hlt)]; rfl
   have HOX := Lib.hid (ints_wf hown.out.slice _ (List.getElem_mem (show lv < l.length by rw [hll.out]; exact hlt)))
   generalize l[lv]'(by rw [hll.out]; exact hlt) = x at *
   have HST := Lib.hid hst; clear hst; obtain ⟨y0, y1⟩ := box_cells HXR.out
   by_cases hbit : bitF f.count lv = 1
   · have z1 : (bits BinOp.and IntKind.i64 (f.count / 2 ^ lv) 1 == 1) = true := by rw [beq_iff_eq]; exact hbit
     have HC : Hid (carryF f.count (f.left.length - (lv + 1)) (lv + 1) (nodeH x d) (l.set lv 0) = carryF f.count f.left.length 0 leaf f.left) := by
       show _ = _
       rw [← hcar.out, HU.out, carryF_hit _ _ _ _ _ hbit, HGD.out]
     have HONE : Hid (∀ i, i < lv + 1 → bitF f.count i = 1) := fun i hi => by rcases Nat.lt_succ_iff_lt_or_eq.1 hi with h | rfl; exact hone.out i h; exact hbit
     have hlv2 : lv + 1 ≤ D := by
       obtain ⟨c, hcc⟩ := Int.eq_ofNat_of_zero_le c0
       have hcn : c < 4096 := by omega
       have hone' : ∀ i, i < lv + 1 → c / 2 ^ i % 2 = 1 := fun i hi => by
         have h1 := HONE.out i hi; rw [hcc, bitF_nat c i (Nat.lt_of_le_of_lt (Nat.div_le_self _ _) hcn)] at h1
         omega
       have h2 := ones_le c (lv + 1) hone'
       have hD2 : c < 2 ^ D := by
         have : ((c : Nat) : Int) < ((2 ^ D : Nat) : Int) := by push_cast; rw [hP2]; omega
         exact_mod_cast this
       rcases Nat.lt_or_ge D (lv + 1) with hd' | hd'
       · exfalso
         have h3 : 2 ^ (D + 1) ≤ 2 ^ (lv + 1) := Nat.pow_le_pow_right (by omega) (by omega)
         rw [Nat.pow_succ] at h3; omega
       · exact hd'
     clear hbit hcar hone; go_wp2_with fail
     refine (node_any wr x d HOX.out (okP hd.out)).mono ?_
     rintro e w4 ⟨rfl, hb4⟩; have HO4 := Lib.hid (hown.out.keepB hb4)
     obtain ⟨g', cap', hv', -, -, hg4, -, hcell4, hfr4, hst4⟩ := HO4.out.setInt lv (by rw [hll.out]; exact hlt)
     simp only [Value.slice.injEq, Option.some.injEq, Addr.mk.injEq, and_true] at hv'
     obtain ⟨rfl, -, rfl⟩ := hv'
     obtain ⟨ho5, hk5⟩ := hst4 0 (by decide)
     have HO5 := Lib.hid ho5
     have HK5 : Hid (Kept (fun i => i < wq.heap.size) wq (w4.setCell ⟨g, lv, none⟩ (.int .u64 0))) := (hkr.out.trans (Kept.of_below (S := fun i => i < wq.heap.size) hb4) fun _ _ h => h).trans hk5 fun i _ h => by have h' : i < wq.heap.size := h; have := HG.out; show i ≠ g; omega
     have HL5 : Hid ((l.set lv 0).length = f.left.length) := by show _ = _; rw [List.length_set, hll.out]
     have HN := Lib.hid (nodeH_in x d); clear ho5 hk5 hst4 hkr hown hcell hfr y0 y1 hb4; go_wp2_with fail
     go_roundw
     case rel => exact ⟨lv + 1, nodeH x d, l.set lv 0, by go_num, rfl, hlv2, HN.out, HL5.out, HO5.out, HK5.out, HONE.out, HC.out⟩
     case measure => simp [intOf]; omega
   · have z1 : (bits BinOp.and IntKind.i64 (f.count / 2 ^ lv) 1 == 1) = false := by rw [beq_eq_false_iff_ne]; exact hbit
     have HC : Hid (l.set lv d = carryF f.count f.left.length 0 leaf f.left) := by
       show _ = _
       rw [← hcar.out, HU.out, carryF_miss _ _ _ _ _ hbit]
     obtain ⟨ho5, hk5⟩ := HST.out d (okP hd.out); have HO5 := Lib.hid ho5
     have HK5 : Hid (Kept (fun i => i < wq.heap.size) wq (wr.setCell ⟨g, lv, none⟩ (.int .u64 d))) := hkr.out.trans hk5 fun i _ h => by have h' : i < wq.heap.size := h; have := HG.out; show i ≠ g; omega
     clear ho5 hk5 hbit hcar hone hkr hown
     go_upto_region 12 with (fail)
     have HX5 := Lib.hid (box_kept HK5.out (box_after HB3W.out HX.out) (show w.heap.size < wq.heap.size by have := HSZ.out; have := HQ.out; omega))
     have HZ5 := Lib.hid (box_kept HK5.out (box_after HB3W.out HZ.out) (show w.heap.size + 1 < wq.heap.size by have := HSZ.out; have := HQ.out; omega))
     generalize wr.setCell ⟨g, lv, none⟩ (.int .u64 d) = W5 at *; clear y0 y1 hcell hfr; obtain ⟨y0, y1⟩ := box_cells HX5.out; obtain ⟨q0, q1⟩ := box_cells HZ5.out; have hR := cells_box (old := [.int .i64 0, .int .i64 0, .slice none 0 0]) HZ5.out [.int .i64 D, .int .i64 (f.count + 1), .slice (some ⟨g, 0, none⟩) f.left.length cap] rfl
     have hK := kept_cells W5 (q := w.heap.size + 1) (S := fun k => k ≠ w.heap.size + 1) (fun h => h rfl) [.int .i64 D, .int .i64 (f.count + 1), .slice (some ⟨g, 0, none⟩) f.left.length cap] 0
     obtain ⟨wf, hwf⟩ : ∃ wf, wf = W5.setCells (w.heap.size + 1) 0 [.int .i64 D, .int .i64 (f.count + 1), .slice (some ⟨g, 0, none⟩) f.left.length cap] := ⟨_, rfl⟩; rw [← hwf] at hR hK
     simp only [World.setCells, Nat.reduceAdd, Nat.zero_add] at hwf
     have HW := Lib.hid hwf; have HR := Lib.hid hR; have HK := Lib.hid hK; clear hwf hR hK; go_wp2_with fail; rw [← HW.out]; obtain ⟨g0, -⟩ := box_cells HR.out
     refine bodyPost_ret (v := .tuple #[.agg #[.int .i64 D, .int .i64 (f.count + 1), .slice (some ⟨g, 0, none⟩) f.left.length cap], .int .i64 0]) (by simp [results, Tryz.results312, go_sem, g0]) rfl ?_
     have hle : (appF f leaf).left.length = f.left.length := carryF_len _ _ _ _ _
     refine ⟨some ⟨g, 0, none⟩, cap, by rw [hle, show (appF f leaf).depth = (D : Int) from HD.out]; rfl, ?_, ?_⟩
     · rw [hle]
       have h1 := numsR.keep HO5.out.slice (HK.out.mono fun k _ h => by have h' : wq.heap.size ≤ k := h; have := HSZ.out; have := HQ.out; show k ≠ _; omega)
       rw [HC.out] at h1
       exact numsR.mono h1 fun k _ h => by have h' : wq.heap.size ≤ k := h; have := HSZ.out; have := HQ.out; show _ ≤ _; omega
     · have h0 : Kept (fun i => i < w.heap.size) w wq := (Kept.of_below (S := fun i => i < w.heap.size) HB.out).trans (Kept.of_below (S := fun i => i < w.heap.size) HB3W.out) fun _ _ h => h
       have h5 : Kept (fun i => i < w.heap.size) w W5 := h0.trans HK5.out fun i _ h => by have h' : i < w.heap.size := h; have := HSZ.out; have := HQ.out; show i < _; omega
       have h1 : Kept (fun i => i < w.heap.size) w wf := h5.trans HK.out fun i _ h => by have h' : i < w.heap.size := h; show i ≠ _; omega
       exact h1.below (Nat.le_refl _)
end Go.Proofs.YtphacfkcifpobaaGreatDoor
/- Frontiers of the program: Root, New. -/
namespace Go.Proofs.YtphacfkcifpobaaGreatDoor
open Go.ChangeShapes Go.WideShapes Go.ChangeAt Go.RowKit Go.Sort
def rootTo (c : Int) (l : List Int) : Nat → Int
 | 0 => emptyF 0
 | k + 1 => if bitF c k = 1 then nodeH (l.getD k 0) (rootTo c l k) else nodeH (rootTo c l k) (emptyF k)
theorem rootTo_in (c : Int) (l : List Int) : ∀ k, 0 ≤ rootTo c l k ∧ rootTo c l k < 18446744069414584321
 | 0 => emptyF_in 0
 | k + 1 => by
   unfold rootTo
   split
   · exact nodeH_in _ _
   · exact nodeH_in _ _
def rootF (f : FrM) (D : Nat) : Int := if f.count = 2 ^ D then f.left.getD D 0 else rootTo f.count f.left D
theorem rootF_in {f : FrM} {D : Nat} (h : FrOK f D) : 0 ≤ rootF f D ∧ rootF f D < 18446744069414584321 := by
 unfold rootF
 split
 · have hl : D < f.left.length := by rw [h.len]; omega
   rw [List.getD_eq_getElem?_getD, List.getElem?_eq_getElem hl]
   exact ⟨(h.bits D hl).1, (h.bits D hl).2.1⟩
 · exact rootTo_in _ _ _
def newF (D : Nat) : FrM := ⟨D, 0, List.replicate (D + 1) 0⟩
theorem newF_ok (D : Nat) (d0 : 1 ≤ D) (d1 : D ≤ 12) : FrOK (newF D) D := by
 refine ⟨d0, d1, rfl, Int.le_refl _, ?_, by simp [newF], fun i h => ?_⟩
 · exact Int.le_of_lt (Int.pow_pos (by omega))
 · have : (newF D).left[i] = 0 := by simp [newF]
   rw [this]; exact ⟨by omega, by omega, fun _ => rfl⟩
set_option maxHeartbeats 400000 in
theorem frRoot_any (S : Nat → Prop) (w : World) (f : FrM) (D : Nat) (hf : FrOK f D) (la : Option Addr) (lc : Nat) (hl : numsR.rel S w [.slice la f.left.length lc] f.left) :
   Calls Tryz.prog 69 #[.agg #[.int .i64 f.depth, .int .i64 f.count, .slice la f.left.length lc]] w fun e w' => e = .returned (.int .u64 (rootF f D)) ∧ Below w.heap.size w w' := by
 have HFOK := Lib.hid hf; obtain ⟨d0, d1, hd, c0, c1, hlen, hbits⟩ := hf
 obtain ⟨e1, e2, e3⟩ := pow12 ⟨D, by omega⟩
 simp only at e1 e2 e3
 have HLEN := Lib.hid hlen; have hbA := bnew (Below.refl w.heap.size w) (.cells #[.int .i64 D, .int .i64 f.count, .slice la f.left.length lc] 148); have HX := Lib.hid (box_new w (.cells #[.int .i64 D, .int .i64 f.count, .slice la f.left.length lc] 148)); have HL := Lib.hid (numsR.keepB hl hbA); have HB := Lib.hid hbA; have HR : Hid (rootF f D = if f.count = 2 ^ D then f.left.getD D 0 else rootTo f.count f.left D) := rfl
 have hl13 : f.left.length ≤ 13 := by omega
 have hlD : D < f.left.length := by omega
 rw [hd]; generalize hP2 : (2 : Int) ^ D = P2 at *
 have e4 : wrap64 P2 = P2 := by unfold wrap64; omega
 clear hbA hl hbits hlen hd
 go_enter Tryz.func69, Tryz.ntmps69
 go_upto_region 1 with (fail)
 generalize w.alloc (.cells #[.int .i64 D, .int .i64 f.count, .slice la f.left.length lc] 148) = W at *; obtain ⟨y0, y1⟩ := box_cells HX.out; go_wp2_with fail
 refine (frValidD_any S W f D HFOK.out la lc HL.out).mono ?_
 rintro e w1 ⟨rfl, hb1⟩; clear y0 y1; have x0 := box_regrown (box_after hb1 HX.out)
 by_cases hfull : f.count = P2
 · have HF : Hid (rootF f D = f.left.getD D 0) := by show _ = _; rw [HR.out, if_pos hfull]
   have g1 : (f.count == P2) = true := by rw [beq_iff_eq]; exact hfull
   clear hfull; go_wp2_with fail
   refine wp_region_quiet_below (by kernel_rfl) (by kernel_rfl) ?_
   repeat (first | go_big_quiet_step (fail) | quiet_step (fail))
   refine wpQuiet_nil ?_
   intro wq hw'
   obtain ⟨⟨dq, osq⟩, hw''⟩ := hw'; have hbwq := below_regrown w1 dq osq; rw [← hw''] at hbwq; clear hw'' x0; have hbq := bnext hb1 hbwq; obtain ⟨y0, y1⟩ := box_cells (box_after hbq HX.out); obtain ⟨b, off, rfl, hbl, n0, n1, hcell⟩ := nums_at (numsR.keepB HL.out hbq) D hlD
   have HG : Hid (f.left.getD D 0 = f.left[D]) := by show _ = _; rw [List.getD_eq_getElem?_getD, List.getElem?_eq_getElem hlD]; rfl
   generalize f.left[D] = n at *; go_wp2_with fail; go_ret
   exact ⟨ret_int (by rw [HF.out, HG.out]), bnext HB.out hbq⟩
 · have HF : Hid (rootF f D = rootTo f.count f.left D) := by show _ = _; rw [HR.out, if_neg hfull]
   have g1 : (f.count == P2) = false := by rw [beq_eq_false_iff_ne]; exact hfull
   have hcs : f.count < 4096 := by omega
   clear hfull; go_wp2_with fail
   refine wp_region_quiet_below (by kernel_rfl) (by kernel_rfl) ?_
   repeat (first | go_big_quiet_step (fail) | quiet_step (fail))
   refine wpQuiet_nil ?_
   intro wq hw'
   obtain ⟨⟨dq, osq⟩, hw''⟩ := hw'; have hbwq := below_regrown w1 dq osq; rw [← hw''] at hbwq; clear hw'' x0; have hbq := bnext hb1 hbwq; obtain ⟨y0, y1⟩ := box_cells (box_after hbq HX.out); go_wp2_with fail
   refine (empty_any wq 0 (by omega)).mono ?_
   rintro e w3 ⟨rfl, hb3⟩; have hb3d := bnext hbq hb3; clear y0 y1; obtain ⟨y0, y1⟩ := box_cells (box_after hb3d HX.out); go_wp2_with fail; clear y0 y1
   go_loopw [3, 4, 25] (fun ve vd vi wr => ∃ (k : Nat) (em dg : Int), k ≤ D ∧ vi = .int .i64 k ∧ ve = .int .u64 em ∧ vd = .int .u64 dg ∧ Hid (em = emptyF k) ∧ Hid (dg = rootTo f.count f.left k) ∧ Below W.heap.size W wr) (fun _ _ vi _ => D - (intOf vi).toNat)
   case atStart => exact ⟨0, _, _, Nat.zero_le _, rfl, rfl, rfl, rfl, rfl, hb3d⟩
   case round =>
     obtain ⟨k, em, dg, hk, rfl, rfl, rfl, hem, hdg, hbr⟩ := hrel
     by_cases hlt : k < D
     · obtain ⟨b, off, rfl, hbl, n0, n1, hcell⟩ := nums_at (numsR.keepB HL.out hbr) k (by omega)
       have HG : Hid (f.left.getD k 0 = f.left[k]'(by omega)) := by show _ = _; rw [List.getD_eq_getElem?_getD, List.getElem?_eq_getElem (by omega)]; rfl
       have HOE : Hid (okU em) := by show okU _; rw [hem.out]; exact okP (emptyF_in k)
       have HOD : Hid (okU dg) := by show okU _; rw [hdg.out]; exact okP (rootTo_in _ _ k)
       have HOX : Hid (okU (f.left[k]'(by omega))) := okU_of n0 n1
       have HEM : Hid (nodeH em em = emptyF (k + 1)) := by show _ = _; rw [hem.out]; rfl
       have HS : Hid (rootTo f.count f.left (k + 1) = if bitF f.count k = 1 then nodeH (f.left.getD k 0) dg else nodeH dg em) := by show _ = _; rw [hem.out, hdg.out]; rfl
       generalize f.left[k]'(by omega) = n at *
       obtain ⟨y0, y1⟩ := box_cells (box_after hbr HX.out); have HBR := Lib.hid hbr; clear hbr
       by_cases hbit : bitF f.count k = 1
       · have z1 : (bits BinOp.and IntKind.i64 (f.count / 2 ^ k) 1 == 1) = true := by rw [beq_iff_eq]; exact hbit
         have HN : Hid (nodeH n dg = rootTo f.count f.left (k + 1)) := by show _ = _; rw [HS.out, if_pos hbit, HG.out]
         clear hbit; go_wp2_with fail
         refine (node_any wr n dg HOX.out HOD.out).mono ?_
         rintro e w4 ⟨rfl, hb4⟩; clear y0 y1; go_wp2_with fail
         refine (node_any w4 em em HOE.out HOE.out).mono ?_
         rintro e w5 ⟨rfl, hb5⟩; go_wp2_with fail
         go_roundw
         case rel => exact ⟨k + 1, _, _, by omega, by go_num, rfl, rfl, HEM, HN, bnext HBR.out (bnext hb4 hb5)⟩
         case measure => simp [intOf]; omega
       · have z1 : (bits BinOp.and IntKind.i64 (f.count / 2 ^ k) 1 == 1) = false := by rw [beq_eq_false_iff_ne]; exact hbit
         have HN : Hid (nodeH dg em = rootTo f.count f.left (k + 1)) := by show _ = _; rw [HS.out, if_neg hbit]
         clear hbit; go_wp2_with fail
         refine (node_any wr dg em HOD.out HOE.out).mono ?_
         rintro e w4 ⟨rfl, hb4⟩; clear y0 y1; go_wp2_with fail
         refine (node_any w4 em em HOE.out HOE.out).mono ?_
         rintro e w5 ⟨rfl, hb5⟩; go_wp2_with fail
         go_roundw
         case rel => exact ⟨k + 1, _, _, by omega, by go_num, rfl, rfl, HEM, HN, bnext HBR.out (bnext hb4 hb5)⟩
         case measure => simp [intOf]; omega
     · obtain rfl : k = D := by omega
       have HBR := Lib.hid hbr; clear hbr; go_wp2_with fail; go_ret
       exact ⟨ret_int (by rw [HF.out, hdg.out]), bnext HB.out HBR.out⟩
set_option maxHeartbeats 400000 in
theorem frNew_any (w : World) (D : Nat) (d0 : 1 ≤ D) (d1 : D ≤ 12) :
   Calls Tryz.prog 67 #[.int .i64 D] w fun e w' => ∃ (a : Option Addr) (c : Nat), e = .returned (.agg #[.int .i64 D, .int .i64 0, .slice a (newF D).left.length c]) ∧ numsR.rel (fun k => w.heap.size ≤ k) w' [.slice a (newF D).left.length c] (newF D).left ∧ Below w.heap.size w w' := by
 have hz := box_new w (.cells #[.int .i64 0, .int .i64 0, .slice none 0 0] 148); have hb := bnew (Below.refl w.heap.size w) (.cells #[.int .i64 0, .int .i64 0, .slice none 0 0] 148); have HZ := Lib.hid hz; have HB := Lib.hid hb; have HSZ : Hid ((w.alloc (.cells #[.int .i64 0, .int .i64 0, .slice none 0 0] 148)).heap.size = w.heap.size + 1) := World.size_alloc ..
 have hw1 : wrap64 ((D : Int) + 1) = ((D + 1 : Nat) : Int) := by unfold wrap64; omega
 clear hz hb
 go_enter Tryz.func67, Tryz.ntmps67
 go_upto_region 1 with (fail)
 generalize w.alloc (.cells #[.int .i64 0, .int .i64 0, .slice none 0 0] 148) = W at *
 have q0 : ∀ (o : Obj) (i : Nat), (W.alloc o).cell? ⟨w.heap.size, i, none⟩ = (#[.int .i64 0, .int .i64 0, .slice none 0 0] : Array Value)[i]? := fun o => (box_cells (box_old (o' := o) HZ.out)).1
 have q1 : ∀ (o : Obj) (i : Nat), (W.alloc o).frozen? ⟨w.heap.size, i, none⟩ = false := fun o => (box_cells (box_old (o' := o) HZ.out)).2
 go_wp2_with (at_make; refine wpList_make_cells rfl _ _ rfl Tryz.etyNums (z := .int .u64 0) (by kernel_rfl) (n := D + 1) rfl rfl (by first | rfl | exact hw1) (by first | rfl | exact hw1) ?_ ?_ ?_)
 · omega
 · unfold maxLen; omega
 rw [madeRow]; have hm : W.heap[w.heap.size]? = some (.cells #[.int .i64 0, .int .i64 0, .slice none 0 0] 148 (0, 0)) := HZ.out; have hZ1 := box_old (o' := .cells (rowS [] (D + 1)).toArray 24) hm; have hR := cells_box (old := [.int .i64 0, .int .i64 0, .slice none 0 0]) hZ1 [.int .i64 D, .int .i64 0, .slice (some ⟨W.heap.size, 0, none⟩) (D + 1) (D + 1)] rfl
 have hK := kept_cells (W.alloc (.cells (rowS [] (D + 1)).toArray 24)) (q := w.heap.size) (S := fun k => k ≠ w.heap.size) (fun h => h rfl) [.int .i64 D, .int .i64 0, .slice (some ⟨W.heap.size, 0, none⟩) (D + 1) (D + 1)] 0
 have hO : Own u64R W.heap.size 24 (fun x => False ∨ W.heap.size ≤ x) (W.alloc (.cells (rowS [] (D + 1)).toArray 24)) (.slice (some ⟨W.heap.size, 0, none⟩) (List.replicate (D + 1) (0 : Int)).length (D + 1)) (List.replicate (D + 1) 0) :=
   own_ints (cur := rowS [] (D + 1)) (box_new W _) (by simp [rowS]) (by simp [rowS]) (fun x hx => by rw [List.eq_of_mem_replicate hx]; exact okU_of (by omega) (by omega)) (by simp) (by unfold maxLen; omega) (Nat.le_refl _)
 have HB2 := Lib.hid (bnew (Below.refl W.heap.size W) (.cells (rowS [] (D + 1)).toArray 24)); generalize W.alloc (.cells (rowS [] (D + 1)).toArray 24) = W2 at *; obtain ⟨wf, hwf⟩ : ∃ wf, wf = W2.setCells w.heap.size 0 [.int .i64 D, .int .i64 0, .slice (some ⟨W.heap.size, 0, none⟩) (D + 1) (D + 1)] := ⟨_, rfl⟩; rw [← hwf] at hR hK
 simp only [World.setCells, Nat.reduceAdd, Nat.zero_add] at hwf
 rw [← hwf]; obtain ⟨g0, -⟩ := box_cells hR
 refine bodyPost_ret (v := .agg #[.int .i64 D, .int .i64 0, .slice (some ⟨W.heap.size, 0, none⟩) (D + 1) (D + 1)]) (by simp [results, Tryz.results67, go_sem, g0]) rfl ?_
 have hle : (newF D).left.length = D + 1 := by simp [newF]
 refine ⟨some ⟨W.heap.size, 0, none⟩, D + 1, by rw [hle], ?_, ?_⟩
 · have h1 := numsR.keep hO.slice (hK.mono fun k _ h => by rcases h with h | h; exact h.elim; have := HSZ.out; show k ≠ _; omega)
   have e : (List.replicate (D + 1) (0 : Int)).length = (newF D).left.length := by simp [newF]
   rw [e] at h1
   exact numsR.mono h1 fun k _ h => by rcases h with h | h; exact h.elim; have := HSZ.out; show _ ≤ _; omega
 · have h0 : Kept (fun i => i < w.heap.size) w W2 := (Kept.of_below (S := fun i => i < w.heap.size) HB.out).trans (Kept.of_below (S := fun i => i < w.heap.size) HB2.out) fun _ _ h => h
   have h1 : Kept (fun i => i < w.heap.size) w wf := h0.trans hK fun i _ h => by have h' : i < w.heap.size := h; show i ≠ _; omega
   exact h1.below (Nat.le_refl _)
end Go.Proofs.YtphacfkcifpobaaGreatDoor
/- The ledger of the program: accounts; the search. -/
namespace Go.Proofs.YtphacfkcifpobaaGreatDoor
open Go.ChangeShapes Go.WideShapes Go.ChangeAt Go.RowKit Go.Sort
structure AcM where
 id : Int
 bal : Int
 nonce : Int
def acR : Rep AcM := mapR (fun n => (n.id, n.bal, n.nonce)) (pairR u64R (pairR u64R u64R))
theorem acR.n : acR.n = 3 := rfl
abbrev accsR : Rep (List AcM) := sliceR acR
structure AcOk (x : AcM) : Prop where
 id : okU x.id
 bal : okU x.bal
 nonce : okU x.nonce
theorem acR.inv {S : Nat → Prop} {w : World} {cs : List Value} {n : AcM} (h : acR.rel S w cs n) : cs = [.int .u64 n.id, .int .u64 n.bal, .int .u64 n.nonce] ∧ AcOk n := by
 obtain ⟨_, _, rfl, ⟨rfl, w1⟩, _, _, rfl, ⟨rfl, w2⟩, ⟨rfl, w3⟩⟩ := h
 exact ⟨rfl, w1, w2, w3⟩
theorem acR.mk {S : Nat → Prop} {w : World} {n : AcM} (h : AcOk n) : acR.rel S w [.int .u64 n.id, .int .u64 n.bal, .int .u64 n.nonce] n :=
 ⟨[_], [_, _], rfl, ⟨rfl, h.id⟩, [_], [_], rfl, ⟨rfl, h.bal⟩, ⟨rfl, h.nonce⟩⟩
theorem acs_at {S : Nat → Prop} {w : World} {a : Option Addr} {len cap : Nat} {l : List AcM} (h : accsR.rel S w [.slice a len cap] l) (k : Nat) (hk : k < l.length) :
   ∃ b off, a = some ⟨b, off, none⟩ ∧ b < w.heap.size ∧ S b ∧ AcOk l[k] ∧ w.cell? ⟨b, off + k * 3, none⟩ = some (.int .u64 l[k].id) ∧ w.cell? ⟨b, off + k * 3 + 1, none⟩ = some (.int .u64 l[k].bal) ∧ w.cell? ⟨b, off + k * 3 + 2, none⟩ = some (.int .u64 l[k].nonce) := by
 obtain ⟨b, off, es, rfl, hb, hbl, hrel, hca⟩ := sliceR.at h k hk; obtain ⟨rfl, ok⟩ := acR.inv hrel; rw [acR.n] at hca
 exact ⟨b, off, rfl, hbl, hb, ok, hca 0 _ rfl, hca 1 _ rfl, hca 2 _ rfl⟩
def cmpI (a b : Int) : Int := if a < b then -1 else if b < a then 1 else 0
theorem isNaN_any (w : World) (a : Int) : Calls Tryz.prog 265 #[.int .u64 a] w fun e w' => e = .returned (.bool false) ∧ Below w.heap.size w w' := by
 have z : (a != a) = false := by simp
 go_enter Tryz.func265, Tryz.ntmps265
 go_wp2_with fail; go_ret
 exact ⟨rfl, Below.refl _ _⟩
theorem compare_any (w : World) (a b : Int) : Calls Tryz.prog 210 #[.int .u64 a, .int .u64 b] w fun e w' => e = .returned (.int .i64 (cmpI a b)) ∧ Below w.heap.size w w' := by
 have HC : Hid (cmpI a b = if a < b then -1 else if b < a then 1 else 0) := rfl
 go_enter Tryz.func210, Tryz.ntmps210
 go_wp2_with fail
 refine (isNaN_any w a).mono ?_
 rintro e w1 ⟨rfl, hb1⟩; go_wp2_with fail
 refine (isNaN_any w1 b).mono ?_
 rintro e w2 ⟨rfl, hb2⟩; have hbw := bnext hb1 hb2
 by_cases h1 : a < b
 · have HF : Hid (cmpI a b = -1) := by show _ = _; rw [HC.out, if_pos h1]
   go_wp2_with fail; go_ret
   exact ⟨ret_int HF.out.symm, hbw⟩
 · by_cases h2 : b < a
   · have HF : Hid (cmpI a b = 1) := by show _ = _; rw [HC.out, if_neg h1, if_pos h2]
     go_wp2_with fail; go_ret
     exact ⟨ret_int HF.out.symm, hbw⟩
   · have HF : Hid (cmpI a b = 0) := by show _ = _; rw [HC.out, if_neg h1, if_neg h2]
     go_wp2_with fail; go_ret
     exact ⟨ret_int HF.out.symm, hbw⟩
theorem findc_any (w : World) (x : AcM) (id : Int) : Calls Tryz.prog 209 #[.agg #[.int .u64 x.id, .int .u64 x.bal, .int .u64 x.nonce], .int .u64 id] w fun e w' => e = .returned (.int .i64 (cmpI x.id id)) ∧ Below w.heap.size w w' := by
 have HX := Lib.hid (box_new w (.cells #[.int .u64 x.id, .int .u64 x.bal, .int .u64 x.nonce] 244)); have HB := Lib.hid (bnew (Below.refl w.heap.size w) (.cells #[.int .u64 x.id, .int .u64 x.bal, .int .u64 x.nonce] 244))
 go_enter Tryz.func209, Tryz.ntmps209
 go_upto_region 1 with (fail)
 generalize w.alloc (.cells #[.int .u64 x.id, .int .u64 x.bal, .int .u64 x.nonce] 244) = W at *; obtain ⟨x0, x1⟩ := box_cells HX.out; go_wp2_with fail
 refine (compare_any W x.id id).mono ?_
 rintro e w1 ⟨rfl, hb1⟩; go_wp2_with fail; go_ret
 exact ⟨rfl, bnext HB.out hb1⟩
def posL : List AcM → Int → Nat
 | [], _ => 0
 | x :: l, id => if x.id < id then posL l id + 1 else 0
theorem posL_le : ∀ (l : List AcM) (id : Int), posL l id ≤ l.length
 | [], _ => Nat.le_refl _
 | x :: l, id => by
   unfold posL
   split
   · have := posL_le l id; simp; omega
   · omega
theorem posL_eq : ∀ (l : List AcM) (id : Int) (i : Nat), i ≤ l.length → (∀ m (hm : m < l.length), m < i → l[m].id < id) → (∀ hm : i < l.length, ¬ l[i].id < id) → posL l id = i
 | [], _, i, h, _, _ => by simp at h; subst h; rfl
 | x :: l, id, 0, _, _, h2 => by
   have := h2 (by simp)
   unfold posL
   rw [if_neg (by simpa using this)]
 | x :: l, id, i + 1, h, h1, h2 => by
   have h0 := h1 0 (by simp) (by omega)
   have ih := posL_eq l id i (by simp at h; omega) (fun m hm hi => by have := h1 (m + 1) (by simp; omega) (by omega); simpa using this) (fun hm => by have := h2 (by simp; omega); simpa using this)
   unfold posL
   rw [if_pos (by simpa using h0), ih]
def foundL (l : List AcM) (id : Int) : Bool := (l[posL l id]?.map fun x => x.id == id).getD false
abbrev upL (l : List AcM) : Prop := l.Pairwise fun x y => x.id < y.id
set_option maxHeartbeats 400000 in
theorem bsearch_any (S : Nat → Prop) (w : World) (a : Option Addr) (cap : Nat) (l : List AcM) (h : accsR.rel S w [.slice a l.length cap] l) (hl : l.length ≤ 1000000) (hup : upL l) (id : Int) :
   Calls Tryz.prog 208 #[.slice a l.length cap, .int .u64 id, .func (Fn.func 209) #[] #[]] w fun e w' => e = .returned (.tuple #[.int .i64 (posL l id), .bool (foundL l id)]) ∧ Below w.heap.size w w' := by
 have H := Lib.hid h; have HUP := Lib.hid (List.pairwise_iff_getElem.1 hup); clear h hup
 go_enter Tryz.func208, Tryz.ntmps208
 go_wp2_with fail
 go_loopw [9, 10] (fun vi vj wr => ∃ (i j : Nat), vi = .int .i64 i ∧ vj = .int .i64 j ∧ i ≤ j ∧ j ≤ l.length ∧ Hid (∀ m (hm : m < l.length), m < i → l[m].id < id) ∧ Hid (∀ m (hm : m < l.length), j ≤ m → id ≤ l[m].id) ∧ Below w.heap.size w wr) (fun vi vj _ => (intOf vj).toNat - (intOf vi).toNat)
 case atStart => exact ⟨0, l.length, rfl, rfl, Nat.zero_le _, Nat.le_refl _, fun m hm hi => by omega, fun m hm hi => by omega, Below.refl _ _⟩
 case round =>
   obtain ⟨i, j, rfl, rfl, hij, hj, hlo, hhi, hbr⟩ := hrel
   by_cases hlt : i < j
   · obtain ⟨m, hm⟩ : ∃ m, (i + j) / 2 = m := ⟨_, rfl⟩
     have hml : m < l.length := by omega
     have hmi : i ≤ m ∧ m < j := by omega
     have hw1 : wrap64 ((i : Int) + j) = (i : Int) + j := by unfold wrap64; omega
     have hw2 : IntKind.u64.wrap ((i : Int) + j) = (i : Int) + j := by rw [IntKind.wrap_u64]; omega
     have hd : ((i : Int) + j) / 2 = (m : Int) := by omega
     have hw3 : IntKind.i64.wrap (m : Int) = m := by rw [IntKind.wrap_i64]; omega
     obtain ⟨b, off, rfl, hbl, -, hok, c0, c1, c2⟩ := acs_at ((accsR).keepB H.out hbr) m hml
     have HLT : Hid (l[m].id < id → ∀ k (hk : k < l.length), k < m + 1 → l[k].id < id) := fun hh k hk hkm => by
       rcases Nat.lt_or_ge k m with h | h
       · have := HUP.out k m hk hml h; omega
       · obtain rfl : k = m := by omega
         exact hh
     have HGE : Hid (id ≤ l[m].id → ∀ k (hk : k < l.length), m ≤ k → id ≤ l[k].id) := fun hh k hk hkm => by
       rcases Nat.lt_or_ge m k with h | h
       · have := HUP.out m k hml hk h; omega
       · obtain rfl : k = m := by omega
         exact hh
     have HM := Lib.hid hm; clear hm; generalize l[m] = x at *; go_wp2_with fail
     refine (findc_any wr x id).mono ?_
     rintro e w3 ⟨rfl, hb3⟩; have HBR := Lib.hid (bnext hbr hb3)
     have HSP : Hid (cmpI x.id id < 0 ↔ x.id < id) := by
       show _ ↔ _; unfold cmpI; split
       · omega
       · split <;> omega
     clear hbr hb3 c0 c1 c2
     by_cases hx : x.id < id
     · have HQ := Lib.hid (HLT.out hx)
       have hc : cmpI x.id id < 0 := HSP.out.2 hx; obtain ⟨r, hr⟩ : ∃ r, cmpI x.id id = r := ⟨_, rfl⟩; rw [hr] at hc ⊢; clear hr hx hd hw1 hw2 hw3; go_wp2_with fail
       go_roundw
       case rel => exact ⟨m + 1, j, by go_num, rfl, by omega, hj, HQ.out, hhi.out, HBR.out⟩
       case measure => simp [intOf]; omega
     · have HQ := Lib.hid (HGE.out (by omega))
       have hc : ¬ cmpI x.id id < 0 := fun hh => hx (HSP.out.1 hh)
       obtain ⟨r, hr⟩ : ∃ r, cmpI x.id id = r := ⟨_, rfl⟩; rw [hr] at hc ⊢; clear hr hx hd hw1 hw2 hw3; go_wp2_with fail
       go_roundw
       case rel => exact ⟨i, m, rfl, rfl, by omega, by omega, hlo.out, HQ.out, HBR.out⟩
       case measure => simp [intOf]; omega
   · obtain rfl : i = j := by omega
     have HP : Hid (posL l id = i) := posL_eq l id i hj (fun m hm hi => hlo.out m hm hi) fun hm => by have := hhi.out i hm (Nat.le_refl _); omega
     have HFD : Hid (foundL l id = (l[i]?.map fun x => x.id == id).getD false) := by show _ = _; unfold foundL; rw [HP.out]
     have HBR := Lib.hid hbr; clear hbr
     by_cases hlt2 : i < l.length
     · obtain ⟨b, off, rfl, hbl, -, hok, c0, c1, c2⟩ := acs_at ((accsR).keepB H.out HBR.out) i hlt2
       have HF : Hid (foundL l id = (l[i].id == id)) := by show _ = _; rw [HFD.out, List.getElem?_eq_getElem hlt2]; rfl
       generalize l[i] = x at *; go_wp2_with fail
       refine (findc_any wr x id).mono ?_
       rintro e w3 ⟨rfl, hb3⟩
       have HSP : Hid ((cmpI x.id id == 0) = (x.id == id)) := by
         show _ = _; rw [Bool.eq_iff_iff, beq_iff_eq, beq_iff_eq]; unfold cmpI; split
         · omega
         · split <;> omega
       clear c0 c1 c2; obtain ⟨r, hr⟩ : ∃ r, cmpI x.id id = r := ⟨_, rfl⟩; rw [hr] at HSP ⊢; clear hr; go_wp2_with fail; go_ret2
       exact ⟨by rw [HP.out, HF.out, ← HSP.out]; rfl, bnext HBR.out hb3⟩
     · have HF : Hid (foundL l id = false) := by show _ = _; rw [HFD.out, List.getElem?_eq_none (by omega)]; rfl
       go_wp2_with fail; go_ret2
       exact ⟨by rw [HP.out, HF.out]; rfl, HBR.out⟩
end Go.Proofs.YtphacfkcifpobaaGreatDoor
/- The ledger of the program: find, Get. -/
namespace Go.Proofs.YtphacfkcifpobaaGreatDoor
open Go.ChangeShapes Go.WideShapes Go.ChangeAt Go.RowKit Go.Sort
set_option maxHeartbeats 400000 in
theorem lfind_any (S : Nat → Prop) (w : World) (a : Option Addr) (cap : Nat) (l : List AcM) (h : accsR.rel S w [.slice a l.length cap] l) (hl : l.length ≤ 1000000) (hup : upL l) (id : Int) :
   Calls Tryz.prog 144 #[.agg #[.slice a l.length cap], .int .u64 id] w fun e w' => e = .returned (.tuple #[.int .i64 (posL l id), .bool (foundL l id)]) ∧ Below w.heap.size w w' := by
 have HX := Lib.hid (box_new w (.cells #[.slice a l.length cap] 155)); have hbA := bnew (Below.refl w.heap.size w) (.cells #[.slice a l.length cap] 155); have H := Lib.hid ((accsR).keepB h hbA); have HB := Lib.hid hbA; clear hbA h
 go_enter Tryz.func144, Tryz.ntmps144
 go_upto_region 1 with (fail)
 generalize w.alloc (.cells #[.slice a l.length cap] 155) = W at *; obtain ⟨x0, x1⟩ := box_cells HX.out; go_wp2_with fail
 refine (bsearch_any S W a cap l H.out hl hup id).mono ?_
 rintro e w1 ⟨rfl, hb1⟩; clear x0 x1; go_wp2_with fail; go_ret2
 exact ⟨rfl, bnext HB.out hb1⟩
def acL (l : List AcM) (id : Int) : AcM := if foundL l id = true then l.getD (posL l id) ⟨id, 0, 0⟩ else ⟨id, 0, 0⟩
theorem found_lt {l : List AcM} {id : Int} (h : foundL l id = true) : posL l id < l.length := by
 rcases Nat.lt_or_ge (posL l id) l.length with hh | hh
 · exact hh
 · unfold foundL at h; rw [List.getElem?_eq_none hh] at h; simp at h
set_option maxHeartbeats 400000 in
theorem lGet_any (S : Nat → Prop) (w : World) (a : Option Addr) (cap : Nat) (l : List AcM) (h : accsR.rel S w [.slice a l.length cap] l) (hl : l.length ≤ 1000000) (hup : upL l) (id : Int) :
   Calls Tryz.prog 88 #[.agg #[.slice a l.length cap], .int .u64 id] w fun e w' => e = .returned (.tuple #[.int .u64 (acL l id).bal, .int .u64 (acL l id).nonce]) ∧ Below w.heap.size w w' := by
 have HX := Lib.hid (box_new w (.cells #[.slice a l.length cap] 155)); have hbA := bnew (Below.refl w.heap.size w) (.cells #[.slice a l.length cap] 155); have H := Lib.hid ((accsR).keepB h hbA); have HB := Lib.hid hbA; clear hbA h
 go_enter Tryz.func88, Tryz.ntmps88
 go_upto_region 1 with (fail)
 generalize w.alloc (.cells #[.slice a l.length cap] 155) = W at *; obtain ⟨x0, x1⟩ := box_cells HX.out; go_wp2_with fail
 refine (lfind_any S W a cap l H.out hl hup id).mono ?_
 rintro e w1 ⟨rfl, hb1⟩; clear x0 x1; have HX1 := Lib.hid (box_after hb1 HX.out)
 cases hf : foundL l id with
 | false =>
   have HF : Hid (acL l id = ⟨id, 0, 0⟩) := by show _ = _; unfold acL; rw [if_neg (by rw [hf]; simp)]
   clear hf; go_wp2_with fail; go_ret2
   exact ⟨by rw [HF.out]; rfl, bnext HB.out hb1⟩
 | true =>
   have hp := found_lt hf
   have HF : Hid (acL l id = l[posL l id]) := by show _ = _; unfold acL; rw [if_pos hf, List.getD_eq_getElem?_getD, List.getElem?_eq_getElem hp]; rfl
   obtain ⟨b, off, rfl, hbl, -, hok, k0, k1, k2⟩ := acs_at ((accsR).keepB H.out hb1) (posL l id) hp; clear hf hok hbl; generalize l[posL l id] = x at *; generalize posL l id = p at *; have x0 := box_regrown HX1.out; have c1 := cell_in k1; have c2 := cell_in k2; clear k0 k1 k2; go_wp2_with fail
   refine wp_region_quiet_below (by kernel_rfl) (by kernel_rfl) ?_
   repeat (first | go_big_quiet_step (fail) | quiet_step (fail))
   refine wpQuiet_nil ?_
   intro wq hw'
   obtain ⟨⟨dq, osq⟩, hw''⟩ := hw'; have hbwq := below_regrown w1 dq osq; rw [← hw''] at hbwq; clear hw'' x0 c1 c2; go_wp2_with fail; go_ret2
   exact ⟨by rw [HF.out]; rfl, bnext HB.out (bnext hb1 hbwq)⟩
end Go.Proofs.YtphacfkcifpobaaGreatDoor
