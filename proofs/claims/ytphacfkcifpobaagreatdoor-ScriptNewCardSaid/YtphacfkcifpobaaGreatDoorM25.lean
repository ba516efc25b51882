/- A drawn region whose last operation stores what the region itself reads: the held condition is not asked for behind that operation. (The shape of Derived/OrdersHeld.) Nothing of the program is named here; no conditions. -/
import Derived.Test.YtphacfkcifpobaaGreatDoorM11
import Derived.Test.YtphacfkcifpobaaGreatDoorM22
import Derived.Test.YtphacfkcifpobaaGreatDoorM16
import Derived.Test.YtphacfkcifpobaaGreatDoorM24
import Derived.Test.YtphacfkcifpobaaGreatDoorChU
set_option maxRecDepth 100000
namespace Go.Proofs.YtphacfkcifpobaaGreatDoor
open Go.ChangeShapes Go.WideShapes Go.ChangeAt Go.RowKit
section
variable {P : Program} {md : Region.Mode} {ops : Array Oper} {Q : Exit → Act → World → Prop} {S : World → Prop} {last : Nat}
def wpAnyL (P : Program) (md : Region.Mode) (ops : Array Oper) (Q : Exit → Act → World → Prop) (S : World → Prop) (last : Nat) : Nat → Array Bool → Act → World → Prop
 | 0, listed, a, w => Region.ready md ops listed = [] ∧ Q .normal a w
 | fuel + 1, listed, a, w =>
   (Region.ready md ops listed = [] → Q .normal a w) ∧
   ∀ i ∈ Region.ready md ops listed, wpOp P ops Q i (fun a' w' => (i ≠ last → S w') ∧ wpAnyL P md ops Q S last fuel (listed.setIfInBounds i true) a' w') a w
theorem wpAny_of_last : ∀ (fuel : Nat) (listed : Array Bool) (a : Act) (w : World), wpAnyL P md ops Q S last fuel listed a w → wpAny P md ops Q fuel listed a w
 | 0, _, _, _, h => h
 | fuel + 1, _, _, _, h => ⟨h.1, fun i hi => wpOp_mono (fun a' w' h' => wpAny_of_last fuel _ a' w' h'.2) (h.2 i hi)⟩
def waits (md : Region.Mode) (ops : Array Oper) (last i : Nat) : Bool := ((ops[last]?).map fun o => o.after.any fun e => Region.binds md e && e.on == i).getD false
theorem wpAnyL_first {i : Nat} {oi : Oper} {v : Value} (hi : ops[i]? = some oi) (hil : i ≠ last) (hwt : waits md ops last i = true) (hsel : ∀ (j : Nat) (o : Oper) cs b, ops[j]? = some o → o.op ≠ .select cs b)
   (hQ : ∀ c a w, Q (.panic c) (a.put oi.dst v) w → Q (.panic c) a w) :
   ∀ (fuel : Nat) (listed : Array Bool) (a : Act) (w : World),
     (∀ j oj, ops[j]? = some oj → j ≠ i → listed.getD j true = false → (∀ e ∈ oj.after, Region.binds md e = true → e.on ≠ i) → oi.apart ops oj = true) →
     i ∈ Region.ready md ops listed → YieldsIf P ops S oi v a → S w →
     wpAnyL P md ops Q S last fuel (listed.setIfInBounds i true) (a.put oi.dst v) w → wpAnyL P md ops Q S last (fuel + 1) listed a w := by
 intro fuel
 induction fuel with
 | zero =>
   intro listed a w _ hr hy hS H
   refine ⟨fun h => (by rw [h] at hr; cases hr), fun j hj => ?_⟩
   by_cases hji : j = i
   · subst hji; exact hy.wpOp hi hS ⟨fun _ => hS, H⟩
   · have := ready_mono hj hji
     rw [H.1] at this
     cases this
 | succ fuel ih =>
   intro listed a w hfree hr hy hS H
   refine ⟨fun h => (by rw [h] at hr; cases hr), fun j hj => ?_⟩
   by_cases hji : j = i
   · subst hji; exact hy.wpOp hi hS ⟨fun _ => hS, H⟩
   · have h1 := H.2 j (ready_mono hj hji)
     obtain ⟨hjun, oj, hoj, hall⟩ := mem_ready.1 hj
     have hnot : ∀ e ∈ oj.after, Region.binds md e = true → e.on ≠ i := fun e he hb heq => by
       have h1 := hall e he hb; have h0 := (mem_ready.1 hr).1; rw [heq] at h1
       rcases Nat.lt_or_ge i listed.size with h' | h'
       · simp [h'] at h0 h1; rw [h0] at h1; cases h1
       · simp [Array.getElem?_eq_none h'] at h1
     have hjl : j ≠ last := fun e => by
       subst e; unfold waits at hwt; rw [hoj] at hwt
       simp only [Option.map_some, Option.getD_some] at hwt
       obtain ⟨e, he, hb⟩ := Array.any_eq_true'.1 hwt; rw [Bool.and_eq_true, beq_iff_eq] at hb
       exact hnot e he hb.1 hb.2
     have h2 := wpOp_putIf hoj (hfree j oj hoj hji hjun hnot) (fun cs b => hsel i oi cs b hi) (fun cs b => hsel j oj cs b hoj) hQ hy h1
     have hfree' : ∀ k ok, ops[k]? = some ok → k ≠ i → (listed.setIfInBounds j true).getD k true = false →
         (∀ e ∈ ok.after, Region.binds md e = true → e.on ≠ i) → oi.apart ops ok = true := fun k ok hk hki hun hno => by
       refine hfree k ok hk hki ?_ hno
       by_cases hjk : j = k
       · subst hjk; exact hjun
       · rw [getD_set_ne true hjk] at hun; exact hun
     refine wpOp_mono (fun a' w' h3 => ⟨h3.2.1, ih (listed.setIfInBounds j true) a' w' hfree' (ready_mono hr (Ne.symm hji)) h3.1 (h3.2.1 hjl) ?_⟩) h2
     rw [Array.setIfInBounds_comm _ _ hji]
     exact h3.2.2
theorem wpAnyL_done {listed : Array Bool} {a : Act} {w : World} (hr : Region.ready md ops listed = []) (h : Q .normal a w) : ∀ fuel, wpAnyL P md ops Q S last fuel listed a w
 | 0 => ⟨hr, h⟩
 | _ + 1 => ⟨fun _ => h, by rw [hr]; simp⟩
theorem wp_region_last {id : Nat} (last : Nat) {a : Act} {w : World} (hm : P.follows .mixedOrders = true) (hS : S w.drew)
   (h : S w.drew → wpAnyL P .any ops Q S last ops.size (Array.replicate ops.size false) a w.drew) : (Code.region id ops true).wp P Q a w :=
 wp_region_any hm (wpAny_of_last _ _ _ _ (h hS))
theorem tkYL (i : Nat) {oi : Oper} {v : Value} {fuel : Nat} {listed : Array Bool} {a : Act} {w : World} (hi : ops[i]? = some oi) (hy : YieldsIf P ops S oi v a)
   (h : wpAnyL P md ops Q S last fuel (listed.setIfInBounds i true) (a.put oi.dst v) w) (hS : S w := by assumption)
   (hc : (Region.noSelect ops && (Region.free md ops listed i && (Region.ready md ops listed).contains i)) = true := by as_aux_lemma => kernel_rfl)
   (hw : (i != last && waits md ops last i) = true := by as_aux_lemma => kernel_rfl)
   (hQ : ∀ c a w, Q (.panic c) (a.put oi.dst v) w → Q (.panic c) a w := by exact fun _ _ _ h => h) : wpAnyL P md ops Q S last (fuel + 1) listed a w := by
 rw [Bool.and_eq_true, Bool.and_eq_true] at hc; rw [Bool.and_eq_true, bne_iff_ne] at hw
 exact wpAnyL_first hi hw.1 hw.2 (Region.noSelect_spec hc.1) hQ fuel listed a w (Region.free_spec hi hc.2.1) (by simpa using hc.2.2) hy hS h
theorem tkVL (i : Nat) {oi : Oper} {v : Value} {fuel : Nat} {listed : Array Bool} {a : Act} {w : World} (hi : ops[i]? = some oi) (hy : ∀ w, S w → (execOp a.eval oi).run P w = .ok (.value v) w)
   (h : wpAnyL P md ops Q S last fuel (listed.setIfInBounds i true) (a.put oi.dst v) w) (hS : S w := by assumption) (hw : Region.wanted oi (yielded ops a.tmps) = true := by rfl)
   (hc : (Region.noSelect ops && (Region.free md ops listed i && (Region.ready md ops listed).contains i)) = true := by as_aux_lemma => kernel_rfl)
   (hwt : (i != last && waits md ops last i) = true := by as_aux_lemma => kernel_rfl)
   (hQ : ∀ c a w, Q (.panic c) (a.put oi.dst v) w → Q (.panic c) a w := by exact fun _ _ _ h => h) : wpAnyL P md ops Q S last (fuel + 1) listed a w :=
 tkYL i hi (.inl ⟨hw, hy⟩) h hS hc hwt hQ
def AllReadyL (P : Program) (md : Region.Mode) (ops : Array Oper) (Q : Exit → Act → World → Prop) (S : World → Prop) (last fuel : Nat) (listed : Array Bool) (a : Act) (w : World) (rs : List Nat) : Prop :=
 ∀ i ∈ rs, wpOp P ops Q i (fun a' w' => (i ≠ last → S w') ∧ wpAnyL P md ops Q S last fuel (listed.setIfInBounds i true) a' w') a w
theorem AllReadyL.cons {fuel : Nat} {listed : Array Bool} {a : Act} {w : World} {i : Nat} {o : Oper} {rs : List Nat} (ho : ops[i]? = some o)
   (h : ∀ K' : Act → World → Prop, Shut (∀ a w, S w → (S w → wpAnyL P md ops Q S last fuel (listed.setIfInBounds i true) a w) → K' a w) → if Region.wanted o (yielded ops a.tmps) = true then Oper.wp P o a w K' Q else K' (a.put o.dst undef) w)
   (hs : AllReadyL P md ops Q S last fuel listed a w rs) : AllReadyL P md ops Q S last fuel listed a w (i :: rs) := fun j hj => by
 rcases List.mem_cons.1 hj with rfl | hj
 · exact wpOp_step ho (fun K' hK => h K' (fun a w hS hW => hK a w ⟨fun _ => hS, hW hS⟩))
 · exact hs j hj
theorem rd1L (i : Nat) {o : Oper} {fuel : Nat} {listed : Array Bool} {a : Act} {w : World} (ho : ops[i]? = some o) (h : (∀ K' : Act → World → Prop, Shut (∀ a w, S w → (S w → wpAnyL P md ops Q S last fuel (listed.setIfInBounds i true) a w) → K' a w) → if Region.wanted o (yielded ops a.tmps) = true then Oper.wp P o a w K' Q else K' (a.put o.dst undef) w)) (hr : Region.ready md ops listed = [i] := by as_aux_lemma => kernel_rfl) : wpAnyL P md ops Q S last (fuel + 1) listed a w :=
 ⟨fun h0 => absurd (hr ▸ h0) (by simp), hr ▸ AllReadyL.cons ho h fun _ h => by cases h⟩
theorem rdL {o : Oper} {fuel : Nat} {listed : Array Bool} {a : Act} {w : World} (ho : ops[last]? = some o) (h : (∀ K' : Act → World → Prop, Shut (∀ a w, wpAnyL P md ops Q S last fuel (listed.setIfInBounds last true) a w → K' a w) → if Region.wanted o (yielded ops a.tmps) = true then Oper.wp P o a w K' Q else K' (a.put o.dst undef) w)) (hr : Region.ready md ops listed = [last] := by as_aux_lemma => kernel_rfl) : wpAnyL P md ops Q S last (fuel + 1) listed a w :=
 ⟨fun h0 => absurd (hr ▸ h0) (by simp), fun j hj => by
   rw [hr] at hj
   rcases List.mem_cons.1 hj with rfl | hj
   · exact wpOp_step ho (fun K' hK => h K' (fun a w hW => hK a w ⟨fun h => absurd rfl h, hW⟩))
   · cases hj⟩
end
end Go.Proofs.YtphacfkcifpobaaGreatDoor
/- Script: wallets without notes: Height, fits, Apply of a block without transactions. -/
namespace Go.Proofs.YtphacfkcifpobaaGreatDoor
open Go.ChangeShapes Go.WideShapes Go.ChangeAt Go.RowKit Go.Sort
section
variable {O : Nat → Prop} {w : World} {p op n : Nat} {r : RuM} {seed : Int} {F : Nat → Prop}
theorem sc_rel (S : Nat → Prop) (w : World) : scR.rel S w [.int .i64 0, .int .i64 0, .slice none 0 0] () := rfl
theorem wal_parts (h : (walA (O := O) p op r seed n).rel F w) : ∃ (lp c : Nat) (a : Option Addr), w.heap[p]? = some (.cells (walC op r seed lp (.slice a n c)) 92 (0, 0)) ∧ ∃ G, (tlA (O := O) lp r.depth.toNat).rel G w := by
 obtain ⟨⟨lp, v⟩, G1, -, ⟨-, hb⟩, G2, -, ht, G3, -, ho, -⟩ := h; obtain ⟨a, c, rfl, -, -⟩ := sliceR.form (Own.slice ho); rw [List.length_replicate] at hb
 exact ⟨lp, c, a, hb, G2, ht⟩
theorem wal_fr {L : List (Asn O)} {F0 : Nat → Prop} {w0 w : World} {lp c B : Nat} {a : Option Addr} {cs : Array Value} {t : TypeId} (h : Fr (boxA B cs t :: boxA p (walC op r seed lp (.slice a n c)) 92 :: tlA lp r.depth.toNat :: ownA scR 0 439 (.slice a n c) (List.replicate n ()) :: L) F0 w0 w) : (walA (O := O) p op r seed n).rel (fun _ => True) w := by
 have h1 : Fr (walL p op r seed n (lp, .slice a n c) ++ L) F0 w0 w := h.drop i0
 exact (walA p op r seed n).mono ⟨(lp, _), h1.bind.get i0⟩ fun _ _ _ => trivial
theorem walHeight_any (w : World) (h : (walA (O := O) p op r seed n).rel F w) : Calls Tryz.prog 261 #[.pointer (some ⟨p, 0, none⟩)] w fun e w' => e = .returned (.int .i64 n) ∧ Below w.heap.size w w' := by
 obtain ⟨lp, c, a, hb, -⟩ := wal_parts h; obtain ⟨x0, x1⟩ := box_cells hb; clear h hb
 go_enter Tryz.func261, Tryz.ntmps261
 go_wp2_with fail; go_ret
 exact ⟨rfl, Below.refl _ _⟩
set_option maxHeartbeats 1000000 in
theorem walFits_any (w : World) (h : (walA (O := O) p op r seed n).rel F w) (hd : 1 ≤ r.depth ∧ r.depth ≤ 12) (hn : n ≤ 100000) (pa mi wk no : Int) (xa : Option Addr) (xc : Nat) :
   Calls Tryz.prog 324 #[.pointer (some ⟨p, 0, none⟩), .agg #[.int .u64 pa, .int .i64 ((n : Int) + 1), .int .u64 mi, .int .u64 wk, .int .u64 no, .slice xa 0 xc]] w fun e w' => e = .returned (.int .i64 0) ∧ Below w.heap.size w w' := by
 obtain ⟨lp, c, a, hb, G, ht⟩ := wal_parts h; have HB := Lib.hid (bnew (Below.refl w.heap.size w) (.cells #[.int .u64 pa, .int .i64 ((n : Int) + 1), .int .u64 mi, .int .u64 wk, .int .u64 no, .slice xa 0 xc] 177)); have HX := Lib.hid (box_new w (.cells #[.int .u64 pa, .int .i64 ((n : Int) + 1), .int .u64 mi, .int .u64 wk, .int .u64 no, .slice xa 0 xc] 177)); have HP := Lib.hid (box_old (o' := .cells #[.int .u64 pa, .int .i64 ((n : Int) + 1), .int .u64 mi, .int .u64 wk, .int .u64 no, .slice xa 0 xc] 177) hb); have HT := Lib.hid ((tlA (O := O) lp r.depth.toNat).keep ht (Kept.of_below (bnew (Below.refl w.heap.size w) (.cells #[.int .u64 pa, .int .i64 ((n : Int) + 1), .int .u64 mi, .int .u64 wk, .int .u64 no, .slice xa 0 xc] 177)))); have HD := Lib.hid hd
 have hwk : wrap64 ((n : Int) + 1) = (n : Int) + 1 := by unfold wrap64; omega
 clear h hb ht
 go_enter Tryz.func324, Tryz.ntmps324
 go_upto_region 1 with (fail)
 obtain ⟨W, hW⟩ : ∃ x, w.alloc (.cells #[.int .u64 pa, .int .i64 ((n : Int) + 1), .int .u64 mi, .int .u64 wk, .int .u64 no, .slice xa 0 xc] 177) = x := ⟨_, rfl⟩; obtain ⟨B, hB⟩ : ∃ x, w.heap.size = x := ⟨_, rfl⟩; rw [hW] at HB HX HP HT ⊢; rw [hB] at HX ⊢; clear hW hd; obtain ⟨x0, x1⟩ := box_cells HX.out; obtain ⟨y0, y1⟩ := box_cells HP.out
 simp only [walC] at y0
 go_wp2_with fail
 go_region
 go_wp2_with fail
 -- MARK1
 refine (tlCount_any _ ((tlA (O := O) lp r.depth.toNat).keep HT.out (Kept.of_below (Below.refl _ _).drew)) (by have := HD.out; omega) (by have := HD.out; omega)).mono ?_
 rintro e w2 ⟨rfl, hb2⟩; have hbw : Below W.heap.size W w2 := (Below.refl _ _).drew.trans hb2; have HB2 := Lib.hid (bnext HB.out hbw); have HX2 := Lib.hid (box_after hbw HX.out); have HP2 := Lib.hid (box_after hbw HP.out); clear hb2 hbw x0 x1 y0 y1 HX HP HT HB hB; obtain ⟨x0, x1⟩ := box_cells HX2.out; obtain ⟨y0, y1⟩ := box_cells HP2.out
 simp only [walC] at y0
 obtain ⟨D, hD⟩ : ∃ D : Nat, r.depth = D := Int.eq_ofNat_of_zero_le (by have := HD.out; omega)
 simp only [hD] at y0
 obtain ⟨P2, hP2⟩ : ∃ P2 : Int, (2 : Int) ^ D = P2 := ⟨_, rfl⟩
 obtain ⟨e5, e7⟩ := shl_fact D (by have := HD.out; rw [hD] at this; clear hP2; omega) hP2
 have e8 : decide (P2 < 0) = false := decide_eq_false (by rw [← hP2]; exact Int.not_lt.2 (Int.pow_nonneg (by omega)))
 clear hP2 hD e7; go_wp2_with fail
 refine wp_loop_rounds 1 ?_
 rw [rounds_succ]; go_wp2_with fail
 -- MARK2
 go_ret
 exact ⟨rfl, HB2.out⟩
set_option maxHeartbeats 2000000 in
theorem walApply_fr {L E : List (Asn O)} {f : Asn O → List (Asn O)} {F0 : Nat → Prop} {w0 w : World} (h : Fr L F0 w0 w) (ix : In L (walA p op r seed n) f E) (hd : 1 ≤ r.depth ∧ r.depth ≤ 12) (hn : n ≤ 100000) (pa mi wk no : Int) (xa : Option Addr) (xc : Nat) :
   Calls Tryz.prog 264 #[.pointer (some ⟨p, 0, none⟩), .agg #[.int .u64 pa, .int .i64 ((n : Int) + 1), .int .u64 mi, .int .u64 wk, .int .u64 no, .slice xa 0 xc]] w fun e w' => e = .returned (.int .i64 0) ∧ Fr (f (walA p op r seed (n + 1))) F0 w0 w' := by
 obtain ⟨G, ⟨⟨lp, v⟩, hx⟩, -, hin, hcl⟩ := h.sub ix; have hf := hin _ hx; have hbv := hf.box i0; obtain ⟨a, c, rfl, -, -⟩ := sliceR.form (Own.slice (hf.get i2)); rw [List.length_replicate] at hbv hf hx; have hf0 := hf.alloc #[.int .u64 pa, .int .i64 ((n : Int) + 1), .int .u64 mi, .int .u64 wk, .int .u64 no, .slice xa 0 xc] 177; have HF := Lib.hid hf0; have HCL := Lib.hid hcl; have HD := Lib.hid hd; have HN := Lib.hid hn; clear hx hin hf hf0 hbv hcl h ix hd hn
 go_enter Tryz.func264, Tryz.ntmps264
 go_upto_region 1 with (fail)
 obtain ⟨W, hW⟩ : ∃ x, w.alloc (.cells #[.int .u64 pa, .int .i64 ((n : Int) + 1), .int .u64 mi, .int .u64 wk, .int .u64 no, .slice xa 0 xc] 177) = x := ⟨_, rfl⟩; obtain ⟨B, hB⟩ : ∃ x, w.heap.size = x := ⟨_, rfl⟩; rw [hW, hB] at HF; rw [hW, hB]; have HFW := HF; clear hW hB HF
 go_wp2_with (refine wpList_load_row rfl _ _ rfl B rfl _ _ _ _ (HFW.out.box i0) Tryz.underlying177 rfl (by kernel_rfl) ?_)
 refine (walFits_any W (wal_fr HFW.out) HD.out HN.out pa mi wk no xa xc).mono ?_
 rintro e w3 ⟨rfl, hb3⟩; have HF3 := Lib.hid (HFW.out.keepB hb3); clear hb3 HFW
 go_upto_region 4 with (fail)
 -- MARK4
 have HFwg00 := Lib.hid (HF3.out.drew); have hS0 : Hid ((Held [(p, (walC op r seed lp (.slice a n c)), 92)] []) w3.drew) := Held.keepB (⟨⟨HF3.out.box i1, trivial⟩, trivial⟩) (Below.refl _ _).drew
 refine wp_region_held_drew (S := (Held [(p, (walC op r seed lp (.slice a n c)), 92)] [])) (by kernel_rfl) hS0.out (fun hHeld => ?_)
 obtain ⟨wg0, hwd⟩ : ∃ x, w3.drew = x := ⟨_, rfl⟩; rw [hwd] at hHeld HFwg00 ⊢; have HFwg0 := HFwg00; clear hwd HFwg00 hS0
 go_simp
 refine tkV 0 rfl (fun wz hSz => by go_simp; all_goals with_reducible rfl) ?_
 go_simp
 refine tkV 1 rfl (fun wz hSz => by go_simp; all_goals with_reducible rfl) ?_
 go_simp
 refine tkV 2 rfl (fun wz hSz => by go_simp; all_goals with_reducible rfl) ?_
 go_simp
 refine tkV 3 rfl (fun wz hSz => by have cx := (box_cells hSz.b.1).1; go_simp; all_goals with_reducible rfl) ?_
 go_simp
 refine tkV 5 rfl (fun wz hSz => by go_simp; all_goals with_reducible rfl) ?_
 go_simp
 refine tkV 6 rfl (fun wz hSz => by go_simp; all_goals with_reducible rfl) ?_
 go_simp
 refine tkV 7 rfl (fun wz hSz => by go_simp; all_goals with_reducible rfl) ?_
 go_simp
 refine tkV 8 rfl (fun wz hSz => by have cx := (box_cells hSz.b.1).1; go_simp; all_goals with_reducible rfl) ?_
 go_simp
 refine tkV 9 rfl (fun wz hSz => by go_simp; all_goals with_reducible rfl) ?_
 go_simp
 refine rd2 4 11 rfl rfl (fun K hK => ?_) (fun K hK => ?_)
 · skip
   go_simp
   refine (tlCount_any wg0 (HFwg0.out.get i2) (by have := HD.out; omega) (by have := HD.out; omega)).mono ?_
   rintro E wg1 ⟨rfl, hb⟩; have HFwg1 := Lib.hid (HFwg0.out.keepB hb); clear hHeld hb
   refine hK.out _ _ (⟨⟨HFwg1.out.box i1, trivial⟩, trivial⟩) (fun hHeld => ?_)
   clear hK K
   go_simp
   refine tkV 10 rfl (fun wz hSz => by go_simp; all_goals with_reducible rfl) ?_
   go_simp
   refine rd1 11 rfl (fun K hK => ?_)
   go_simp
   have hfa := HFwg1.out.alloc #[.int .i64 0, .int .i64 0, .slice none 0 0] 439; obtain ⟨bs, hbn⟩ : ∃ x, wg1.heap.size = x := ⟨_, rfl⟩; rw [hbn] at hfa
   try rw [hbn]
   obtain ⟨wg2, hw⟩ : ∃ x, wg1.alloc (.cells #[.int .i64 0, .int .i64 0, .slice none 0 0] 439) = x := ⟨_, rfl⟩; rw [hw] at hfa ⊢; have HFwg2 := Lib.hid hfa; clear hHeld hfa hw hbn
   refine hK.out _ _ (⟨⟨HFwg2.out.box i2, trivial⟩, trivial⟩) (fun hHeld => ?_)
   clear hK K
   go_simp
   refine rd1 12 rfl (fun K hK => ?_)
   refine step_store_row rfl _ _ _ rfl (bs) _ rfl rfl _ _ (HFwg2.out.box i0) (by kernel_rfl) rfl (by kernel_rfl) ?_
   have hfa := HFwg2.out.setRow i0 #[.int .i64 0, .int .i64 0, .slice none 0 0]
   change K _ (wg2.setRow (bs) #[.int .i64 0, .int .i64 0, .slice none 0 0])
   obtain ⟨wg3, hw⟩ : ∃ x, wg2.setRow (bs) #[.int .i64 0, .int .i64 0, .slice none 0 0] = x := ⟨_, rfl⟩; rw [hw] at hfa ⊢; have HFwg3 := Lib.hid hfa; clear hHeld hfa hw
   refine hK.out _ _ (⟨⟨HFwg3.out.box i2, trivial⟩, trivial⟩) (fun hHeld => ?_)
   clear hK K
   go_simp
   clear hHeld
   refine wpAnyH_done (by kernel_rfl) ?_ _
   have HFK := HFwg3; obtain ⟨wK, hwk⟩ : ∃ x, wg3 = x := ⟨_, rfl⟩; rw [hwk] at HFK ⊢; clear hwk HFwg3; have hbo := (box_cells (HFK.out.box i1)).1; go_wp2_with fail
   refine wp_loop_rounds 1 ?_
   rw [rounds_succ]
   go_upto_region 11 with (fail)
   clear hbo
   -- MARK5
   have HFwk00 := Lib.hid (HFK.out.drew); have hS0 : Hid ((Held [(p, (walC op r seed lp (.slice a n c)), 92), (bs, #[.int .i64 0, .int .i64 0, .slice none 0 0], 439)] []) wK.drew) := Held.keepB (⟨⟨HFK.out.box i2, HFK.out.box i0, trivial⟩, trivial⟩) (Below.refl _ _).drew
   refine wp_region_last 10 (S := (Held [(p, (walC op r seed lp (.slice a n c)), 92), (bs, #[.int .i64 0, .int .i64 0, .slice none 0 0], 439)] [])) (by kernel_rfl) hS0.out (fun hHeld => ?_)
   obtain ⟨wk0, hwd⟩ : ∃ x, wK.drew = x := ⟨_, rfl⟩; rw [hwd] at hHeld HFwk00 ⊢; have HFwk0 := HFwk00; clear hwd HFwk00 hS0
   go_simp
   refine tkVL 0 rfl (fun wz hSz => by go_simp; all_goals with_reducible rfl) ?_
   go_simp
   refine tkVL 1 rfl (fun wz hSz => by go_simp; all_goals with_reducible rfl) ?_
   go_simp
   refine tkVL 2 rfl (fun wz hSz => by go_simp; all_goals with_reducible rfl) ?_
   go_simp
   refine tkVL 3 rfl (fun wz hSz => by go_simp; all_goals with_reducible rfl) ?_
   go_simp
   refine tkVL 4 rfl (fun wz hSz => by have cx := (box_cells hSz.b.1).1; go_simp; all_goals with_reducible rfl) ?_
   go_simp
   refine tkYL 5 rfl (yieldsIf_load_mid (by rfl) _ _ rfl (bs) 0 rfl [.int .i64 0, .int .i64 0, .slice none 0 0] _ (fun wz hSz => range_box hSz.b.2.1) Tryz.underlying439 rfl (by kernel_rfl)) ?_
   go_simp
   refine rd1L 6 rfl (fun K hK => ?_)
   go_simp
   have hfa := (HFwk0.out.new (A := repA scR [.int .i64 0, .int .i64 0, .slice none 0 0] ()) (Below.refl _ _) (sc_rel (fun k => wk0.heap.size ≤ k) wk0)).keepB (bnew (Below.refl _ _) (.cells #[.int .i64 0, .int .i64 0, .slice none 0 0] 439))
   have hcu : CellsAt (wk0.alloc (.cells #[.int .i64 0, .int .i64 0, .slice none 0 0] 439)) wk0.heap.size 0 [.int .i64 0, .int .i64 0, .slice none 0 0] := CellsAt.new _ [.int .i64 0, .int .i64 0, .slice none 0 0] 439; obtain ⟨buwg1, hbu⟩ : ∃ x, wk0.heap.size = x := ⟨_, rfl⟩; rw [hbu] at hcu
   try rw [hbu]
   obtain ⟨wg1, hw⟩ : ∃ x, wk0.alloc (.cells #[.int .i64 0, .int .i64 0, .slice none 0 0] 439) = x := ⟨_, rfl⟩; rw [hw] at hfa hcu ⊢; have HFwg1 := Lib.hid hfa; have HCUwg1 := Lib.hid hcu; clear hHeld hfa hcu hw hbu
   refine hK.out _ _ (⟨⟨HFwg1.out.box i3, HFwg1.out.box i1, trivial⟩, trivial⟩) (fun hHeld => ?_)
   clear hK K
   go_simp
   refine rd1L 7 rfl (fun K hK => ?_)
   refine step_appF rfl _ _ rfl Tryz.etyScan HFwg1.out i4 HCUwg1.out rfl rfl (by rw [List.length_replicate]) (by have := HN.out; unfold maxLen; omega) (by have := HN.out; omega) (Nat.zero_le _) ?_
   intro awg2 cwg2 wg2 hfa
   have HFwg2 := Lib.hid hfa; clear hHeld hfa
   refine hK.out _ _ (⟨⟨HFwg2.out.box i2, HFwg2.out.box i0, trivial⟩, trivial⟩) (fun hHeld => ?_)
   clear hK K
   go_simp
   refine rd1L 8 rfl (fun K hK => ?_)
   go_simp
   have hS2 := Lib.hid hHeld; clear hHeld
   refine hK.out _ _ hS2.out (fun hHeld => ?_)
   clear hK K hS2
   go_simp
   refine rd1L 9 rfl (fun K hK => ?_)
   go_simp
   have hS2 := Lib.hid hHeld; clear hHeld
   refine hK.out _ _ hS2.out (fun hHeld => ?_)
   clear hK K hS2
   go_simp
   refine rdL rfl (fun K hK => ?_)
   obtain ⟨cx0, cx1⟩ := box_cells (HFwg2.out.box i2)
   go_simp
   have hfa := HFwg2.out.set i2 14 (.slice awg2 (n + 1) cwg2); obtain ⟨wg5, hw⟩ : ∃ x, wg2.setCell ⟨p, 14, none⟩ (.slice awg2 (n + 1) cwg2) = x := ⟨_, rfl⟩; rw [hw] at hfa ⊢; have HFwg5 := Lib.hid hfa; clear hfa hw cx0 cx1
   refine hK.out _ _ ?_
   clear hK K
   go_simp
   clear hHeld
   refine wpAnyL_done (by kernel_rfl) ?_ _
   go_wp2_with fail; go_ret
   have hfe : Fr (O := O) (walL p op r seed (n + 1) (lp, .slice awg2 (n + 1) cwg2)) G w wg5 := by
     have h1 := (HFwg5.out.drop i0).drop i0; unfold walL; rw [show List.replicate (n + 1) () = List.replicate n () ++ [()] from List.replicate_succ']
     exact h1
   exact ⟨rfl, HCL.out (walA p op r seed (n + 1)) _ _ (fun F w h => ⟨_, h⟩) hfe⟩
 · skip
   go_simp
   have hfa := HFwg0.out.alloc #[.int .i64 0, .int .i64 0, .slice none 0 0] 439; obtain ⟨bs, hbn⟩ : ∃ x, wg0.heap.size = x := ⟨_, rfl⟩; rw [hbn] at hfa
   try rw [hbn]
   obtain ⟨wg4, hw⟩ : ∃ x, wg0.alloc (.cells #[.int .i64 0, .int .i64 0, .slice none 0 0] 439) = x := ⟨_, rfl⟩; rw [hw] at hfa ⊢; have HFwg4 := Lib.hid hfa; clear hHeld hfa hw hbn
   refine hK.out _ _ (⟨⟨HFwg4.out.box i2, trivial⟩, trivial⟩) (fun hHeld => ?_)
   clear hK K
   go_simp
   refine rd1 4 rfl (fun K hK => ?_)
   go_simp
   refine (tlCount_any wg4 (HFwg4.out.get i3) (by have := HD.out; omega) (by have := HD.out; omega)).mono ?_
   rintro E wg5 ⟨rfl, hb⟩; have HFwg5 := Lib.hid (HFwg4.out.keepB hb); clear hHeld hb
   refine hK.out _ _ (⟨⟨HFwg5.out.box i2, trivial⟩, trivial⟩) (fun hHeld => ?_)
   clear hK K
   go_simp
   refine tkV 10 rfl (fun wz hSz => by go_simp; all_goals with_reducible rfl) ?_
   go_simp
   refine rd1 12 rfl (fun K hK => ?_)
   refine step_store_row rfl _ _ _ rfl (bs) _ rfl rfl _ _ (HFwg5.out.box i0) (by kernel_rfl) rfl (by kernel_rfl) ?_
   have hfa := HFwg5.out.setRow i0 #[.int .i64 0, .int .i64 0, .slice none 0 0]
   change K _ (wg5.setRow (bs) #[.int .i64 0, .int .i64 0, .slice none 0 0])
   obtain ⟨wg6, hw⟩ : ∃ x, wg5.setRow (bs) #[.int .i64 0, .int .i64 0, .slice none 0 0] = x := ⟨_, rfl⟩; rw [hw] at hfa ⊢; have HFwg6 := Lib.hid hfa; clear hHeld hfa hw
   refine hK.out _ _ (⟨⟨HFwg6.out.box i2, trivial⟩, trivial⟩) (fun hHeld => ?_)
   clear hK K
   go_simp
   clear hHeld
   refine wpAnyH_done (by kernel_rfl) ?_ _
   have HFK := HFwg6; obtain ⟨wK, hwk⟩ : ∃ x, wg6 = x := ⟨_, rfl⟩; rw [hwk] at HFK ⊢; clear hwk HFwg6; have hbo := (box_cells (HFK.out.box i1)).1; go_wp2_with fail
   refine wp_loop_rounds 1 ?_
   rw [rounds_succ]
   go_upto_region 11 with (fail)
   clear hbo
   -- MARK5
   have HFwk00 := Lib.hid (HFK.out.drew); have hS0 : Hid ((Held [(p, (walC op r seed lp (.slice a n c)), 92), (bs, #[.int .i64 0, .int .i64 0, .slice none 0 0], 439)] []) wK.drew) := Held.keepB (⟨⟨HFK.out.box i2, HFK.out.box i0, trivial⟩, trivial⟩) (Below.refl _ _).drew
   refine wp_region_last 10 (S := (Held [(p, (walC op r seed lp (.slice a n c)), 92), (bs, #[.int .i64 0, .int .i64 0, .slice none 0 0], 439)] [])) (by kernel_rfl) hS0.out (fun hHeld => ?_)
   obtain ⟨wk0, hwd⟩ : ∃ x, wK.drew = x := ⟨_, rfl⟩; rw [hwd] at hHeld HFwk00 ⊢; have HFwk0 := HFwk00; clear hwd HFwk00 hS0
   go_simp
   refine tkVL 0 rfl (fun wz hSz => by go_simp; all_goals with_reducible rfl) ?_
   go_simp
   refine tkVL 1 rfl (fun wz hSz => by go_simp; all_goals with_reducible rfl) ?_
   go_simp
   refine tkVL 2 rfl (fun wz hSz => by go_simp; all_goals with_reducible rfl) ?_
   go_simp
   refine tkVL 3 rfl (fun wz hSz => by go_simp; all_goals with_reducible rfl) ?_
   go_simp
   refine tkVL 4 rfl (fun wz hSz => by have cx := (box_cells hSz.b.1).1; go_simp; all_goals with_reducible rfl) ?_
   go_simp
   refine tkYL 5 rfl (yieldsIf_load_mid (by rfl) _ _ rfl (bs) 0 rfl [.int .i64 0, .int .i64 0, .slice none 0 0] _ (fun wz hSz => range_box hSz.b.2.1) Tryz.underlying439 rfl (by kernel_rfl)) ?_
   go_simp
   refine rd1L 6 rfl (fun K hK => ?_)
   go_simp
   have hfa := (HFwk0.out.new (A := repA scR [.int .i64 0, .int .i64 0, .slice none 0 0] ()) (Below.refl _ _) (sc_rel (fun k => wk0.heap.size ≤ k) wk0)).keepB (bnew (Below.refl _ _) (.cells #[.int .i64 0, .int .i64 0, .slice none 0 0] 439))
   have hcu : CellsAt (wk0.alloc (.cells #[.int .i64 0, .int .i64 0, .slice none 0 0] 439)) wk0.heap.size 0 [.int .i64 0, .int .i64 0, .slice none 0 0] := CellsAt.new _ [.int .i64 0, .int .i64 0, .slice none 0 0] 439; obtain ⟨buwg1, hbu⟩ : ∃ x, wk0.heap.size = x := ⟨_, rfl⟩; rw [hbu] at hcu
   try rw [hbu]
   obtain ⟨wg1, hw⟩ : ∃ x, wk0.alloc (.cells #[.int .i64 0, .int .i64 0, .slice none 0 0] 439) = x := ⟨_, rfl⟩; rw [hw] at hfa hcu ⊢; have HFwg1 := Lib.hid hfa; have HCUwg1 := Lib.hid hcu; clear hHeld hfa hcu hw hbu
   refine hK.out _ _ (⟨⟨HFwg1.out.box i3, HFwg1.out.box i1, trivial⟩, trivial⟩) (fun hHeld => ?_)
   clear hK K
   go_simp
   refine rd1L 7 rfl (fun K hK => ?_)
   refine step_appF rfl _ _ rfl Tryz.etyScan HFwg1.out i4 HCUwg1.out rfl rfl (by rw [List.length_replicate]) (by have := HN.out; unfold maxLen; omega) (by have := HN.out; omega) (Nat.zero_le _) ?_
   intro awg2 cwg2 wg2 hfa
   have HFwg2 := Lib.hid hfa; clear hHeld hfa
   refine hK.out _ _ (⟨⟨HFwg2.out.box i2, HFwg2.out.box i0, trivial⟩, trivial⟩) (fun hHeld => ?_)
   clear hK K
   go_simp
   refine rd1L 8 rfl (fun K hK => ?_)
   go_simp
   have hS2 := Lib.hid hHeld; clear hHeld
   refine hK.out _ _ hS2.out (fun hHeld => ?_)
   clear hK K hS2
   go_simp
   refine rd1L 9 rfl (fun K hK => ?_)
   go_simp
   have hS2 := Lib.hid hHeld; clear hHeld
   refine hK.out _ _ hS2.out (fun hHeld => ?_)
   clear hK K hS2
   go_simp
   refine rdL rfl (fun K hK => ?_)
   obtain ⟨cx0, cx1⟩ := box_cells (HFwg2.out.box i2)
   go_simp
   have hfa := HFwg2.out.set i2 14 (.slice awg2 (n + 1) cwg2); obtain ⟨wg5, hw⟩ : ∃ x, wg2.setCell ⟨p, 14, none⟩ (.slice awg2 (n + 1) cwg2) = x := ⟨_, rfl⟩; rw [hw] at hfa ⊢; have HFwg5 := Lib.hid hfa; clear hfa hw cx0 cx1
   refine hK.out _ _ ?_
   clear hK K
   go_simp
   clear hHeld
   refine wpAnyL_done (by kernel_rfl) ?_ _
   go_wp2_with fail; go_ret
   have hfe : Fr (O := O) (walL p op r seed (n + 1) (lp, .slice awg2 (n + 1) cwg2)) G w wg5 := by
     have h1 := (HFwg5.out.drop i0).drop i0; unfold walL; rw [show List.replicate (n + 1) () = List.replicate n () ++ [()] from List.replicate_succ']
     exact h1
   exact ⟨rfl, HCL.out (walA p op r seed (n + 1)) _ _ (fun F w h => ⟨_, h⟩) hfe⟩
end
end Go.Proofs.YtphacfkcifpobaaGreatDoor
/- Script: a wallet that has scanned nothing follows one block. -/
namespace Go.Proofs.YtphacfkcifpobaaGreatDoor
open Go.ChangeShapes Go.WideShapes Go.ChangeAt Go.RowKit Go.Sort
set_option maxHeartbeats 1000000 in
theorem common0_any (w : World) (a a2 : Option Addr) (c n2 c2 : Nat) :
   Calls Tryz.prog 262 #[.slice a 0 c, .slice a2 n2 c2] w fun e w' => e = .returned (.int .i64 0) ∧ Below w.heap.size w w' := by
 go_enter Tryz.func262, Tryz.ntmps262
 go_wp2_with fail
 refine wp_loop_rounds 1 ?_
 rw [rounds_succ]; go_wp2_with fail
 go_region
 go_wp2_with fail
 -- MARK1
 go_ret
 exact ⟨rfl, (Below.refl _ _).drew⟩
theorem offer0_any (w : World) (p : Nat) (a : Option Addr) (c : Nat) :
   Calls Tryz.prog 206 #[.pointer (some ⟨p, 0, none⟩), .slice a 0 c] w fun e w' => e = .returned (.tuple #[]) ∧ Below w.heap.size w w' := by
 go_enter Tryz.func206, Tryz.ntmps206
 go_wp2_with fail
 refine wp_loop_rounds 1 ?_
 rw [rounds_succ]; go_wp2_with fail
 -- MARK2
 go_end0
 exact ⟨rfl, Below.refl _ _⟩
theorem walApply1_fr {O : Nat → Prop} {L E : List (Asn O)} {f : Asn O → List (Asn O)} {F0 : Nat → Prop} {w0 w : World} {p op : Nat} {r : RuM} {seed : Int} (h : Fr L F0 w0 w) (ix : In L (walA p op r seed 0) f E) (hd : 1 ≤ r.depth ∧ r.depth ≤ 12) (pa mi wk no : Int) (xa : Option Addr) (xc : Nat) :
   Calls Tryz.prog 264 #[.pointer (some ⟨p, 0, none⟩), .agg #[.int .u64 pa, .int .i64 1, .int .u64 mi, .int .u64 wk, .int .u64 no, .slice xa 0 xc]] w fun e w' => e = .returned (.int .i64 0) ∧ Fr (f (walA p op r seed 1)) F0 w0 w' := walApply_fr h ix hd (Nat.zero_le _) pa mi wk no xa xc
set_option maxHeartbeats 2000000 in
theorem follow1_fr {O S : Nat → Prop} {L E : List (Asn O)} {f : Asn O → List (Asn O)} {F0 : Nat → Prop} {w0 w : World} {p op : Nat} {r : RuM} {seed : Int} (h : Fr L F0 w0 w) (ix : In L (walA p op r seed 0) f E) (hd : 1 ≤ r.depth ∧ r.depth ≤ 12) (fa ta : Option Addr) (fc tc : Nat) (pa mi wk no : Int) (ht : blksR.rel S w [.slice ta 1 tc] [⟨pa, 1, mi, wk, no, []⟩]) :
   Calls Tryz.prog 205 #[.pointer (some ⟨p, 0, none⟩), .slice fa 0 fc, .slice ta 1 tc] w fun e w' => e = .returned (.tuple #[.int .i64 0, .int .i64 1, .int .i64 0]) ∧ Fr (f (walA p op r seed 1)) F0 w0 w' := by
 obtain ⟨tb, tof, xa, xc, rfl, htl, hbk, c0, c1, c2, c3, c4, c5⟩ := blks_at ht 0 (by simp)
 have HR : Hid (w.rangeAt tb tof [.int .u64 pa, .int .i64 1, .int .u64 mi, .int .u64 wk, .int .u64 no, .slice xa 0 xc]) := fun j v hv => by
   match j, hv with
   | 0, hv => simp at hv; subst hv; simpa using c0
   | 1, hv => simp at hv; subst hv; simpa using c1
   | 2, hv => simp at hv; subst hv; simpa using c2
   | 3, hv => simp at hv; subst hv; simpa using c3
   | 4, hv => simp at hv; subst hv; simpa using c4
   | 5, hv => simp at hv; subst hv; simpa using c5
   | j + 6, hv => simp at hv
 have HF := Lib.hid h; have HD := Lib.hid hd; clear c0 c1 c2 c3 c4 c5 hbk htl ht h hd
 go_enter Tryz.func205, Tryz.ntmps205
 go_wp2_with fail
 refine (walHeight_any w (HF.out.get ix)).mono ?_
 rintro e w1 ⟨rfl, hb1⟩; have HF1 := Lib.hid (HF.out.keepB hb1); have HR1 := Lib.hid (range_below HR.out hb1); clear hb1 HF HR; go_wp2_with fail
 refine (common0_any w1 fa (some ⟨tb, tof, none⟩) fc 1 tc).mono ?_
 rintro e w2 ⟨rfl, hb2⟩; have HF2 := Lib.hid (HF1.out.keepB hb2); have HR2 := Lib.hid (range_below HR1.out hb2); clear hb2 HF1 HR1; go_wp2_with fail
 refine wp_loop_rounds 1 ?_
 rw [rounds_succ]; go_wp2_with fail
 refine wp_loop_rounds 2 ?_
 rw [rounds_succ]; have HFB := Lib.hid (HF2.out.alloc #[.int .u64 pa, .int .i64 1, .int .u64 mi, .int .u64 wk, .int .u64 no, .slice xa 0 xc] 177)
 go_wp2_with (first | (refine wpList_load_mid rfl _ _ rfl tb tof (by first | rfl | simp) [.int .u64 pa, .int .i64 1, .int .u64 mi, .int .u64 wk, .int .u64 no, .slice xa 0 xc] _ HR2.out Tryz.underlying177 rfl (by kernel_rfl) ?_) | (refine wpList_load_row rfl _ _ rfl w2.heap.size rfl _ _ _ _ (HFB.out.box i0) Tryz.underlying177 rfl (by kernel_rfl) ?_))
 -- MARK9
 refine (walApply1_fr HFB.out (.s ix) HD.out pa mi wk no xa xc).mono ?_
 rintro e w3 ⟨rfl, hf3⟩; have HF3 := Lib.hid (hf3.drop i0); clear hf3 HFB HR2 HF2; go_wp2_with fail; rw [rounds_succ]; go_wp2_with fail
 go_ret3
 exact ⟨rfl, HF3.out⟩
end Go.Proofs.YtphacfkcifpobaaGreatDoor
/- Script: a node follows its first block; submits it. -/
namespace Go.Proofs.YtphacfkcifpobaaGreatDoor
open Go.ChangeShapes Go.WideShapes Go.ChangeAt Go.RowKit Go.Sort
section
variable {O : Nat → Prop}
set_option maxHeartbeats 2000000 in
theorem ndFollow_any {p op num nodes : Nat} {r : RuM} {seed : Int} {m : ChM} {x : NdV} {G : Nat → Prop} {w0 w : World} (hf : Fr (O := O) (ndL p op r num nodes seed m 0 x) G w0 w) (hd : 1 ≤ r.depth ∧ r.depth ≤ 12) (pa mi wk no id : Int) (hbest : m.best = [id]) (hkn : Known m [id]) (hbs : blksS m.L [id] = [⟨pa, 1, mi, wk, no, []⟩]) (ba : Option Addr) (bc : Nat) (h1 : ba = none → bc = 0) (h2 : bc ≤ maxLen) :
   Calls Tryz.prog 140 #[.pointer (some ⟨p, 0, none⟩), .slice ba 0 bc] w fun e w' => e = .returned (.tuple #[]) ∧ ∃ pp, Fr (O := O) (ndL p op r num nodes seed m 1 { x with pp := pp }) G w0 w' := by
 have HF := Lib.hid hf; have HDP := Lib.hid hd; have HBE := Lib.hid hbest; have HKN := Lib.hid hkn; have HBS := Lib.hid hbs; have HBN := Lib.hid h1; have HBC := Lib.hid h2; obtain ⟨x0, x1⟩ := box_cells (hf.box i0); obtain ⟨SB, PI, v, hch⟩ := chA_get hf i3; have HCH := Lib.hid hch; clear hf hd hbest hkn hbs h1 h2 hch
 go_enter Tryz.func140, Tryz.ntmps140
 go_wp2_with fail
 refine (best_any x.c SB PI w r m (blksS m.L m.best) v HCH.out (by rw [HBE.out]; simp)).mono ?_
 rintro e w1 ⟨u, rfl, ho, hb1⟩; rw [HBE.out] at ho; obtain ⟨aa, ac, rfl, -, -⟩ := sliceR.form (Own.slice ho)
 have HID : Hid (numsR.rel (fun k => w.heap.size ≤ k) w1 [.slice aa [id].length ac] [id]) := Own.slice ho
 have HF1 := Lib.hid (HF.out.keepB hb1); clear ho hb1 x0 x1 HF HCH; obtain ⟨SB, PI, v, hch⟩ := chA_get HF1.out i3; have HCH := Lib.hid hch; clear hch; go_wp2_with fail
 refine (ndBlocks_any (S := fun _ => True) w1 (HF1.out.box i0) HCH.out ba bc [] (nums0 HBN.out HBC.out _ _) (fun id h => by simp at h) (by simp)).mono ?_
 rintro e w3 ⟨fa, fc, rfl, -, hb3⟩; have HB3 := Lib.hid hb3; have HF3 := Lib.hid (HF1.out.keepB hb3); clear hb3 HF1 HCH
 go_upto_region 2 with (fail)
 -- MARK1
 have HBD : Hid (Below w1.heap.size w1 w3.drew) := HB3.out.drew; have HFwg00 := Lib.hid (HF3.out.drew); have hS0 : Hid ((Held [(p, (ndC op r num nodes seed x), 84)] []) w3.drew) := Held.keepB (⟨⟨HF3.out.box i0, trivial⟩, trivial⟩) (Below.refl _ _).drew
 refine wp_region_held_drew (S := (Held [(p, (ndC op r num nodes seed x), 84)] [])) (by kernel_rfl) hS0.out (fun hHeld => ?_)
 obtain ⟨wg0, hwd⟩ : ∃ x, w3.drew = x := ⟨_, rfl⟩; rw [hwd] at hHeld HFwg00 HBD ⊢; have HFwg0 := HFwg00; clear hwd HFwg00 hS0
 go_simp
 refine tkV 0 rfl (fun wz hSz => by go_simp; all_goals with_reducible rfl) ?_
 go_simp
 refine tkV 1 rfl (fun wz hSz => by go_simp; all_goals with_reducible rfl) ?_
 go_simp
 refine tkV 2 rfl (fun wz hSz => by go_simp; all_goals with_reducible rfl) ?_
 go_simp
 refine tkV 3 rfl (fun wz hSz => by have cx := (box_cells hSz.b.1).1; go_simp; all_goals with_reducible rfl) ?_
 go_simp
 refine tkV 4 rfl (fun wz hSz => by go_simp; all_goals with_reducible rfl) ?_
 go_simp
 refine tkV 5 rfl (fun wz hSz => by go_simp; all_goals with_reducible rfl) ?_
 go_simp
 refine tkV 6 rfl (fun wz hSz => by go_simp; all_goals with_reducible rfl) ?_
 go_simp
 refine rd1 7 rfl (fun K hK => ?_)
 go_simp
 obtain ⟨SB, PI, v, hch⟩ := chA_get HFwg0.out i3
 refine (ndBlocks_any wg0 (HFwg0.out.box i0) hch aa ac [id] (numsR.keepB HID.out HBD.out) HKN.out (by simp)).mono ?_
 rintro E wg1 ⟨ta, tc, rfl, hbl, hb⟩; rw [HBS.out] at hbl; have HBL := Lib.hid hbl; have HFwg1 := Lib.hid (HFwg0.out.keepB hb); clear hbl hch; clear hHeld hb
 refine hK.out _ _ (⟨⟨HFwg1.out.box i0, trivial⟩, trivial⟩) (fun hHeld => ?_)
 clear hK K
 go_simp
 refine rd1 8 rfl (fun K hK => ?_)
 go_simp
 refine (follow1_fr HFwg1.out i2 HDP.out fa ta fc tc pa mi wk no HBL.out).mono ?_
 rintro E wg2 ⟨rfl, hfe⟩; have HFwg2 := Lib.hid hfe; clear hHeld hfe HBL
 refine hK.out _ _ (⟨⟨HFwg2.out.box i0, trivial⟩, trivial⟩) (fun hHeld => ?_)
 clear hK K
 go_simp
 clear hHeld
 refine wpAnyH_done (by kernel_rfl) ?_ _
 have HFK := HFwg2; obtain ⟨wK, hwk⟩ : ∃ x, wg2 = x := ⟨_, rfl⟩; rw [hwk] at HFK ⊢; clear hwk HFwg2; obtain ⟨x0, x1⟩ := box_cells (HFK.out.box i0); go_wp2_with fail
 refine (mpList_any wK x.pp (HFK.out.box i1)).mono ?_
 rintro e w5 ⟨la, lc, rfl, hl1, hl2, hb5⟩; have HF5 := Lib.hid (HFK.out.keepB hb5); clear x0 x1 hl1 hl2 hb5 HFK; obtain ⟨x0, x1⟩ := box_cells (HF5.out.box i0); go_wp2_with fail
 refine (mpNew_any w5 1073741824 (by omega)).mono ?_
 rintro e w6 ⟨rfl, hw6⟩; have hfa := HF5.out.alloc #[.int .i64 1073741824, .slice none 0 0] 115; rw [← hw6] at hfa; obtain ⟨pp, hpp⟩ : ∃ z, w5.heap.size = z := ⟨_, rfl⟩; rw [hpp] at hfa; rw [hpp]; have HF6 := Lib.hid hfa; clear hfa hw6 hpp x0 x1 HF5; obtain ⟨x0, x1⟩ := box_cells (HF6.out.box i1)
 go_upto_region 5 with (fail)
 have HF7 : Hid (Fr (O := O) [boxA pp mpC 115, boxA p (ndC op r num nodes seed { x with pp := pp }) 84, boxA x.pp mpC 115, walA x.wp op r (seed % 18446744069414584321) 1, chA x.c r m] G w0 _) := HF6.out.set i1 15 (.pointer (some ⟨pp, 0, none⟩))
 obtain ⟨w7, hw7⟩ : ∃ z, w6.setCell ⟨p, 15, none⟩ (.pointer (some ⟨pp, 0, none⟩)) = z := ⟨_, rfl⟩; rw [hw7] at HF7 ⊢; have HF8 := HF7; clear hw7 HF7 HF6 x0 x1
 -- MARK6
 go_wp2_with fail
 refine wp_loop_rounds 1 ?_
 rw [rounds_succ]; go_wp2_with fail
 refine (offer0_any w7 p la lc).mono ?_
 rintro e w9 ⟨rfl, hb9⟩; have HF9 := Lib.hid (HF8.out.keepB hb9); clear hb9 HF8; go_wp2_with fail
 go_end0
 exact ⟨rfl, pp, ((HF9.out.drop i2).front i1)⟩
end
end Go.Proofs.YtphacfkcifpobaaGreatDoor
/- The example of the laws of chains in plain Lean: three blocks on one another, and one that contradicts the final block. -/
namespace Go.Proofs.YtphacfkcifpobaaGreatDoor
open Go.ChangeShapes Go.WideShapes Go.ChangeAt Go.RowKit Go.Sort
theorem newCh_ok (r : RuM) : ChOK r ⟨[], [], 0, 0⟩ :=
 ⟨fun e he => by simp at he, fun e he => by simp at he, fun e he => by simp at he, fun e he => by simp at he, fun e he => by simp at he, IsWay.nil _, RunOK.nil r, Nat.le_refl _, fun h => by simp at h⟩
theorem BlkIn.empty (S : Nat → Prop) (w : World) {p h mi wk : Int} (hp : okU p) (hh : okI h) (hmi : okU mi) (hw : okU wk) : BlkIn S w ⟨p, h, mi, wk, 0, []⟩ none 0 := ⟨hp, hh, hmi, hw, (by decide : okU 0), sliceR.nil⟩
end Go.Proofs.YtphacfkcifpobaaGreatDoor
/- Script: a node submits its first block. -/
namespace Go.Proofs.YtphacfkcifpobaaGreatDoor
open Go.ChangeShapes Go.WideShapes Go.ChangeAt Go.RowKit Go.Sort
theorem first_sub {r : RuM} (hf : 1 ≤ r.fin) {b : BlkM} (hb : b.height = 1) (ya : Option Addr) (yc : Nat) : cntU chM0 b = 0 ∧ cntA chM0 b = 1 ∧ subM r chM0 b ya yc = ⟨[⟨blkID b, b, totS chM0 b, ya, yc⟩], [blkID b], 0, 0⟩ := by
 have e : branF [] b = [] := by unfold branF; rw [hb]; rfl
 have hbt : betS chM0 b = true := rfl
 refine ⟨?_, ?_, ?_⟩
 · unfold cntU
   rw [if_pos hbt]
   show ((0 : Nat) : Int) - comN (branF [] b) [] = 0
   rw [e]
   rfl
 · unfold cntA
   rw [if_pos hbt]
   show ((branF [] b).length : Int) + 1 - comN (branF [] b) [] = 1
   rw [e]
   rfl
 · unfold subM
   rw [if_pos hbt]
   show finM r ⟨[⟨blkID b, b, totS chM0 b, ya, yc⟩], branF [] b ++ [blkID b], 0, 0⟩ = _
   rw [e]; unfold finM
   rw [if_neg (by simp; omega)]
   rfl
theorem first_known {r : RuM} (hf : 1 ≤ r.fin) {b : BlkM} (hb : b.height = 1) (ht : b.txs = []) (ya : Option Addr) (yc : Nat) : Known (subM r chM0 b ya yc) [blkID b] := by
 rw [(first_sub hf hb ya yc).2.2]
 intro id hid
 simp only [List.mem_singleton] at hid
 subst hid
 exact ⟨blkID_ok b, ⟨blkID b, b, totS chM0 b, ya, yc⟩, by simp, by simp [findS], ht⟩
theorem first_blks {r : RuM} (hf : 1 ≤ r.fin) {b : BlkM} (hb : b.height = 1) (ya : Option Addr) (yc : Nat) : blksS (subM r chM0 b ya yc).L [blkID b] = [b] := by
 rw [(first_sub hf hb ya yc).2.2]
 simp [blksS, blkS, findS]
section
variable {O : Nat → Prop}
set_option maxHeartbeats 2000000 in
theorem ndSubmit_any {p op num nodes : Nat} {r : RuM} {seed : Int} {x : NdV} {G : Nat → Prop} {w0 w : World} (hf : Fr (O := O) (ndL p op r num nodes seed chM0 0 x) G w0 w) (hr : RuOK r) (hmo : r.mode = 2) (pa mi wk no : Int) (xa : Option Addr) (xc : Nat) (hbk : Bk0 pa 1 mi wk no xa xc) (hz : subE r chM0 ⟨pa, 1, mi, wk, no, []⟩ = 0) :
   Calls Tryz.prog 84 #[.pointer (some ⟨p, 0, none⟩), .agg #[.int .u64 pa, .int .i64 1, .int .u64 mi, .int .u64 wk, .int .u64 no, .slice xa 0 xc]] w fun e w' => e = .returned (.int .i64 0) ∧ ∃ (ya : Option Addr) (yc pp : Nat), Fr (O := O) (ndL p op r num nodes seed (subM r chM0 ⟨pa, 1, mi, wk, no, []⟩ ya yc) 1 { x with pp := pp }) G w0 w' := by
 have hfa := hf.alloc #[.int .u64 pa, .int .i64 1, .int .u64 mi, .int .u64 wk, .int .u64 no, .slice xa 0 xc] 177; have HF := Lib.hid hfa; have HR := Lib.hid hr; have HMO := Lib.hid hmo; have HBK := Lib.hid hbk; have HZ := Lib.hid hz; have HCU := Lib.hid (first_sub hr.f0 (b := ⟨pa, 1, mi, wk, no, []⟩) rfl none 0).1; have HCA := Lib.hid (first_sub hr.f0 (b := ⟨pa, 1, mi, wk, no, []⟩) rfl none 0).2.1; clear hf hfa hr hmo hbk hz
 go_enter Tryz.func84, Tryz.ntmps84
 go_upto_region 1 with (fail)
 obtain ⟨W, hW⟩ : ∃ z, w.alloc (.cells #[.int .u64 pa, .int .i64 1, .int .u64 mi, .int .u64 wk, .int .u64 no, .slice xa 0 xc] 177) = z := ⟨_, rfl⟩; obtain ⟨B, hB⟩ : ∃ z, w.heap.size = z := ⟨_, rfl⟩; rw [hW, hB] at HF; rw [hW, hB]; have HFW := HF; clear hW hB HF; obtain ⟨x0, x1⟩ := box_cells (HFW.out.box i1); obtain ⟨SB, PI, v, hch⟩ := chA_get HFW.out i4; go_wp2_with fail
 refine (best_any x.c SB PI W r chM0 (blksS chM0.L chM0.best) v hch (Nat.zero_le _)).mono ?_
 rintro e w3 ⟨u, rfl, ho, hb3⟩; obtain ⟨ba, bc, rfl, -, -⟩ := sliceR.form (Own.slice ho); obtain ⟨-, -, hi3, hi4⟩ := sliceR.lens (Own.slice ho); have HBN := Lib.hid hi4; have HBC := Lib.hid hi3; have HF3 := Lib.hid (HFW.out.keepB hb3); clear ho hb3 x0 x1 HFW hch hi3 hi4
 go_upto_region 2 with (fail)
 -- MARK1
 have HFwg00 := Lib.hid (HF3.out.drew); have hS0 : Hid ((Held [(p, (ndC op r num nodes seed x), 84), (B, #[.int .u64 pa, .int .i64 1, .int .u64 mi, .int .u64 wk, .int .u64 no, .slice xa 0 xc], 177)] []) w3.drew) := Held.keepB (⟨⟨HF3.out.box i1, HF3.out.box i0, trivial⟩, trivial⟩) (Below.refl _ _).drew
 refine wp_region_held_drew (S := (Held [(p, (ndC op r num nodes seed x), 84), (B, #[.int .u64 pa, .int .i64 1, .int .u64 mi, .int .u64 wk, .int .u64 no, .slice xa 0 xc], 177)] [])) (by kernel_rfl) hS0.out (fun hHeld => ?_)
 obtain ⟨wg0, hwd⟩ : ∃ x, w3.drew = x := ⟨_, rfl⟩; rw [hwd] at hHeld HFwg00 ⊢; have HFwg0 := HFwg00; clear hwd HFwg00 hS0
 go_simp
 refine tkV 0 rfl (fun wz hSz => by go_simp; all_goals with_reducible rfl) ?_
 go_simp
 refine tkV 1 rfl (fun wz hSz => by go_simp; all_goals with_reducible rfl) ?_
 go_simp
 refine tkV 2 rfl (fun wz hSz => by go_simp; all_goals with_reducible rfl) ?_
 go_simp
 refine tkV 3 rfl (fun wz hSz => by have cx := (box_cells hSz.b.1).1; go_simp; all_goals with_reducible rfl) ?_
 go_simp
 refine tkY 4 rfl (yieldsIf_load_mid (by rfl) _ _ rfl (B) 0 rfl [.int .u64 pa, .int .i64 1, .int .u64 mi, .int .u64 wk, .int .u64 no, .slice xa 0 xc] _ (fun wz hSz => range_box hSz.b.2.1) Tryz.underlying177 rfl (by kernel_rfl)) ?_
 go_simp
 refine rd1 5 rfl (fun K hK => ?_)
 go_simp
 refine (chSubmit_fr HFwg0.out i4 HR.out HMO.out (newCh_ok r) (Nat.zero_le _) ⟨pa, 1, mi, wk, no, []⟩ HZ.out rfl xa xc (HBK.out.blk _ _)).mono ?_
 rintro E wg1 ⟨rfl, ya, yc, hok, hfe⟩; have HFwg1 := Lib.hid hfe; rw [HCU.out, HCA.out]; clear hHeld hfe hok
 refine hK.out _ _ (⟨⟨HFwg1.out.box i1, HFwg1.out.box i0, trivial⟩, trivial⟩) (fun hHeld => ?_)
 clear hK K
 go_simp
 refine tkV 6 rfl (fun wz hSz => by go_simp; all_goals with_reducible rfl) ?_
 go_simp
 refine tkV 7 rfl (fun wz hSz => by go_simp; all_goals with_reducible rfl) ?_
 go_simp
 refine tkV 8 rfl (fun wz hSz => by go_simp; all_goals with_reducible rfl) ?_
 go_simp
 refine tkV 9 rfl (fun wz hSz => by go_simp; all_goals with_reducible rfl) ?_
 go_simp
 refine tkV 10 rfl (fun wz hSz => by go_simp; all_goals with_reducible rfl) ?_
 go_simp
 refine tkV 11 rfl (fun wz hSz => by go_simp; all_goals with_reducible rfl) ?_
 go_simp
 refine tkV 12 rfl (fun wz hSz => by go_simp; all_goals with_reducible rfl) ?_
 go_simp
 clear hHeld
 refine wpAnyH_done (by kernel_rfl) ?_ _
 have HFK := HFwg1; obtain ⟨wK, hwk⟩ : ∃ x, wg1 = x := ⟨_, rfl⟩; rw [hwk] at HFK ⊢; clear hwk HFwg1; have hfd := HFK.out.drop i0; have HFL : Hid (Fr (O := O) (ndL p op r num nodes seed (subM r chM0 ⟨pa, 1, mi, wk, no, []⟩ ya yc) 0 x) G w0 wK) := hfd; clear hfd HFK; go_wp2_with fail
 refine (ndFollow_any HFL.out (by have := HR.out; exact ⟨this.d0, this.d1⟩) pa mi wk no (blkID ⟨pa, 1, mi, wk, no, []⟩) (by rw [(first_sub HR.out.f0 rfl ya yc).2.2]) (first_known HR.out.f0 rfl rfl ya yc) (first_blks HR.out.f0 rfl ya yc) ba bc HBN.out HBC.out).mono ?_
 rintro e w6 ⟨rfl, pp, hf6⟩; have HF6 := Lib.hid hf6; clear hf6 HFL; go_wp2_with fail; go_ret
 exact ⟨rfl, ya, yc, pp, HF6.out⟩
end
end Go.Proofs.YtphacfkcifpobaaGreatDoor
