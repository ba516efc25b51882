/- The chain of the program: New. -/
import Derived.Test.YtphacfkcifpobaaGreatDoorM20
import Derived.Test.YtphacfkcifpobaaGreatDoorM10
set_option maxRecDepth 100000
namespace Go.Proofs.YtphacfkcifpobaaGreatDoor
open Go.ChangeShapes Go.WideShapes Go.ChangeAt Go.RowKit Go.Sort
def newE (r : RuM) (ideal : Bool) : Int := if ruleE r = 0 then (if (ideal != (r.mode == 3)) = true then 1 else 0) else ruleE r
def ChNew (op : Nat) (r : RuM) (w : World) (e : Ending) (w' : World) : Prop :=
 ∃ (c : Nat) (PI : Nat → Prop) (v : ChV), e = .returned (.tuple #[.pointer (some ⟨c, 0, none⟩), .int .i64 0]) ∧ ChAt c (fun k => k < w.heap.size) PI w' r ⟨[], [], 0, 0⟩ [] v ∧ v.op = op ∧ (∀ k, ChMut c v k → w.heap.size ≤ k) ∧ (∀ k, PI k → w.heap.size ≤ k) ∧ Below w.heap.size w w'
theorem chNew_mk {w w4 : World} (hb : Below w.heap.size w w4) {r : RuM} {op p : Nat} {PI : Nat → Prop} {pv : PoV} (ho : r.mode = 2 → OrAt false 0 op w) (hat : PoAt p PI w4 r (newP r) pv) (hm : ∀ k, PoMut p pv k → w.heap.size ≤ k) :
   ChAt (w4.heap.size + 1) (fun k => k < w.heap.size) PI ((w4.alloc (.map #[] 0)).alloc (.cells #[.pointer (some ⟨op, 0, none⟩), .int .i64 r.mode, .int .i64 r.depth, .int .i64 r.bl, .int .i64 r.bu, .int .i64 r.qu, .int .u64 r.rew, .int .i64 r.win, .int .i64 r.fin, .int .u64 r.work, .map (some w4.heap.size), .slice none 0 0, .pointer (some ⟨p, 0, none⟩), .int .u64 0, .int .i64 0] 107)) r ⟨[], [], 0, 0⟩ [] ⟨op, w4.heap.size, none, 0, p, pv⟩ := by
 have hb2 : Below w4.heap.size w4 ((w4.alloc (.map #[] 0)).alloc (.cells #[.pointer (some ⟨op, 0, none⟩), .int .i64 r.mode, .int .i64 r.depth, .int .i64 r.bl, .int .i64 r.bu, .int .i64 r.qu, .int .u64 r.rew, .int .i64 r.win, .int .i64 r.fin, .int .u64 r.work, .map (some w4.heap.size), .slice none 0 0, .pointer (some ⟨p, 0, none⟩), .int .u64 0, .int .i64 0] 107)) := bnew (bnew (Below.refl _ _) _) _; have hz := hb.size; have hmap : ((w4.alloc (.map #[] 0)).alloc (.cells #[.pointer (some ⟨op, 0, none⟩), .int .i64 r.mode, .int .i64 r.depth, .int .i64 r.bl, .int .i64 r.bu, .int .i64 r.qu, .int .u64 r.rew, .int .i64 r.win, .int .i64 r.fin, .int .u64 r.work, .map (some w4.heap.size), .slice none 0 0, .pointer (some ⟨p, 0, none⟩), .int .u64 0, .int .i64 0] 107)).heap[w4.heap.size]? = some (.map #[] 0) := (two_new w4 (.map #[] 0) (.cells #[.pointer (some ⟨op, 0, none⟩), .int .i64 r.mode, .int .i64 r.depth, .int .i64 r.bl, .int .i64 r.bu, .int .i64 r.qu, .int .u64 r.rew, .int .i64 r.win, .int .i64 r.fin, .int .u64 r.work, .map (some w4.heap.size), .slice none 0 0, .pointer (some ⟨p, 0, none⟩), .int .u64 0, .int .i64 0] 107)).2
 refine ⟨(two_new w4 (.map #[] 0) (.cells #[.pointer (some ⟨op, 0, none⟩), .int .i64 r.mode, .int .i64 r.depth, .int .i64 r.bl, .int .i64 r.bu, .int .i64 r.qu, .int .u64 r.rew, .int .i64 r.win, .int .i64 r.fin, .int .u64 r.work, .map (some w4.heap.size), .slice none 0 0, .pointer (some ⟨p, 0, none⟩), .int .u64 0, .int .i64 0] 107)).1, fun e => (OrAt.in' (ho e)).keep (Kept.of_below (S := fun k => k < w.heap.size) (bnext hb hb2)) fun _ h => h, ⟨[], (mapAt_made w4).at' (by rw [hmap]; exact (box_new w4 (.map #[] 0)).symm), fun _ => rfl, Nat.le_refl _⟩, fun e he => by simp at he, sliceR.nil, hat.keepB hb2, ?_, fun h => by have := hat.mut_lt _ h; omega, fun h => by have h' := hat.mut_lt _ h; exact Nat.lt_irrefl _ h', fun k hk => by have := hat.lt k hk; exact ⟨by omega, by show k ≠ w4.heap.size; omega⟩, fun k hk => Nat.lt_of_lt_of_le hk (bnext hb hb2).size⟩
 rintro k (e | e | e) hk
 · omega
 · have e' : k = w4.heap.size := e; omega
 · have := hm k e; omega
set_option maxHeartbeats 2000000 in
theorem chNew_any (w : World) (op : Nat) (ideal : Bool) (st : Int) (ho : OrAt ideal st op w) (hst : ideal = false → st = 0) (r : RuM) (hr : okU r.rew) :
   Calls Tryz.prog 25 #[.pointer (some ⟨op, 0, none⟩), .agg #[.int .i64 r.mode, .int .i64 r.depth, .int .i64 r.bl, .int .i64 r.bu, .int .i64 r.qu, .int .u64 r.rew, .int .i64 r.win, .int .i64 r.fin, .int .u64 r.work]] w fun e w' => (newE r ideal = 0 → ChNew op r w e w') ∧ (newE r ideal ≠ 0 → e = .returned (.tuple #[.pointer none, .int .i64 (newE r ideal)]) ∧ Below w.heap.size w w') := by
 have HO := Lib.hid ho; have HST := Lib.hid hst; have HRW := Lib.hid hr; have HB := Lib.hid (bnew (Below.refl w.heap.size w) (.cells #[.int .i64 r.mode, .int .i64 r.depth, .int .i64 r.bl, .int .i64 r.bu, .int .i64 r.qu, .int .u64 r.rew, .int .i64 r.win, .int .i64 r.fin, .int .u64 r.work] 26)); have HX := Lib.hid (box_new w (.cells #[.int .i64 r.mode, .int .i64 r.depth, .int .i64 r.bl, .int .i64 r.bu, .int .i64 r.qu, .int .u64 r.rew, .int .i64 r.win, .int .i64 r.fin, .int .u64 r.work] 26)); have HU : Hid (newE r ideal = if ruleE r = 0 then (if (ideal != (r.mode == 3)) = true then 1 else 0) else ruleE r) := rfl; clear ho hst hr
 go_enter Tryz.func25, Tryz.ntmps25
 go_upto_region 1 with (fail)
 generalize w.alloc (.cells #[.int .i64 r.mode, .int .i64 r.depth, .int .i64 r.bl, .int .i64 r.bu, .int .i64 r.qu, .int .u64 r.rew, .int .i64 r.win, .int .i64 r.fin, .int .u64 r.work] 26) = W at *; obtain ⟨x0, x1⟩ := box_cells HX.out; go_wp2_with fail
 refine (rules_any r.mode r.depth r.bl r.bu r.qu r.rew r.win r.fin r.work W).mono ?_
 rintro e w1 ⟨rfl, hb1⟩; have HB1 := Lib.hid (bnext HB.out hb1); have HX1 := Lib.hid (box_after hb1 HX.out); clear x0 x1 hb1
 by_cases h0 : ruleE r = 0
 · have HU1 := Lib.hid (HU.out.trans (if_pos h0))
   have HR0 := Lib.hid h0; rw [show rulesE r.mode r.depth r.bl r.bu r.qu r.rew r.win r.fin r.work = 0 from h0]; clear h0 HU; obtain ⟨m3, hm3⟩ : ∃ x, (r.mode == 3) = x := ⟨_, rfl⟩; rw [hm3] at HU1; have HM3 := Lib.hid hm3
   cases ideal with
   | true => cases m3 with
     | true =>
       have hc : ∀ (d : Nat) (os : Array Obj), Calls Tryz.prog 21 #[.pointer (some ⟨op, 0, none⟩)] (grow (redrawn w1 d) os) fun e w' => e = .returned (.bool true) ∧ Below (grow (redrawn w1 d) os).heap.size (grow (redrawn w1 d) os) w' := fun d os =>
         (isIdeal_any _ op _ st ((HO.out.keepB HB1.out).keepB (below_regrown w1 d os))).mono fun _ _ h => ⟨h.1, by rw [← h.2]; exact Below.refl _ _⟩
       have x0 := box_regrown HX1.out; go_wp2_with fail
       refine wp_region_quiet_below (by kernel_rfl) (by kernel_rfl) ?_
       repeat (first | go_big_quiet_step (exact Calls.regrown_of (hc _ _)) | quiet_step (exact Calls.regrown_of (hc _ _)))
       refine wpQuiet_nil ?_
       intro w2 hw'
       obtain ⟨⟨dq, osq⟩, hw''⟩ := hw'; have hbw2 := below_regrown w1 dq osq; rw [← hw''] at hbw2; clear hw'' x0 hc; have HB2 := Lib.hid (bnext HB1.out hbw2); have HX2 := Lib.hid (box_after hbw2 HX1.out); clear hbw2
       have HF : Hid (newE r true = 0) := by show _ = _; rw [HU1.out]; rfl
       obtain ⟨x0, x1⟩ := box_cells HX2.out; go_wp2_with fail
       refine (poNew_any w2 r HR0.out HRW.out).mono ?_
       rintro e w4 ⟨p, PI, pv, rfl, hat, hm, hpi, hb4⟩; have HAT := Lib.hid hat
       have HM : Hid (∀ k, PoMut p pv k → w.heap.size ≤ k) := fun k hk => Nat.le_trans HB2.out.size (hm k hk)
       have HPI : Hid (∀ k, PI k → w.heap.size ≤ k) := fun k hk => Nat.le_trans HB2.out.size (hpi k hk)
       have HB4 := Lib.hid (bnext HB2.out hb4); have HX4 := Lib.hid (box_after hb4 HX2.out); clear hat hm hpi hb4 x0 x1; obtain ⟨x0, x1⟩ := box_cells HX4.out; have hmm := @run_makeMap Tryz.prog
       have HMK := Lib.hid (chNew_mk HB4.out (op := op) (fun e => by have := HM3.out; rw [e] at this; simp at this) HAT.out HM.out)
       have HBF := Lib.hid (bnew (bnew HB4.out (.map #[] 0)) (.cells #[.pointer (some ⟨op, 0, none⟩), .int .i64 r.mode, .int .i64 r.depth, .int .i64 r.bl, .int .i64 r.bu, .int .i64 r.qu, .int .u64 r.rew, .int .i64 r.win, .int .i64 r.fin, .int .u64 r.work, .map (some w4.heap.size), .slice none 0 0, .pointer (some ⟨p, 0, none⟩), .int .u64 0, .int .i64 0] 107)); have hz4 := HB4.out.size; go_wp2_with fail; go_ret2
       refine ⟨fun _ => ⟨w4.heap.size + 1, PI, _, rfl, HMK.out, rfl, fun k hk => ?_, HPI.out, HBF.out⟩, fun h => absurd HF.out h⟩
       rcases hk with e | e | e
       · omega
       · have e' : k = w4.heap.size := e; omega
       · exact HM.out k e
     | false =>
       have hc : ∀ (d : Nat) (os : Array Obj), Calls Tryz.prog 21 #[.pointer (some ⟨op, 0, none⟩)] (grow (redrawn w1 d) os) fun e w' => e = .returned (.bool true) ∧ Below (grow (redrawn w1 d) os).heap.size (grow (redrawn w1 d) os) w' := fun d os =>
         (isIdeal_any _ op _ st ((HO.out.keepB HB1.out).keepB (below_regrown w1 d os))).mono fun _ _ h => ⟨h.1, by rw [← h.2]; exact Below.refl _ _⟩
       have x0 := box_regrown HX1.out; go_wp2_with fail
       refine wp_region_quiet_below (by kernel_rfl) (by kernel_rfl) ?_
       repeat (first | go_big_quiet_step (exact Calls.regrown_of (hc _ _)) | quiet_step (exact Calls.regrown_of (hc _ _)))
       refine wpQuiet_nil ?_
       intro w2 hw'
       obtain ⟨⟨dq, osq⟩, hw''⟩ := hw'; have hbw2 := below_regrown w1 dq osq; rw [← hw''] at hbw2; clear hw'' x0 hc; have HB2 := Lib.hid (bnext HB1.out hbw2); have HX2 := Lib.hid (box_after hbw2 HX1.out); clear hbw2; have HF : Hid (newE r true = 1) := HU1.out; go_wp2_with fail; go_ret2; rw [HF.out]
       exact ⟨fun h => by omega, fun _ => ⟨rfl, HB2.out⟩⟩
   | false =>
     have HSF : Hid (st = 0) := HST.out rfl
     cases m3 with
     | true =>
       have hc : ∀ (d : Nat) (os : Array Obj), Calls Tryz.prog 21 #[.pointer (some ⟨op, 0, none⟩)] (grow (redrawn w1 d) os) fun e w' => e = .returned (.bool false) ∧ Below (grow (redrawn w1 d) os).heap.size (grow (redrawn w1 d) os) w' := fun d os =>
         (isIdeal_any _ op _ st ((HO.out.keepB HB1.out).keepB (below_regrown w1 d os))).mono fun _ _ h => ⟨h.1, by rw [← h.2]; exact Below.refl _ _⟩
       have x0 := box_regrown HX1.out; go_wp2_with fail
       refine wp_region_quiet_below (by kernel_rfl) (by kernel_rfl) ?_
       repeat (first | go_big_quiet_step (exact Calls.regrown_of (hc _ _)) | quiet_step (exact Calls.regrown_of (hc _ _)))
       refine wpQuiet_nil ?_
       intro w2 hw'
       obtain ⟨⟨dq, osq⟩, hw''⟩ := hw'; have hbw2 := below_regrown w1 dq osq; rw [← hw''] at hbw2; clear hw'' x0 hc; have HB2 := Lib.hid (bnext HB1.out hbw2); have HX2 := Lib.hid (box_after hbw2 HX1.out); clear hbw2; have HF : Hid (newE r false = 1) := HU1.out; go_wp2_with fail; go_ret2; rw [HF.out]
       exact ⟨fun h => by omega, fun _ => ⟨rfl, HB2.out⟩⟩
     | false =>
       have hc : ∀ (d : Nat) (os : Array Obj), Calls Tryz.prog 21 #[.pointer (some ⟨op, 0, none⟩)] (grow (redrawn w1 d) os) fun e w' => e = .returned (.bool false) ∧ Below (grow (redrawn w1 d) os).heap.size (grow (redrawn w1 d) os) w' := fun d os =>
         (isIdeal_any _ op _ st ((HO.out.keepB HB1.out).keepB (below_regrown w1 d os))).mono fun _ _ h => ⟨h.1, by rw [← h.2]; exact Below.refl _ _⟩
       have x0 := box_regrown HX1.out; go_wp2_with fail
       refine wp_region_quiet_below (by kernel_rfl) (by kernel_rfl) ?_
       repeat (first | go_big_quiet_step (exact Calls.regrown_of (hc _ _)) | quiet_step (exact Calls.regrown_of (hc _ _)))
       refine wpQuiet_nil ?_
       intro w2 hw'
       obtain ⟨⟨dq, osq⟩, hw''⟩ := hw'; have hbw2 := below_regrown w1 dq osq; rw [← hw''] at hbw2; clear hw'' x0 hc; have HB2 := Lib.hid (bnext HB1.out hbw2); have HX2 := Lib.hid (box_after hbw2 HX1.out); clear hbw2
       have HF : Hid (newE r false = 0) := by show _ = _; rw [HU1.out]; rfl
       obtain ⟨x0, x1⟩ := box_cells HX2.out; go_wp2_with fail
       refine (poNew_any w2 r HR0.out HRW.out).mono ?_
       rintro e w4 ⟨p, PI, pv, rfl, hat, hm, hpi, hb4⟩; have HAT := Lib.hid hat
       have HM : Hid (∀ k, PoMut p pv k → w.heap.size ≤ k) := fun k hk => Nat.le_trans HB2.out.size (hm k hk)
       have HPI : Hid (∀ k, PI k → w.heap.size ≤ k) := fun k hk => Nat.le_trans HB2.out.size (hpi k hk)
       have HB4 := Lib.hid (bnext HB2.out hb4); have HX4 := Lib.hid (box_after hb4 HX2.out); clear hat hm hpi hb4 x0 x1; obtain ⟨x0, x1⟩ := box_cells HX4.out; have hmm := @run_makeMap Tryz.prog
       have HMK := Lib.hid (chNew_mk HB4.out (op := op) (fun e => by have h := HO.out; rw [HSF.out] at h; exact h) HAT.out HM.out)
       have HBF := Lib.hid (bnew (bnew HB4.out (.map #[] 0)) (.cells #[.pointer (some ⟨op, 0, none⟩), .int .i64 r.mode, .int .i64 r.depth, .int .i64 r.bl, .int .i64 r.bu, .int .i64 r.qu, .int .u64 r.rew, .int .i64 r.win, .int .i64 r.fin, .int .u64 r.work, .map (some w4.heap.size), .slice none 0 0, .pointer (some ⟨p, 0, none⟩), .int .u64 0, .int .i64 0] 107)); have hz4 := HB4.out.size; go_wp2_with fail; go_ret2
       refine ⟨fun _ => ⟨w4.heap.size + 1, PI, _, rfl, HMK.out, rfl, fun k hk => ?_, HPI.out, HBF.out⟩, fun h => absurd HF.out h⟩
       rcases hk with e | e | e
       · omega
       · have e' : k = w4.heap.size := e; omega
       · exact HM.out k e
 · have HF := Lib.hid (HU.out.trans (if_neg h0))
   obtain ⟨y, hy⟩ : ∃ y, ruleE r = y := ⟨_, rfl⟩
   have hyn : y ≠ 0 := fun e => h0 (hy.trans e)
   have HYN := Lib.hid hyn; have HY := Lib.hid hy
   have z1 : (y == 0) = false := by rw [beq_eq_false_iff_ne]; exact hyn
   have z2 : (y != 0) = true := by rw [bne_iff_ne]; exact hyn
   rw [show rulesE r.mode r.depth r.bl r.bu r.qu r.rew r.win r.fin r.work = y from hy]; clear hy hyn h0 HU; go_wp2_with fail; go_ret2; rw [HF.out, HY.out]
   exact ⟨fun h => absurd h HYN.out, fun _ => ⟨rfl, HB1.out⟩⟩
end Go.Proofs.YtphacfkcifpobaaGreatDoor
/- The chain of the program in plain Lean: ways, what holds of the stored blocks, what Submit does. -/
namespace Go.Proofs.YtphacfkcifpobaaGreatDoor
open Go.ChangeShapes Go.WideShapes Go.ChangeAt Go.RowKit Go.Sort
def wayF (L : List StB) : Nat → Int → List Int
 | 0, _ => []
 | n + 1, p => match findS L p with
   | some e => wayF L n e.b.parent ++ [p]
   | none => []
theorem findS_some {L : List StB} {x : Int} {e : StB} (h : findS L x = some e) : e ∈ L ∧ e.id = x := by
 refine ⟨List.mem_of_find?_eq_some h, ?_⟩
 have := List.find?_some h
 simpa using this
theorem findS_app {L : List StB} {x : Int} {e : StB} (h : findS L x = some e) (L2 : List StB) : findS (L ++ L2) x = some e := by
 unfold findS at h ⊢
 rw [List.find?_append, h]; rfl
theorem findS_new {L : List StB} {e : StB} (h : findS L e.id = none) : findS (L ++ [e]) e.id = some e := by
 unfold findS at h ⊢; rw [List.find?_append, h]
 simp
theorem findS_miss {L : List StB} {e : StB} {x : Int} (h : x ≠ e.id) : findS (L ++ [e]) x = findS L x := by
 unfold findS; rw [List.find?_append]
 cases hh : L.find? fun e => e.id == x with
 | some y => rfl
 | none =>
   have : (e.id == x) = false := by rw [beq_eq_false_iff_ne]; exact Ne.symm h
   simp [this]
theorem IsWay.nil (L : List StB) : IsWay L [] := fun k h => by simp at h
theorem IsWay.snoc {L : List StB} {l : List Int} (h : IsWay L l) {p : Int} {e : StB} (he : findS L p = some e) (hh : e.b.height = l.length + 1) (hp : 0 < l.length → e.b.parent = l.getD (l.length - 1) 0) : IsWay L (l ++ [p]) := by
 intro k hk
 rcases Nat.lt_or_ge k l.length with hlt | hge
 · obtain ⟨e', h1, h2, h3⟩ := h k hlt
   rw [List.getElem_append_left hlt]
   refine ⟨e', h1, h2, fun h0 => ?_⟩
   rw [h3 h0, List.getD_eq_getElem?_getD, List.getD_eq_getElem?_getD, List.getElem?_append_left (by omega)]
 · have hk' : k = l.length := by simp at hk; omega
   subst hk'; rw [List.getElem_append_right (Nat.le_refl _)]
   simp only [Nat.sub_self, List.getElem_singleton]
   refine ⟨e, he, hh, fun h0 => ?_⟩
   rw [hp h0, List.getD_eq_getElem?_getD, List.getD_eq_getElem?_getD, List.getElem?_append_left (by omega)]
theorem IsWay.app {L : List StB} {l : List Int} (h : IsWay L l) (L2 : List StB) : IsWay (L ++ L2) l := fun k hk => by
 obtain ⟨e, h1, h2, h3⟩ := h k hk
 exact ⟨e, findS_app h1 L2, h2, h3⟩
theorem IsWay.take {L : List StB} {l : List Int} (h : IsWay L l) (n : Nat) : IsWay L (l.take n) := fun k hk => by
 rw [List.length_take] at hk
 obtain ⟨e, h1, h2, h3⟩ := h k (by omega)
 refine ⟨e, by rw [List.getElem_take]; exact h1, h2, fun h0 => ?_⟩
 rw [h3 h0, List.getD_eq_getElem?_getD, List.getD_eq_getElem?_getD, List.getElem?_take, if_pos (by omega)]
def Closed (L : List StB) : Prop := ∀ e ∈ L, e.b.height = 1 ∨ ∃ p, findS L e.b.parent = some p ∧ p.b.height = e.b.height - 1
theorem way_ok {L : List StB} (hc : Closed L) : ∀ (n : Nat) (p : Int) (e : StB), findS L p = some e → e.b.height = n + 1 → IsWay L (wayF L (n + 1) p) ∧ (wayF L (n + 1) p).length = n + 1 ∧ (wayF L (n + 1) p).getD n 0 = p
 | 0, p, e, he, hh => by
   have e1 : wayF L 1 p = [p] := by
     show (match findS L p with | some e => wayF L 0 e.b.parent ++ [p] | none => []) = _
     rw [he]; rfl
   rw [e1]
   exact ⟨(IsWay.nil L).snoc he (by rw [hh]; rfl) (fun h => by simp at h), rfl, rfl⟩
 | n + 1, p, e, he, hh => by
   have e1 : wayF L (n + 1 + 1) p = wayF L (n + 1) e.b.parent ++ [p] := by
     show (match findS L p with | some e => wayF L (n + 1) e.b.parent ++ [p] | none => []) = _
     rw [he]
   rcases hc e (findS_some he).1 with h1 | ⟨q, hq, hqh⟩
   · push_cast at hh; omega
   · obtain ⟨i1, i2, i3⟩ := way_ok hc n e.b.parent q hq (by rw [hqh, hh]; push_cast; omega)
     rw [e1]
     refine ⟨i1.snoc he (by rw [i2, hh]) fun _ => ?_, by rw [List.length_append, i2]; rfl, ?_⟩
     · rw [i2, Nat.add_sub_cancel, i3]
     · rw [List.getD_eq_getElem?_getD, List.getElem?_append_right (by omega), i2]; simp
theorem way_app {L : List StB} (hc : Closed L) (L2 : List StB) : ∀ (n : Nat) (p : Int) (e : StB), findS L p = some e → e.b.height = n + 1 → wayF (L ++ L2) (n + 1) p = wayF L (n + 1) p
 | 0, p, e, he, hh => by
   show (match findS (L ++ L2) p with | some e => wayF (L ++ L2) 0 e.b.parent ++ [p] | none => []) = (match findS L p with | some e => wayF L 0 e.b.parent ++ [p] | none => [])
   rw [he, findS_app he L2]; rfl
 | n + 1, p, e, he, hh => by
   show (match findS (L ++ L2) p with | some e => wayF (L ++ L2) (n + 1) e.b.parent ++ [p] | none => []) = (match findS L p with | some e => wayF L (n + 1) e.b.parent ++ [p] | none => [])
   rw [he, findS_app he L2]
   rcases hc e (findS_some he).1 with h1 | ⟨q, hq, hqh⟩
   · push_cast at hh; omega
   · show wayF (L ++ L2) (n + 1) e.b.parent ++ [p] = wayF L (n + 1) e.b.parent ++ [p]
     rw [way_app hc L2 n e.b.parent q hq (by rw [hqh, hh]; push_cast; omega)]
theorem blks_app {L : List StB} {l : List Int} (h : IsWay L l) (L2 : List StB) : blksS (L ++ L2) l = blksS L l := by
 unfold blksS
 refine List.map_congr_left fun x hx => ?_
 obtain ⟨k, hk, rfl⟩ := List.getElem_of_mem hx; obtain ⟨e, h1, -⟩ := h k hk; unfold blkS; rw [h1, findS_app h1 L2]
theorem blks_len (L : List StB) (l : List Int) : (blksS L l).length = l.length := by unfold blksS; rw [List.length_map]
structure ChOK (r : RuM) (m : ChM) : Prop where
 uniq : ∀ e ∈ m.L, findS m.L e.id = some e
 clos : Closed m.L
 blk : ∀ e ∈ m.L, BlkOK e.b ∧ e.id = blkID e.b ∧ e.b.work = r.work
 high : ∀ e ∈ m.L, 1 ≤ e.b.height ∧ e.b.height ≤ m.L.length
 run : ∀ e ∈ m.L, RunOK r (blksS m.L (wayF m.L e.b.height.toNat e.id))
 best : IsWay m.L m.best
 brun : RunOK r (blksS m.L m.best)
 fin : m.hgt ≤ m.best.length ∧ (0 < m.hgt → m.best.getD (m.hgt - 1) 0 = m.final)
theorem IsWay.len {L : List StB} {l : List Int} (h : IsWay L l) (hh : ∀ e ∈ L, 1 ≤ e.b.height ∧ e.b.height ≤ L.length) : l.length ≤ L.length := by
 rcases Nat.eq_zero_or_pos l.length with h0 | h0
 · omega
 · obtain ⟨e, h1, h2, -⟩ := h (l.length - 1) (by omega)
   have := (hh e (findS_some h1).1).2
   omega
def branF (L : List StB) (b : BlkM) : List Int := wayF L (b.height.toNat - 1) b.parent
theorem bran_ok {r : RuM} {m : ChM} (ok : ChOK r m) {b : BlkM} (h1 : 1 ≤ b.height) (hp : parentE m.L b = 0) : IsWay m.L (branF m.L b) ∧ ((branF m.L b).length : Int) = b.height - 1 ∧ (0 < (branF m.L b).length → b.parent = (branF m.L b).getD ((branF m.L b).length - 1) 0) ∧ RunOK r (blksS m.L (branF m.L b)) := by
 by_cases hh : b.height = 1
 · have e : branF m.L b = [] := by unfold branF; rw [hh]; rfl
   rw [e]
   exact ⟨IsWay.nil _, by rw [hh]; rfl, fun h => by simp at h, RunOK.nil r⟩
 · unfold parentE at hp
   rw [if_neg hh] at hp
   cases hf : findS m.L b.parent with
   | none => rw [hf] at hp; simp at hp
   | some e =>
     rw [hf] at hp; have hp' : (if e.b.height = b.height - 1 then (0 : Int) else 18) = 0 := hp
     have heh : e.b.height = b.height - 1 := by
       split at hp'
       · assumption
       · simp at hp'
     obtain ⟨n, hn⟩ : ∃ n : Nat, b.height = (n : Int) + 2 := ⟨(b.height - 2).toNat, by omega⟩
     have e1 : branF m.L b = wayF m.L (n + 1) b.parent := by unfold branF; rw [show b.height.toNat - 1 = n + 1 by omega]
     obtain ⟨i1, i2, i3⟩ := way_ok ok.clos n b.parent e hf (by rw [heh, hn]; omega)
     have hrun := ok.run e (findS_some hf).1
     rw [(findS_some hf).2, show e.b.height.toNat = n + 1 by omega] at hrun
     rw [e1]
     exact ⟨i1, by rw [i2, hn]; push_cast; omega, fun _ => by rw [i2, Nat.add_sub_cancel, i3], hrun⟩
end Go.Proofs.YtphacfkcifpobaaGreatDoor
/- Submit of a chain in plain Lean: its error, the chain behind it, what holds of that. -/
namespace Go.Proofs.YtphacfkcifpobaaGreatDoor
open Go.ChangeShapes Go.WideShapes Go.ChangeAt Go.RowKit Go.Sort
def txErr (r : RuM) : List TxM → Int
 | [] => 0
 | t :: l => if checkE r.depth r.bl r.bu r.qu r.rew r.win r.fin r.work t = 0 then txErr r l else checkE r.depth r.bl r.bu r.qu r.rew r.win r.fin r.work t
def finB (m : ChM) (br : List Int) : Bool := decide (0 < m.hgt ∧ (br.length < m.hgt ∨ br.getD (m.hgt - 1) 0 ≠ m.final))
def subE (r : RuM) (m : ChM) (b : BlkM) : Int :=
 if blkCheck r.work b = 0 then
   (if (findS m.L (blkID b)).isSome = true then 5
    else if parentE m.L b = 0 then
     (if finB m (branF m.L b) = true then 19
      else if txErr r b.txs = 0 then applyE r (runW r (blksS m.L (branF m.L b))) b else txErr r b.txs)
    else parentE m.L b)
 else blkCheck r.work b
def totS (m : ChM) (b : BlkM) : Int := if 0 < (branF m.L b).length then wrapU (b.work + ((findS m.L b.parent).map (·.tot)).getD 0) else b.work
def betS (m : ChM) (b : BlkM) : Bool := betterB m (blkID b) (totS m b)
def addM (m : ChM) (b : BlkM) (xa : Option Addr) (xc : Nat) : ChM := ⟨m.L ++ [(⟨blkID b, b, totS m b, xa, xc⟩ : StB)], m.best, m.final, m.hgt⟩
def subM (r : RuM) (m : ChM) (b : BlkM) (xa : Option Addr) (xc : Nat) : ChM :=
 if betS m b = true then finM r ⟨(addM m b xa xc).L, branF m.L b ++ [blkID b], m.final, m.hgt⟩ else addM m b xa xc
structure SubOK (r : RuM) (m : ChM) (b : BlkM) : Prop where
 chk : blkCheck r.work b = 0
 new : findS m.L (blkID b) = none
 par : parentE m.L b = 0
 fin : finB m (branF m.L b) = false
 txs : txErr r b.txs = 0
 app : applyE r (runW r (blksS m.L (branF m.L b))) b = 0
theorem sub_zero {r : RuM} {m : ChM} {b : BlkM} (h : subE r m b = 0) : SubOK r m b := by
 unfold subE at h
 split at h
 · rename_i h1
   split at h
   · simp at h
   · rename_i h2
     split at h
     · rename_i h3
       split at h
       · simp at h
       · rename_i h4
         split at h
         · rename_i h5
           refine ⟨h1, by simpa using h2, h3, by simpa using h4, h5, h⟩
         · rename_i h5; exact absurd h h5
     · rename_i h3; exact absurd h h3
 · rename_i h1; exact absurd h h1
theorem blkCheck_zero {wk : Int} {b : BlkM} (h : blkCheck wk b = 0) : blkE b = 0 ∧ b.work = wk := by
 unfold blkCheck at h
 split at h
 · rename_i h1
   split at h
   · rename_i h2; exact ⟨h1, h2.1⟩
   · simp at h
 · rename_i h1; exact absurd h h1
theorem par_some {L : List StB} {b : BlkM} (h : parentE L b = 0) (h1 : b.height ≠ 1) : ∃ e, findS L b.parent = some e ∧ e.b.height = b.height - 1 := by
 unfold parentE at h; rw [if_neg h1] at h
 cases hf : findS L b.parent with
 | none => rw [hf] at h; simp at h
 | some e =>
   rw [hf] at h; have hp' : (if e.b.height = b.height - 1 then (0 : Int) else 18) = 0 := h
   refine ⟨e, rfl, ?_⟩
   split at hp'
   · assumption
   · simp at hp'
theorem way_new {r : RuM} {m : ChM} (ok : ChOK r m) {b : BlkM} (h : SubOK r m b) (xa : Option Addr) (xc : Nat) :
   wayF (m.L ++ [(⟨blkID b, b, totS m b, xa, xc⟩ : StB)]) b.height.toNat (blkID b) = branF m.L b ++ [blkID b] := by
 obtain ⟨hv, hwk⟩ := blkCheck_zero h.chk; have hh := (blkE_head hv).1
 obtain ⟨n, hn⟩ : ∃ n, b.height.toNat = n + 1 := ⟨b.height.toNat - 1, by omega⟩
 have hf : findS (m.L ++ [(⟨blkID b, b, totS m b, xa, xc⟩ : StB)]) (blkID b) = some ⟨blkID b, b, totS m b, xa, xc⟩ := findS_new (e := ⟨blkID b, b, totS m b, xa, xc⟩) h.new; rw [hn]
 show (match findS (m.L ++ [(⟨blkID b, b, totS m b, xa, xc⟩ : StB)]) (blkID b) with | some e => wayF (m.L ++ [(⟨blkID b, b, totS m b, xa, xc⟩ : StB)]) n e.b.parent ++ [blkID b] | none => []) = _
 rw [hf]
 show wayF (m.L ++ [(⟨blkID b, b, totS m b, xa, xc⟩ : StB)]) n b.parent ++ [blkID b] = _
 unfold branF; rw [hn, Nat.add_sub_cancel]
 cases n with
 | zero => rfl
 | succ k =>
   obtain ⟨e, he, heh⟩ := par_some h.par (by omega)
   rw [way_app ok.clos _ k b.parent e he (by omega)]
theorem blks_new {r : RuM} {m : ChM} (ok : ChOK r m) {b : BlkM} (h : SubOK r m b) (xa : Option Addr) (xc : Nat) :
   blksS (m.L ++ [(⟨blkID b, b, totS m b, xa, xc⟩ : StB)]) (branF m.L b ++ [blkID b]) = blksS m.L (branF m.L b) ++ [b] := by
 obtain ⟨hv, hwk⟩ := blkCheck_zero h.chk; obtain ⟨hw, -⟩ := bran_ok ok (blkE_head hv).1 h.par; have hf : findS (m.L ++ [(⟨blkID b, b, totS m b, xa, xc⟩ : StB)]) (blkID b) = some ⟨blkID b, b, totS m b, xa, xc⟩ := findS_new (e := ⟨blkID b, b, totS m b, xa, xc⟩) h.new; rw [← blks_app hw [(⟨blkID b, b, totS m b, xa, xc⟩ : StB)]]; unfold blksS; rw [List.map_append]
 show _ ++ [blkS (m.L ++ [(⟨blkID b, b, totS m b, xa, xc⟩ : StB)]) (blkID b)] = _
 unfold blkS
 rw [hf]; rfl
theorem fin_ok {r : RuM} {m : ChM} (h : ChOK r m) (hf : 0 ≤ r.fin) : ChOK r (finM r m) := by
 unfold finM
 split
 · rename_i hc
   refine ⟨h.uniq, h.clos, h.blk, h.high, h.run, h.best, h.brun, ?_, fun _ => rfl⟩
   show ((m.best.length : Int) - r.fin).toNat ≤ m.best.length
   omega
 · exact h
theorem run_new {r : RuM} {m : ChM} (ok : ChOK r m) {b : BlkM} (h : SubOK r m b) (hp : posB b) : RunOK r (blksS m.L (branF m.L b) ++ [b]) := by
 obtain ⟨hv, hwk⟩ := blkCheck_zero h.chk; obtain ⟨-, -, -, hr⟩ := bran_ok ok (blkE_head hv).1 h.par
 exact hr.snoc ⟨hv, hp⟩ h.app
theorem way_best {r : RuM} {m : ChM} (ok : ChOK r m) {b : BlkM} (h : SubOK r m b) (xa : Option Addr) (xc : Nat) : IsWay (m.L ++ [(⟨blkID b, b, totS m b, xa, xc⟩ : StB)]) (branF m.L b ++ [blkID b]) := by
 obtain ⟨hv, hwk⟩ := blkCheck_zero h.chk; obtain ⟨hw, hl, hpar, -⟩ := bran_ok ok (blkE_head hv).1 h.par
 exact (hw.app _).snoc (e := ⟨blkID b, b, totS m b, xa, xc⟩) (findS_new (e := ⟨blkID b, b, totS m b, xa, xc⟩) h.new) (by show b.height = _; omega) hpar
theorem add_ok {r : RuM} {m : ChM} (ok : ChOK r m) {b : BlkM} (h : SubOK r m b) (hp : posB b) (xa : Option Addr) (xc : Nat) : ChOK r (addM m b xa xc) := by
 obtain ⟨hv, hwk⟩ := blkCheck_zero h.chk; obtain ⟨hh, hh2, -⟩ := blkE_head hv; obtain ⟨hw, hl, hpar, hr⟩ := bran_ok ok hh h.par; have hlen := hw.len ok.high
 refine ⟨?_, ?_, ?_, ?_, ?_, ok.best.app _, ?_, ok.fin⟩
 · intro e he
   rcases List.mem_append.1 he with h1 | h1
   · exact findS_app (ok.uniq e h1) _
   · obtain rfl := List.mem_singleton.1 h1
     exact findS_new (e := ⟨blkID b, b, totS m b, xa, xc⟩) h.new
 · intro e he
   rcases List.mem_append.1 he with h1 | h1
   · rcases ok.clos e h1 with h2 | ⟨p, h2, h3⟩
     · exact .inl h2
     · exact .inr ⟨p, findS_app h2 _, h3⟩
   · obtain rfl := List.mem_singleton.1 h1
     by_cases h2 : b.height = 1
     · exact .inl h2
     · obtain ⟨p, h3, h4⟩ := par_some h.par h2
       exact .inr ⟨p, findS_app h3 _, h4⟩
 · intro e he
   rcases List.mem_append.1 he with h1 | h1
   · exact ok.blk e h1
   · obtain rfl := List.mem_singleton.1 h1
     exact ⟨⟨hv, hp⟩, rfl, hwk⟩
 · intro e he
   show 1 ≤ e.b.height ∧ e.b.height ≤ ((m.L ++ [_]).length : Nat)
   rw [List.length_append, List.length_singleton]
   rcases List.mem_append.1 he with h1 | h1
   · have := ok.high e h1
     omega
   · obtain rfl := List.mem_singleton.1 h1
     refine ⟨hh, ?_⟩
     show b.height ≤ _
     omega
 · intro e he
   show RunOK r (blksS (m.L ++ [_]) (wayF (m.L ++ [_]) e.b.height.toNat e.id))
   rcases List.mem_append.1 he with h1 | h1
   · have h2 := (ok.high e h1).1
     obtain ⟨n, hn⟩ : ∃ n, e.b.height.toNat = n + 1 := ⟨e.b.height.toNat - 1, by omega⟩
     have hw1 := way_ok ok.clos n e.id e (ok.uniq e h1) (by omega)
     have h3 := ok.run e h1; rw [hn] at h3 ⊢
     rw [way_app ok.clos _ n e.id e (ok.uniq e h1) (by omega), blks_app hw1.1]
     exact h3
   · obtain rfl := List.mem_singleton.1 h1
     show RunOK r (blksS (m.L ++ [_]) (wayF (m.L ++ [_]) b.height.toNat (blkID b)))
     rw [way_new ok h, blks_new ok h]
     exact run_new ok h hp
 · show RunOK r (blksS (m.L ++ [_]) m.best)
   rw [blks_app ok.best]
   exact ok.brun
theorem sub_ok {r : RuM} {m : ChM} (ok : ChOK r m) (hf : 0 ≤ r.fin) {b : BlkM} (h : SubOK r m b) (hp : posB b) (xa : Option Addr) (xc : Nat) : ChOK r (subM r m b xa xc) := by
 have ha := add_ok ok h hp xa xc; unfold subM
 split
 · refine fin_ok ⟨ha.uniq, ha.clos, ha.blk, ha.high, ha.run, way_best ok h xa xc, ?_, ?_⟩ hf
   · show RunOK r (blksS (m.L ++ [_]) (branF m.L b ++ [blkID b]))
     rw [blks_new ok h]
     exact run_new ok h hp
   · have h1 := h.fin
     unfold finB at h1; rw [decide_eq_false_iff_not] at h1
     show m.hgt ≤ (branF m.L b ++ [blkID b]).length ∧ (0 < m.hgt → (branF m.L b ++ [blkID b]).getD (m.hgt - 1) 0 = m.final)
     rw [List.length_append, List.length_singleton]
     rcases Nat.eq_zero_or_pos m.hgt with h0 | h0
     · exact ⟨by omega, fun h => by omega⟩
     · have h2 : ¬ (branF m.L b).length < m.hgt := fun h => h1 ⟨h0, .inl h⟩
       refine ⟨by omega, fun _ => ?_⟩
       have h3 : ¬ (branF m.L b).getD (m.hgt - 1) 0 ≠ m.final := fun h => h1 ⟨h0, .inr h⟩
       rw [List.getD_eq_getElem?_getD, List.getElem?_append_left (by omega), ← List.getD_eq_getElem?_getD]
       exact Classical.not_not.1 h3
 · exact ha
def comN (l l' : List Int) : Nat := match l, l' with
 | a :: l, b :: l' => if a = b then comN l l' + 1 else 0
 | _, _ => 0
theorem comN_stop : ∀ (l l' : List Int) (n : Nat), n ≤ l.length → n ≤ l'.length → l.take n = l'.take n → (n < l.length → n < l'.length → l.getD n 0 ≠ l'.getD n 0) → comN l l' = n
 | [], l', n, h1, _, _, _ => by unfold comN; simp at h1; exact h1.symm
 | a :: l, [], n, _, h2, _, _ => by unfold comN; simp at h2; exact h2.symm
 | a :: l, b :: l', 0, _, _, _, h4 => by
   unfold comN; rw [if_neg]
   exact h4 (by simp) (by simp)
 | a :: l, b :: l', n + 1, h1, h2, h3, h4 => by
   rw [List.take_succ_cons, List.take_succ_cons] at h3
   injection h3 with e1 e2
   unfold comN
   rw [if_pos e1, comN_stop l l' n (by simpa using h1) (by simpa using h2) e2 fun g1 g2 => by
     have := h4 (by simpa using g1) (by simpa using g2)
     simpa using this]
end Go.Proofs.YtphacfkcifpobaaGreatDoor
/- The chain of the program: what Submit's walk wants beyond the plain law: reslices of lists of identifiers. -/
namespace Go.Proofs.YtphacfkcifpobaaGreatDoor
open Go.ChangeShapes Go.WideShapes Go.ChangeAt Go.RowKit Go.Sort Go.Maps
def rsA (a : Option Addr) (n cap : Nat) : Option Addr := if cap = n then a else a.map (·.add (n * 1))
theorem size_u64 (w : World) : (Go.sizeOf 24).run Tryz.prog w = .ok 1 w := by kernel_rfl
theorem resl (w : World) (a : Option Addr) (len cap n : Nat) (h : n ≤ len) :
   (Instr.slice 86 (.slice a len cap) (some (.int .i64 (n : Int))) none none).run Tryz.prog w = .ok (.slice (rsA a n cap) (len - n) (cap - n)) w := by
 have ht : Tryz.prog.underlying 86 = some (.slice 24) := by kernel_rfl
 have ht' : Tryz.prog.underlying 86 = some (.slice (Tryz.prog.elem 86)) := by simp [Program.elem, ht]
 have he : Tryz.prog.elem 86 = 24 := by simp [Program.elem, ht]
 rw [run_slice_l w 86 _ _ _ ht' .i64 _ (by omega) (by omega), he, size_u64]
 unfold rsA
 simp [Result.andThen, sliced]
theorem rsA_rel {S : Nat → Prop} {w : World} {a : Option Addr} {cap : Nat} {l : List Int} (h : numsR.rel S w [.slice a l.length cap] l) (n : Nat) (hn : n ≤ l.length) : numsR.rel S w [.slice (rsA a n cap) (l.length - n) (cap - n)] (l.drop n) := by
 obtain ⟨g0, g1, g2, g3⟩ := sliceR.lens h
 rcases Nat.lt_or_ge n l.length with hlt | hge
 · obtain ⟨b, off, rfl, -⟩ := nums_at h n hlt
   have h3 := sliceR.dropN h n hn
   have e : rsA (some ⟨b, off, none⟩) n cap = some ⟨b, off + n * 1, none⟩ := by
     unfold rsA
     rw [if_neg (by omega)]
     show some (Addr.add _ _) = _
     rw [Addr.add_lit]
   rw [e]
   exact h3
 · have e : l.length - n = 0 := by omega
   rw [e, List.drop_of_length_le hge]
   refine ⟨_, 0, cap - n, rfl, rfl, Nat.zero_le _, by omega, fun h => ?_, fun i x h => by simp at h⟩
   have ha : a = none := by
     unfold rsA at h
     split at h
     · exact h
     · simpa using h
   have := g3 ha
   omega
theorem putM_run {w : World} {b : Nat} {l : NMap} (hown : MapAt w b l) (hn : l.length < maxLen) {t e : TypeId} (ht : Tryz.prog.underlying t = some (.map 24 e)) (k : Int) (hk : okU k) (val : Value) :
   ∃ w', (Instr.mapUpdate t (.map (some b)) (.int .u64 k) val).run Tryz.prog w = .ok () w' ∧ MapAt w' b (putM l k val) ∧ OnlyAt b w w' ∧ w'.heap.size = w.heap.size := by
 obtain ⟨w', hrun, h1, h2⟩ := World.ownsMap.store hown lawU ht hn (key := .int .u64 k) (kl := .int .u64 k) (val := val) (d := .held val) (ps := []) (keyOf_int_mk Tryz.underlying24 hk) rfl; rw [enc_put] at h1
 exact ⟨w', hrun, MapAt.of h1, (only_of_turned h2).1, (only_of_turned h2).2⟩
theorem sto_put {w : World} {mb : Nat} {L : List StB} (h : StoAt w mb L) (hn : L.length ≤ 1000) (e : StB) (hid : okU e.id) (hf : findS L e.id = none) :
   ∃ w', (Instr.mapUpdate 104 (.map (some mb)) (.int .u64 e.id) (stV e)).run Tryz.prog w = .ok () w' ∧ StoAt w' mb (L ++ [e]) ∧ OnlyAt mb w w' ∧ w'.heap.size = w.heap.size := by
 obtain ⟨nm, h1, h2, h3⟩ := h
 obtain ⟨w', hrun, h4, h5, h6⟩ := putM_run h1 (by unfold maxLen; omega) Tryz.underlying104 e.id hid (stV e)
 refine ⟨w', hrun, ⟨_, h4, fun x => ?_, ?_⟩, h5, h6⟩
 · by_cases hx : x = e.id
   · subst hx
     rw [get_put_same, findS_new hf]; rfl
   · rw [get_put_other _ _ _ _ hx, h2, findS_miss hx]
 · have := putM_len nm e.id (stV e)
   rw [List.length_append, List.length_singleton]
   omega
theorem blks_split (L : List StB) (l : List Int) (n : Nat) : blksS L l = blksS L (l.take n) ++ blksS L (l.drop n) := by
 unfold blksS; rw [← List.map_append, List.take_append_drop]
theorem blks_get (L : List StB) (l : List Int) (k : Nat) (hk : k < (blksS L l).length) : (blksS L l)[k] = blkS L (l[k]'(by rw [blks_len] at hk; exact hk)) := List.getElem_map ..
theorem mv_any (c : Nat) (SB PI : Nat → Prop) (w : World) (r : RuM) (hr : RuOK r) (m : ChM) (l1 l2 : List Int) (n : Nat) (v : ChV) (h : ChAt c SB PI w r m (blksS m.L l1) v) (ho1 : RunOK r (blksS m.L l1)) (ho2 : RunOK r (blksS m.L l2)) (hcm : l1.take n = l2.take n) (hn2 : n ≤ l2.length) (hl1 : l1.length ≤ 200) (hl2 : l2.length ≤ 200)
   (fa : Option Addr) (fc : Nat) (S : Nat → Prop) (ta : Option Addr) (tc : Nat) (htl : numsR.rel S w [.slice ta l2.length tc] l2) (hS : ∀ k, S k → ¬ ChMut c v k) (hw : IsWay m.L l2) :
   Calls Tryz.prog 201 #[.pointer (some ⟨c, 0, none⟩), .slice fa (l1.length - n) fc, .slice (rsA ta n tc) (l2.length - n) (tc - n)] w fun e w' => e = .returned (.tuple #[]) ∧ MvOut c SB PI v w r m (blksS m.L l2) w' := by
 have e1 := blks_split m.L l1 n; have e2 := blks_split m.L l2 n; rw [← hcm] at e2; have hd := rsA_rel htl n hn2
 have f1 : l1.length - n = (blksS m.L (l1.drop n)).length := by rw [blks_len, List.length_drop]
 have f2 : l2.length - n = (l2.drop n).length := by rw [List.length_drop]
 rw [e1] at h ho1; rw [e2] at ho2 ⊢; rw [f2] at hd ⊢; rw [f1]
 have g1 : (blksS m.L (l1.take n) ++ blksS m.L (l1.drop n)).length ≤ 200 := by rw [← e1, blks_len]; exact hl1
 have g2 : (blksS m.L (l1.take n) ++ blksS m.L (l2.drop n)).length ≤ 200 := by rw [← e2, blks_len]; exact hl2
 refine move_any c SB PI w r hr m _ _ _ v h ho1 ho2 g1 g2 fa fc S _ _ _ hd hS (blks_len _ _).symm fun k hk hk' => ?_
 rw [List.length_drop] at hk
 obtain ⟨e, h1, -, -⟩ := hw (n + k) (by omega)
 refine ⟨e, (findS_some h1).1, by rw [List.getElem_drop]; exact h1, ?_⟩
 rw [blks_get, List.getElem_drop]; unfold blkS
 rw [h1]; rfl
theorem ChAt.put {c : Nat} {SB PI : Nat → Prop} {w w' : World} {r : RuM} {m : ChM} {bs : List BlkM} {v : ChV} (h : ChAt c SB PI w r m bs v) (e : StB) (hk : Kept (fun k => k ≠ v.mb) w w') (hst : StoAt w' v.mb (m.L ++ [e])) (hb : BlkIn (fun k => w.heap.size ≤ k) w' e.b e.xa e.xc) (hi : okU e.id) (ht : okU e.tot) :
   ChAt c (fun k => SB k ∨ (w.heap.size ≤ k ∧ k < w'.heap.size)) PI w' r ⟨m.L ++ [e], m.best, m.final, m.hgt⟩ bs v ∧ ChStp c SB PI v w (fun k => SB k ∨ (w.heap.size ≤ k ∧ k < w'.heap.size)) PI v w' := by
 have hs : ∀ k, SB k → k ≠ v.mb := fun k hk e => h.free k (.inr (.inl e)) hk
 refine ⟨⟨(hk.block c (box_lt h.cell) h.ne_mb).trans h.cell, fun e => ((h.orc e).keep hk hs).mono fun k hk => .inl hk, hst, ?_, numsR.mono (numsR.keep h.best (hk.mono fun k _ => hs k)) fun k _ hk => .inl hk, h.state.keep hk (fun k hk => (h.pi k hk).2) fun k hm e => h.ap2 (e ▸ hm), ?_, h.ap1, h.ap2, h.pi, ?_⟩, hk.mono fun k _ hn e => hn (.inr (.inl e)), fun _ h => .inl h, fun _ h => .inl h, ?_, fun _ h => .inl h⟩
 · intro x hx
   rcases List.mem_append.1 hx with h1 | h1
   · exact ⟨((h.blocks x h1).1.keep (hk.mono fun k _ => hs k)).mono fun k _ hk => .inl hk, (h.blocks x h1).2⟩
   · obtain rfl := List.mem_singleton.1 h1
     exact ⟨hb.mono fun k hk hl => .inr ⟨hl, hk⟩, hi, ht⟩
 · intro k hm hs'
   rcases hs' with h1 | h1
   · exact h.free k hm h1
   · have := h.mut_lt k hm; omega
 · intro k hs'
   rcases hs' with h1 | h1
   · exact Nat.lt_of_lt_of_le (h.lt k h1) hk.size
   · exact h1.2
 · intro k hs'
   rcases hs' with h1 | h1
   · exact .inl h1
   · exact .inr h1.1
theorem ChAt.setBest {c : Nat} {SB PI T : Nat → Prop} {w : World} {r : RuM} {m : ChM} {bs : List BlkM} {v : ChV} (h : ChAt c SB PI w r m bs v) (l : List Int) (ya : Option Addr) (yc : Nat) (hl : numsR.rel T w [.slice ya l.length yc] l) (hT : ∀ k, T k → ¬ ChMut c v k) :
   ChAt c (fun k => SB k ∨ (T k ∧ k < w.heap.size)) PI (w.setCell ⟨c, 11, none⟩ (.slice ya l.length yc)) r ⟨m.L, l, m.final, m.hgt⟩ bs { v with ba := ya, bc := yc } ∧ Kept (fun k => k ≠ c) w (w.setCell ⟨c, 11, none⟩ (.slice ya l.length yc)) := by
 have hk := kept_one w c 11 (.slice ya l.length yc); obtain ⟨h1, h2, h3, h4, h5⟩ := h.keepC hk
 refine ⟨⟨box_set h.cell, fun e => (h1 e).mono fun k hk => .inl hk, h2, fun e he => ⟨(h3 e he).1.mono fun k _ hk => .inl hk, (h3 e he).2⟩, ?_, h5, ?_, h.ap1, h.ap2, h.pi, ?_⟩, hk⟩
 · exact numsR.mono (numsR.keep hl (hk.mono fun k _ ht e => hT k ht (.inl e))) fun k hk' ht => .inr ⟨ht, Nat.lt_of_lt_of_le hk' (by simp [World.setCell])⟩
 · intro k hm hs'
   rcases hs' with h1 | h1
   · exact h.free k hm h1
   · exact hT k h1.1 hm
 · intro k hs'
   rcases hs' with h1 | h1
   · exact Nat.lt_of_lt_of_le (h.lt k h1) hk.size
   · exact Nat.lt_of_lt_of_le h1.2 hk.size
theorem finM_L (r : RuM) (m : ChM) : (finM r m).L = m.L := by unfold finM; split <;> rfl
theorem finM_best (r : RuM) (m : ChM) : (finM r m).best = m.best := by unfold finM; split <;> rfl
theorem subM_no {r : RuM} {m : ChM} {b : BlkM} {xa : Option Addr} {xc : Nat} (h : betS m b = false) : subM r m b xa xc = addM m b xa xc := by
 unfold subM; rw [if_neg (by rw [h]; simp)]
theorem subM_yes {r : RuM} {m : ChM} {b : BlkM} {xa : Option Addr} {xc : Nat} (h : betS m b = true) : subM r m b xa xc = finM r ⟨(addM m b xa xc).L, branF m.L b ++ [blkID b], m.final, m.hgt⟩ := by
 unfold subM; rw [if_pos h]
end Go.Proofs.YtphacfkcifpobaaGreatDoor
