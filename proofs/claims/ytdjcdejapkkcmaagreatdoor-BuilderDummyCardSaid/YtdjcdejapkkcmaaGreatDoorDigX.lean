/- The program's digest of a statement, exact. -/
import Derived.Test.YtdjcdejapkkcmaaGreatDoorM09
import Derived.Test.YtdjcdejapkkcmaaGreatDoorM04
namespace Go.Proofs.YtdjcdejapkkcmaaGreatDoor
open Go.ChangeShapes Go.WideShapes Go.ChangeAt Go.RowKit Go.Sort

/-- What is hashed of a statement. -/
def maxZ (d : Int) : Int := if d < 0 then 0 else d
def digestL (s : StM) : List Int := [maxZ s.depth, s.anchor, (s.marks.length : Int)] ++ s.marks ++ [(s.commits.length : Int)] ++ s.commits ++ s.rhos ++ [s.dep, s.wd, s.fee, s.acc, s.bind]
theorem digestL_len (s : StM) : (digestL s).length = 9 + s.marks.length + s.commits.length + s.rhos.length := by simp [digestL]; omega
theorem own_new (w : World) (t : TypeId) (l : List Int) (hl : ∀ x ∈ l, okU x) (hm : l.length ≤ 100) : Own u64R w.heap.size t (fun x => False ∨ w.heap.size ≤ x) (w.alloc (.cells (l.map (Value.int .u64)).toArray t)) (.slice (some ⟨w.heap.size, 0, none⟩) l.length l.length) l :=
  own_ints (cur := l.map (Value.int .u64)) (box_new _ _) (by rw [List.length_map]) (List.take_of_length_le (by rw [List.length_map]; exact Nat.le_refl _)) hl (Nat.le_refl _) (by unfold maxLen; omega) (Nat.le_refl _)
set_option maxRecDepth 100000 in
set_option maxHeartbeats 4000000 in
theorem digest_any (S : Nat → Prop) (w : World) (s : StM) (ma ca ra : Option Addr) (mc cc rc : Nat) (hs : StIn S w s ma ca ra mc cc rc) (b1 : s.marks.length ≤ 1000) (b2 : s.commits.length ≤ 1000) (b3 : s.rhos.length ≤ 1000) (hd : s.depth < 9223372036854775808) :
    Calls Tryz.prog 72 #[.agg #[.int .i64 s.depth, .int .u64 s.anchor, .slice ma s.marks.length mc, .slice ca s.commits.length cc, .slice ra s.rhos.length rc, .int .u64 s.dep, .int .u64 s.wd, .int .u64 s.fee, .int .u64 s.acc, .int .u64 s.bind]] w fun e w' => e = .returned (.int .u64 (hashS 24 (digestL s))) ∧ Below w.heap.size w w' := by
  have hbA := bnew (Below.refl w.heap.size w) (.cells #[.int .i64 s.depth, .int .u64 s.anchor, .slice ma s.marks.length mc, .slice ca s.commits.length cc, .slice ra s.rhos.length rc, .int .u64 s.dep, .int .u64 s.wd, .int .u64 s.fee, .int .u64 s.acc, .int .u64 s.bind] 103)
  have HX := Lib.hid (box_new w (.cells #[.int .i64 s.depth, .int .u64 s.anchor, .slice ma s.marks.length mc, .slice ca s.commits.length cc, .slice ra s.rhos.length rc, .int .u64 s.dep, .int .u64 s.wd, .int .u64 s.fee, .int .u64 s.acc, .int .u64 s.bind] 103))
  have HS := Lib.hid (hs.keepB hbA)
  have HBA := Lib.hid hbA
  have HOK : Hid (okU s.dep ∧ okU s.wd ∧ okU s.fee ∧ okU s.acc ∧ okU s.bind) := ⟨hs.dep, hs.wd, hs.fee, hs.acc, hs.bind⟩
  have HOA := Lib.hid hs.anchor
  obtain ⟨E, hE⟩ : ∃ E, maxZ s.depth = E := ⟨_, rfl⟩
  have hE0 : 0 ≤ E ∧ E < 9223372036854775808 := by
    rw [← hE]; unfold maxZ; split <;> omega
  have HE := Lib.hid hE
  have HOE : Hid (okU E) := okU_of hE0.1 (by omega)
  have hwE : IntKind.u64.wrap E = E := by rw [IntKind.wrap_u64]; omega
  have hwM : IntKind.u64.wrap (s.marks.length : Int) = s.marks.length := by rw [IntKind.wrap_u64]; omega
  have hwC : IntKind.u64.wrap (s.commits.length : Int) = s.commits.length := by rw [IntKind.wrap_u64]; omega
  have hME : (if (0 : Int) > s.depth then 0 else s.depth) = E := hE
  clear hbA hs hE
  go_enter Tryz.func72, Tryz.ntmps72
  go_upto_region 1 with (fail)
  generalize w.alloc (.cells #[.int .i64 s.depth, .int .u64 s.anchor, .slice ma s.marks.length mc, .slice ca s.commits.length cc, .slice ra s.rhos.length rc, .int .u64 s.dep, .int .u64 s.wd, .int .u64 s.fee, .int .u64 s.acc, .int .u64 s.bind] 103) = W at *
  obtain ⟨x0, x1⟩ := box_cells HX.out
  go_upto_region 2 with (fail)
  have HO0 := Lib.hid (own_new W 24 [E, s.anchor, (s.marks.length : Int)] (by intro x hx; simp at hx; rcases hx with rfl | rfl | rfl; exact HOE.out; exact HOA.out; exact okU_of (by omega) (by omega)) (by simp))
  have HB0 := Lib.hid (bnew (Below.refl W.heap.size W) (.cells #[.int .u64 E, .int .u64 s.anchor, .int .u64 s.marks.length] 24))
  obtain ⟨l0, hl0⟩ : ∃ l, [E, s.anchor, (s.marks.length : Int)] = l := ⟨_, rfl⟩
  have HE0 := Lib.hid hl0
  have HLN0 : Hid (l0.length ≤ 1000) := by show _ ≤ _; rw [← hl0]; simp
  have HO0' : Hid (Own u64R W.heap.size 24 (fun x => False ∨ W.heap.size ≤ x) (W.alloc (.cells #[.int .u64 E, .int .u64 s.anchor, .int .u64 s.marks.length] 24)) (.slice (some ⟨W.heap.size, 0, none⟩) 3 3) l0) := by rw [← hl0]; exact HO0.out
  have HO0 := HO0'
  clear hl0 HO0'
  generalize W.alloc (.cells #[.int .u64 E, .int .u64 s.anchor, .int .u64 s.marks.length] 24) = w0 at *
  generalize Value.slice (some ⟨W.heap.size, 0, none⟩) 3 3 = v0 at *
  clear x0 x1
  obtain ⟨x0, x1⟩ := box_cells (box_after HB0.out HX.out)
  have hB0 := HB0.out.size
  have HC0 : Hid (numsR.rel S w0 [.slice ma s.marks.length mc] s.marks) := numsR.keepB HS.out.marks HB0.out
  go_wp2_with (at_builtin; go_loud (refine wpList_cat (k := .u64) (v := v0) (u := .slice ma s.marks.length mc) (w0 := W) (B := W.heap.size) (wr := w0) (ys := s.marks) rfl _ _ rfl Tryz.etyNums rfl rfl HB0.out hB0 HO0.out HC0.out (by unfold maxLen; have := HLN0.out; omega) (by have := HLN0.out; omega) ?_))
  intro v1 w1 ho hb
  have HO1 : Hid (Own u64R W.heap.size 24 (fun x => False ∨ W.heap.size ≤ x) w1 v1 (l0 ++ s.marks)) := Own.mono ho fun x _ h => by first | exact h | exact .inr h
  have HB1 := Lib.hid hb
  obtain ⟨l1, hle⟩ : ∃ l, l0 ++ s.marks = l := ⟨_, rfl⟩
  have HE1 := Lib.hid hle
  have HLN1 : Hid (l1.length ≤ 2000) := by show _ ≤ _; have := HLN0.out; rw [← hle, List.length_append]; omega
  rw [hle] at HO1
  clear ho hb hle x0 x1 hB0
  obtain ⟨x0, x1⟩ := box_cells (box_after HB1.out HX.out)
  have hB1 := HB1.out.size
  have HC1 : Hid (u64R.rel (fun _ => False) w1 [.int .u64 ((s.commits.length : Int))] ((s.commits.length : Int))) := ⟨rfl, okU_of (by omega) (by omega)⟩
  go_wp2_with (at_builtin; go_loud (refine wpList_push (r := u64R) (v := v1) (wr := w1) (es := [.int .u64 ((s.commits.length : Int))]) (w0 := W) (B := W.heap.size) rfl _ _ rfl Tryz.etyNums rfl rfl HB1.out hB1 HO1.out HC1.out (fun x hx => hx.elim) (by unfold maxLen; have := HLN1.out; omega) (by have := HLN1.out; omega) ?_))
  intro v2 w2 ho hb
  have HO2 : Hid (Own u64R W.heap.size 24 (fun x => False ∨ W.heap.size ≤ x) w2 v2 (l1 ++ [(s.commits.length : Int)])) := Own.mono ho fun x _ h => by first | exact h | exact .inr h
  have HB2 := Lib.hid hb
  obtain ⟨l2, hle⟩ : ∃ l, l1 ++ [(s.commits.length : Int)] = l := ⟨_, rfl⟩
  have HE2 := Lib.hid hle
  have HLN2 : Hid (l2.length ≤ 3000) := by show _ ≤ _; have := HLN1.out; rw [← hle, List.length_append]; simp; omega
  rw [hle] at HO2
  clear ho hb hle x0 x1 hB1
  obtain ⟨x0, x1⟩ := box_cells (box_after HB2.out HX.out)
  have hB2 := HB2.out.size
  have HC2 : Hid (numsR.rel S w2 [.slice ca s.commits.length cc] s.commits) := numsR.keepB HS.out.commits HB2.out
  go_wp2_with (at_builtin; go_loud (refine wpList_cat (k := .u64) (v := v2) (u := .slice ca s.commits.length cc) (w0 := W) (B := W.heap.size) (wr := w2) (ys := s.commits) rfl _ _ rfl Tryz.etyNums rfl rfl HB2.out hB2 HO2.out HC2.out (by unfold maxLen; have := HLN2.out; omega) (by have := HLN2.out; omega) ?_))
  intro v3 w3 ho hb
  have HO3 : Hid (Own u64R W.heap.size 24 (fun x => False ∨ W.heap.size ≤ x) w3 v3 (l2 ++ s.commits)) := Own.mono ho fun x _ h => by first | exact h | exact .inr h
  have HB3 := Lib.hid hb
  obtain ⟨l3, hle⟩ : ∃ l, l2 ++ s.commits = l := ⟨_, rfl⟩
  have HE3 := Lib.hid hle
  have HLN3 : Hid (l3.length ≤ 4000) := by show _ ≤ _; have := HLN2.out; rw [← hle, List.length_append]; omega
  rw [hle] at HO3
  clear ho hb hle x0 x1 hB2
  obtain ⟨x0, x1⟩ := box_cells (box_after HB3.out HX.out)
  have hB3 := HB3.out.size
  have HC3 : Hid (numsR.rel S w3 [.slice ra s.rhos.length rc] s.rhos) := numsR.keepB HS.out.rhos HB3.out
  go_wp2_with (at_builtin; go_loud (refine wpList_cat (k := .u64) (v := v3) (u := .slice ra s.rhos.length rc) (w0 := W) (B := W.heap.size) (wr := w3) (ys := s.rhos) rfl _ _ rfl Tryz.etyNums rfl rfl HB3.out hB3 HO3.out HC3.out (by unfold maxLen; have := HLN3.out; omega) (by have := HLN3.out; omega) ?_))
  intro v4 w4 ho hb
  have HO4 : Hid (Own u64R W.heap.size 24 (fun x => False ∨ W.heap.size ≤ x) w4 v4 (l3 ++ s.rhos)) := Own.mono ho fun x _ h => by first | exact h | exact .inr h
  have HB4 := Lib.hid hb
  obtain ⟨l4, hle⟩ : ∃ l, l3 ++ s.rhos = l := ⟨_, rfl⟩
  have HE4 := Lib.hid hle
  have HLN4 : Hid (l4.length ≤ 5000) := by show _ ≤ _; have := HLN3.out; rw [← hle, List.length_append]; omega
  rw [hle] at HO4
  clear ho hb hle x0 x1 hB3
  obtain ⟨x0, x1⟩ := box_cells (box_after HB4.out HX.out)
  have hbn := bnew (Below.refl w4.heap.size w4) (.cells #[.int .u64 s.dep, .int .u64 s.wd, .int .u64 s.fee, .int .u64 s.acc, .int .u64 s.bind] 24)
  have HC4 := Lib.hid (nums_new w4 24 [s.dep, s.wd, s.fee, s.acc, s.bind] 5 (by intro x hx; simp at hx; rcases hx with rfl | rfl | rfl | rfl | rfl; exact HOK.out.1; exact HOK.out.2.1; exact HOK.out.2.2.1; exact HOK.out.2.2.2.1; exact HOK.out.2.2.2.2) (by simp) (by unfold maxLen; omega))
  have HBN := Lib.hid (bnext HB4.out hbn)
  have HON := Lib.hid (HO4.out.keepB hbn)
  have hB4 := HBN.out.size
  clear hbn
  go_wp2_with (at_builtin; go_loud (refine wpList_cat (k := .u64) (v := v4) (u := .slice (some ⟨w4.heap.size, 0, none⟩) 5 5) (w0 := W) (B := W.heap.size) (wr := w4.alloc (.cells #[.int .u64 s.dep, .int .u64 s.wd, .int .u64 s.fee, .int .u64 s.acc, .int .u64 s.bind] 24)) (ys := [s.dep, s.wd, s.fee, s.acc, s.bind]) rfl _ _ rfl Tryz.etyNums rfl rfl HBN.out hB4 HON.out HC4.out (by unfold maxLen; have := HLN4.out; simp; omega) (by have := HLN4.out; simp; omega) ?_))
  intro v5 w5 ho hb
  have HO5 : Hid (Own u64R W.heap.size 24 (fun x => False ∨ W.heap.size ≤ x) w5 v5 (l4 ++ [s.dep, s.wd, s.fee, s.acc, s.bind])) := Own.mono ho fun x _ h => by first | exact h | exact .inr h
  have HB5 := Lib.hid hb
  obtain ⟨l5, hle⟩ : ∃ l, l4 ++ [s.dep, s.wd, s.fee, s.acc, s.bind] = l := ⟨_, rfl⟩
  have HE5 := Lib.hid hle
  have HLN5 : Hid (l5.length ≤ 6000) := by show _ ≤ _; have := HLN4.out; rw [← hle, List.length_append]; simp; omega
  rw [hle] at HO5
  clear ho hb hle x0 x1 hB4
  have HL : Hid (l5 = digestL s) := by
    show _ = _
    rw [← HE5.out, ← HE4.out, ← HE3.out, ← HE2.out, ← HE1.out, ← HE0.out, ← HE.out]; rfl
  obtain ⟨va, vc, rfl, -, -⟩ := sliceR.form HO5.out.slice
  have HH := Lib.hid HO5.out.slice
  have HLL : Hid (l5.length ≤ 1000000) := by show _ ≤ _; rw [HL.out, digestL_len]; omega
  go_wp2_with fail
  refine (Hash_big 24 (by omega) _ w5 va vc l5 HH.out HLL.out).mono ?_
  rintro e w6 ⟨rfl, hb6⟩
  rw [HL.out]
  go_wp2_with fail
  go_ret
  exact ⟨rfl, bnext HBA.out (bnext HB5.out hb6)⟩
end Go.Proofs.YtdjcdejapkkcmaaGreatDoor
