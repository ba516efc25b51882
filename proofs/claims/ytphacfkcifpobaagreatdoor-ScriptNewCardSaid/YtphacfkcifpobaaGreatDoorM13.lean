/- The set of spend marks of the program. -/
import Derived.Test.YtphacfkcifpobaaGreatDoorM12
import Derived.Test.YtphacfkcifpobaaGreatDoorM02
import Derived.Test.YtphacfkcifpobaaGreatDoorM07
import Derived.WalkSpells
set_option maxRecDepth 100000
namespace Go.Proofs.YtphacfkcifpobaaGreatDoor
open Go.ChangeShapes Go.WideShapes Go.ChangeAt Go.RowKit Go.Sort
def setM (l : List Int) : NMap := l.map fun x => (x, .bool true)
def insI (x : Int) : List Int → List Int
 | [] => [x]
 | y :: r => if x < y then x :: y :: r else y :: insI x r
def delS (x : Int) (l : List Int) : List Int := l.filter fun y => y != x
def insS (x : Int) (l : List Int) : List Int := insI x (delS x l)
theorem setM_ins (x : Int) : ∀ l, insM (x, .bool true) (setM l) = setM (insI x l)
 | [] => rfl
 | y :: r => by
   have ih := setM_ins x r; unfold setM at ih ⊢
   simp only [List.map_cons, insM, insI]
   split
   · rfl
   · rw [ih]; rfl
theorem setM_del (x : Int) (l : List Int) : delM (setM l) x = setM (delS x l) := by
 unfold delM setM delS
 rw [List.filter_map]; rfl
theorem setM_put (x : Int) (l : List Int) : putM (setM l) x (.bool true) = setM (insS x l) := by
 unfold putM insS; rw [setM_del, setM_ins]
theorem setM_get (x : Int) : ∀ l, getM (setM l) x = if x ∈ l then some (.bool true) else none
 | [] => rfl
 | y :: r => by
   have ih := setM_get x r; unfold getM setM at ih ⊢; rw [List.map_cons, List.find?_cons]
   by_cases h : y = x
   · subst h; simp
   · have e : (y == x) = false := by rw [beq_eq_false_iff_ne]; exact h
     simp only [e]
     rw [ih]
     have : (x ∈ y :: r) ↔ x ∈ r := by simp [Ne.symm h]
     simp only [this]
theorem mem_insI (x z : Int) : ∀ l, z ∈ insI x l ↔ z = x ∨ z ∈ l
 | [] => by simp [insI]
 | y :: r => by
   have ih := mem_insI x z r; unfold insI
   split
   · simp
   · simp only [List.mem_cons, ih]; constructor
     · rintro (h | h | h) <;> simp [h]
     · rintro (h | h | h) <;> simp [h]
theorem mem_delS (x z : Int) (l : List Int) : z ∈ delS x l ↔ z ∈ l ∧ z ≠ x := by unfold delS; rw [List.mem_filter, bne_iff_ne]
theorem mem_insS (x z : Int) (l : List Int) : z ∈ insS x l ↔ z = x ∨ z ∈ l := by
 unfold insS; rw [mem_insI, mem_delS]
 by_cases h : z = x <;> simp [h]
theorem sorted_insI (x : Int) : ∀ l : List Int, l.Pairwise (· < ·) → x ∉ l → (insI x l).Pairwise (· < ·)
 | [], _, _ => by simp [insI]
 | y :: r, h, hx => by
   obtain ⟨h1, h2⟩ := List.pairwise_cons.1 h
   simp only [List.mem_cons, not_or] at hx
   unfold insI
   split
   · rename_i hlt
     refine List.pairwise_cons.2 ⟨fun z hz => ?_, h⟩
     rcases List.mem_cons.1 hz with rfl | hz
     · exact hlt
     · have := h1 z hz; omega
   · rename_i hlt
     refine List.pairwise_cons.2 ⟨fun z hz => ?_, sorted_insI x r h2 hx.2⟩
     rcases (mem_insI x z r).1 hz with rfl | hz
     · have := hx.1; omega
     · exact h1 z hz
theorem sorted_delS (x : Int) (l : List Int) (h : l.Pairwise (· < ·)) : (delS x l).Pairwise (· < ·) := h.filter _
theorem sorted_insS (x : Int) (l : List Int) (h : l.Pairwise (· < ·)) : (insS x l).Pairwise (· < ·) := sorted_insI x _ (sorted_delS x l h) (by rw [mem_delS]; simp)
theorem sorted_ext : ∀ {l m : List Int}, l.Pairwise (· < ·) → m.Pairwise (· < ·) → (∀ z, z ∈ l ↔ z ∈ m) → l = m
 | [], [], _, _, _ => rfl
 | [], y :: r, _, _, h => by have := (h y).2 (by simp); simp at this
 | x :: l, [], _, _, h => by have := (h x).1 (by simp); simp at this
 | x :: l, y :: r, hl, hm, h => by
   obtain ⟨l1, l2⟩ := List.pairwise_cons.1 hl; obtain ⟨m1, m2⟩ := List.pairwise_cons.1 hm
   have hxy : x = y := by
     rcases List.mem_cons.1 ((h x).1 (by simp)) with e | e
     · exact e
     · rcases List.mem_cons.1 ((h y).2 (by simp)) with e' | e'
       · exact e'.symm
       · have := m1 x e; have := l1 y e'; omega
   subst hxy
   rw [sorted_ext l2 m2 fun z => ?_]
   have := h z
   simp only [List.mem_cons] at this
   constructor
   · intro hz; rcases this.1 (.inr hz) with e | e
     · have := l1 z hz; omega
     · exact e
   · intro hz; rcases this.2 (.inr hz) with e | e
     · have := m1 z hz; omega
     · exact e
def addS (l ms : List Int) : List Int := ms.foldl (fun l x => insS x l) l
def remS (l ms : List Int) : List Int := ms.foldl (fun l x => delS x l) l
theorem mem_addS (z : Int) : ∀ (ms l : List Int), z ∈ addS l ms ↔ z ∈ ms ∨ z ∈ l
 | [], l => by simp [addS]
 | m :: ms, l => by
   have ih := mem_addS z ms (insS m l); unfold addS at ih ⊢; rw [List.foldl_cons, ih, mem_insS, List.mem_cons]
   constructor
   · rintro (h | h | h) <;> simp [h]
   · rintro ((h | h) | h) <;> simp [h]
theorem mem_remS (z : Int) : ∀ (ms l : List Int), z ∈ remS l ms ↔ z ∉ ms ∧ z ∈ l
 | [], l => by simp [remS]
 | m :: ms, l => by
   have ih := mem_remS z ms (delS m l); unfold remS at ih ⊢; rw [List.foldl_cons, ih, mem_delS, List.mem_cons, not_or]
   constructor
   · rintro ⟨h1, h2, h3⟩; exact ⟨⟨h3, h1⟩, h2⟩
   · rintro ⟨⟨h1, h2⟩, h3⟩; exact ⟨h2, h3, h1⟩
theorem sorted_addS : ∀ (ms l : List Int), l.Pairwise (· < ·) → (addS l ms).Pairwise (· < ·)
 | [], _, h => h
 | m :: ms, l, h => sorted_addS ms _ (sorted_insS m l h)
theorem sorted_remS : ∀ (ms l : List Int), l.Pairwise (· < ·) → (remS l ms).Pairwise (· < ·)
 | [], _, h => h
 | m :: ms, l, h => sorted_remS ms _ (sorted_delS m l h)
theorem rem_add (l ms : List Int) (h : l.Pairwise (· < ·)) (hd : ∀ x ∈ ms, x ∉ l) : remS (addS l ms) ms = l := by
 refine sorted_ext (sorted_remS _ _ (sorted_addS _ _ h)) h fun z => ?_
 rw [mem_remS, mem_addS]
 constructor
 · rintro ⟨h1, h2 | h2⟩
   · exact absurd h2 h1
   · exact h2
 · intro hz; exact ⟨fun hm => hd z hm hz, .inr hz⟩
def repB : List Int → List Int → Bool
 | _, [] => false
 | seen, x :: r => decide (x ∈ seen) || repB (insS x seen) r
theorem repB_nodup : ∀ (l seen : List Int), repB seen l = false ↔ l.Nodup ∧ ∀ x ∈ l, x ∉ seen
 | [], _ => by simp [repB]
 | x :: r, seen => by
   unfold repB; rw [Bool.or_eq_false_iff, decide_eq_false_iff_not, repB_nodup r, List.nodup_cons]
   constructor
   · rintro ⟨h1, h2, h3⟩
     refine ⟨⟨fun hx => h3 x hx ((mem_insS x x seen).2 (.inl rfl)), h2⟩, fun y hy => ?_⟩
     rcases List.mem_cons.1 hy with rfl | hy
     · exact h1
     · exact fun hs => h3 y hy ((mem_insS x y seen).2 (.inr hs))
   · rintro ⟨⟨h1, h2⟩, h3⟩
     refine ⟨h3 x (by simp), h2, fun y hy hs => ?_⟩
     rcases (mem_insS x y seen).1 hs with rfl | hs
     · exact h1 hy
     · exact h3 y (by simp [hy]) hs
structure SetAt (b : Nat) (w : World) (l : List Int) : Prop where
 map : MapAt w b (setM l)
 up : l.Pairwise (· < ·)
structure MkAt (s b : Nat) (w : World) (l : List Int) : Prop where
 cell : w.heap[s]? = some (.cells #[.map (some b)] 221 (0, 0))
 set : SetAt b w l
theorem SetAt.at' {b : Nat} {w w' : World} {l : List Int} (h : SetAt b w l) (e : w'.heap[b]? = w.heap[b]?) : SetAt b w' l := ⟨h.map.at' e, h.up⟩
theorem SetAt.keepB {b : Nat} {w w' : World} {l : List Int} (h : SetAt b w l) (hb : Below w.heap.size w w') : SetAt b w' l := ⟨h.map.keepB hb, h.up⟩
theorem MkAt.ne {s b : Nat} {w : World} {l : List Int} (h : MkAt s b w l) : s ≠ b := by
 rintro rfl; obtain ⟨es, clock, hb, _⟩ := h.set.map
 rw [h.cell] at hb; simp at hb
theorem MkAt.lt {s b : Nat} {w : World} {l : List Int} (h : MkAt s b w l) : s < w.heap.size := (Array.getElem?_eq_some_iff.1 h.cell).1
theorem MkAt.keep {S : Nat → Prop} {s b : Nat} {w w' : World} {l : List Int} (h : MkAt s b w l) (hk : Kept S w w') (hs : S s) (hb : S b) : MkAt s b w' l :=
 ⟨(hk.block s h.lt hs).trans h.cell, h.set.map.keep hk hb, h.set.up⟩
theorem MkAt.keepB {s b : Nat} {w w' : World} {l : List Int} (h : MkAt s b w l) (hb : Below w.heap.size w w') : MkAt s b w' l := ⟨box_after hb h.cell, h.set.keepB hb⟩
theorem SetAt.look {b : Nat} {w : World} {l : List Int} (h : SetAt b w l) (x : Int) (hx : okU x) : (Instr.lookup 219 (.map (some b)) (.int .u64 x) false).run Tryz.prog w = .ok (.bool (decide (x ∈ l))) w := by
 have h1 := h.map.look Tryz.underlying219 (zero_bool w) x hx; rw [setM_get] at h1; rw [h1]
 by_cases hm : x ∈ l <;> simp [hm]
theorem has_any (s b : Nat) (w : World) (l : List Int) (h : MkAt s b w l) (x : Int) (hx : okU x) :
   Calls Tryz.prog 220 #[(.pointer (some ⟨s, 0, none⟩)), .int .u64 x] w fun e w' => e = .returned (.bool (decide (x ∈ l))) ∧ Below w.heap.size w w' := by
 have hl := h.set.look x hx; obtain ⟨x0, x1⟩ := box_cells h.cell
 go_enter Tryz.func220, Tryz.ntmps220
 go_wp2_with fail; go_ret
 exact ⟨rfl, Below.refl _ _⟩
theorem mkNew_any (w : World) :
   Calls Tryz.prog 68 #[] w fun e w' => ∃ s b, e = .returned (.pointer (some ⟨s, 0, none⟩)) ∧ MkAt s b w' [] ∧ w.heap.size ≤ s ∧ w.heap.size ≤ b ∧ Below w.heap.size w w' := by
 have hmm := @run_makeMap Tryz.prog
 go_enter Tryz.func68, Tryz.ntmps68
 go_wp2_with fail; go_ret; have hg : ((w.alloc (.map #[] 0)).alloc (.cells #[.map (some w.heap.size)] 221)).heap[w.heap.size]? = some (.map #[] 0) := (two_new w (.map #[] 0) (.cells #[.map (some w.heap.size)] 221)).2; have hs : ((w.alloc (.map #[] 0)).alloc (.cells #[.map (some w.heap.size)] 221)).heap[w.heap.size + 1]? = some (.cells #[.map (some w.heap.size)] 221 (0, 0)) := (two_new w (.map #[] 0) (.cells #[.map (some w.heap.size)] 221)).1
 exact ⟨w.heap.size + 1, w.heap.size, rfl, ⟨hs, ⟨(mapAt_made w).at' (by rw [hg]; exact (box_new w (.map #[] 0)).symm), List.Pairwise.nil⟩⟩, by omega, Nat.le_refl _, bnew (bnew (Below.refl _ _) _) _⟩
theorem some_any (s b : Nat) (S : Nat → Prop) (w : World) (l : List Int) (h : MkAt s b w l) (a : Option Addr) (cap : Nat) (ms : List Int) (hms : numsR.rel S w [.slice a ms.length cap] ms) (c : Bool) :
   Calls Tryz.prog 314 #[(.pointer (some ⟨s, 0, none⟩)), .slice a ms.length cap, .bool c] w fun e w' => e = .returned (.bool (ms.any fun x => decide (x ∈ l) == c)) ∧ Below w.heap.size w w' := by
 have hml : ms.length ≤ 9223372036854775807 := by have := sliceR.lens hms; unfold maxLen at this; omega
 have hok := ints_wf hms; have HOK := Lib.hid hok; have HM := Lib.hid hms; have HS := Lib.hid h; clear hok hms h
 go_enter Tryz.func314, Tryz.ntmps314
 go_wp2_with fail
 go_loopw [11] (fun vi wr => ∃ k : Nat, k ≤ ms.length ∧ vi = .int .i64 k ∧ Below w.heap.size w wr ∧ Hid ((ms.take k).any (fun x => decide (x ∈ l) == c) = false)) (fun vi _ => ms.length - (intOf vi).toNat)
 case atStart => exact ⟨0, Nat.zero_le _, rfl, Below.refl _ _, by show _ = _; simp⟩
 case round =>
   obtain ⟨k, hk, rfl, hbr, hany⟩ := hrel
   by_cases hlt : k < ms.length
   · obtain ⟨bb, off, rfl, hbl, hcc⟩ := nums_at (numsR.keepB HM.out hbr) k hlt
     have HT : Hid ((ms.take (k + 1)).any (fun x => decide (x ∈ l) == c) = (decide (ms[k] ∈ l) == c)) := by show _ = _; rw [List.take_succ_eq_append_getElem hlt, List.any_append, hany.out]; simp
     have HT2 : Hid ((decide (ms[k] ∈ l) == c) = true → ms.any (fun x => decide (x ∈ l) == c) = true) := fun hh => List.any_eq_true.2 ⟨ms[k], List.getElem_mem hlt, hh⟩
     have HSR := Lib.hid (HS.out.keepB hbr); have hlk := HSR.out.set.look ms[k] (HOK.out _ (List.getElem_mem hlt)); generalize ms[k] = x at *; obtain ⟨x0, x1⟩ := box_cells HSR.out.cell; have HBR := Lib.hid hbr; clear hbr
     cases hd : (decide (x ∈ l) == c) with
     | true =>
       have HF := Lib.hid (HT2.out hd); go_wp2_with fail; go_ret
       exact ⟨congrArg (fun b => Ending.returned (.bool b)) HF.out.symm, HBR.out⟩
     | false =>
       go_wp2_with fail
       go_roundw
       case rel => exact ⟨k + 1, by omega, by go_num, HBR.out, by show _ = _; rw [HT.out, hd]⟩
       case measure => simp [intOf]; omega
   · obtain rfl : k = ms.length := by omega
     rw [List.take_length] at hany; go_wp2_with fail; go_ret
     exact ⟨congrArg (fun b => Ending.returned (.bool b)) hany.out.symm, hbr⟩
end Go.Proofs.YtphacfkcifpobaaGreatDoor
/- The set of spend marks of the program: Add, Remove. -/
namespace Go.Proofs.YtphacfkcifpobaaGreatDoor
open Go.ChangeShapes Go.WideShapes Go.ChangeAt Go.RowKit Go.Sort
theorem only_below {n b : Nat} {w wr w' : World} (hn : n = w.heap.size) (h : Below n w wr) (hb : n ≤ b) (ho : OnlyAt b wr w') : Below n w w' := by
 subst hn
 have h1 : Kept (fun i => i < w.heap.size) w wr := Kept.of_below h
 have h2 : Kept (fun i => i < w.heap.size) w w' := h1.trans ho fun i _ hi => by have : i < w.heap.size := hi; show i ≠ b; omega
 exact h2.below (Nat.le_refl _)
theorem delS_len (x : Int) (l : List Int) : (delS x l).length ≤ l.length := List.length_filter_le _ _
theorem insI_len (x : Int) : ∀ l, (insI x l).length = l.length + 1
 | [] => rfl
 | y :: r => by
   unfold insI
   split
   · rfl
   · simp [insI_len x r]
theorem insS_len (x : Int) (l : List Int) : (insS x l).length ≤ l.length + 1 := by
 unfold insS; rw [insI_len]; have := delS_len x l; omega
theorem addS_len : ∀ (ms l : List Int), (addS l ms).length ≤ l.length + ms.length
 | [], l => by simp [addS]
 | m :: ms, l => by
   have h1 := addS_len ms (insS m l); have h2 := insS_len m l; unfold addS at h1 ⊢
   rw [List.foldl_cons, List.length_cons]; omega
theorem remS_len : ∀ (ms l : List Int), (remS l ms).length ≤ l.length
 | [], l => by simp [remS]
 | m :: ms, l => by
   have h1 := remS_len ms (delS m l); have h2 := delS_len m l; unfold remS at h1 ⊢
   rw [List.foldl_cons]; omega
theorem addS_snoc (l ms : List Int) (k : Nat) (hk : k < ms.length) : addS l (ms.take (k + 1)) = insS ms[k] (addS l (ms.take k)) := by
 unfold addS; rw [List.take_succ_eq_append_getElem hk, List.foldl_append]; rfl
theorem remS_snoc (l ms : List Int) (k : Nat) (hk : k < ms.length) : remS l (ms.take (k + 1)) = delS ms[k] (remS l (ms.take k)) := by
 unfold remS; rw [List.take_succ_eq_append_getElem hk, List.foldl_append]; rfl
theorem SetAt.put {b : Nat} {w w' : World} {l : List Int} {x : Int} (h : SetAt b w l) (hm : MapAt w' b (putM (setM l) x (.bool true))) : SetAt b w' (insS x l) := ⟨by rw [← setM_put]; exact hm, sorted_insS x l h.up⟩
theorem SetAt.del {b : Nat} {w w' : World} {l : List Int} {x : Int} (h : SetAt b w l) (hm : MapAt w' b (delM (setM l) x)) : SetAt b w' (delS x l) := ⟨by rw [← setM_del]; exact hm, sorted_delS x l h.up⟩
theorem setM_len (l : List Int) : (setM l).length = l.length := by simp [setM]
set_option maxHeartbeats 1000000 in
theorem repeated_any (S : Nat → Prop) (w : World) (a : Option Addr) (cap : Nat) (ms : List Int) (hms : numsR.rel S w [.slice a ms.length cap] ms) (hlen : ms.length ≤ 1000000) :
   Calls Tryz.prog 315 #[.slice a ms.length cap] w fun e w' => e = .returned (.bool (repB [] ms)) ∧ Below w.heap.size w w' := by
 have hok := ints_wf hms; have HOK := Lib.hid hok; have HM := Lib.hid hms; clear hok hms; have hmm := @run_makeMap Tryz.prog
 go_enter Tryz.func315, Tryz.ntmps315
 go_upto_region 2 with (fail)
 have H0 : Hid (SetAt w.heap.size (w.alloc (.map #[] 0)) []) := ⟨mapAt_made w, List.Pairwise.nil⟩; have HB0 := Lib.hid (bnew (Below.refl w.heap.size w) (.map #[] 0)); generalize w.alloc (.map #[] 0) = W at *; go_wp2_with fail
 go_loopw [9] (fun vi wr => ∃ (k : Nat) (sn : List Int), k ≤ ms.length ∧ vi = .int .i64 k ∧ Below w.heap.size w wr ∧ SetAt w.heap.size wr sn ∧ sn.length ≤ k ∧ Hid (repB sn (ms.drop k) = repB [] ms)) (fun vi _ => ms.length - (intOf vi).toNat)
 case atStart => exact ⟨0, [], Nat.zero_le _, rfl, HB0.out, H0.out, Nat.le_refl _, rfl⟩
 case round =>
   obtain ⟨k, sn, hk, rfl, hbr, hsn, hsl, hrep⟩ := hrel
   by_cases hlt : k < ms.length
   · obtain ⟨bb, off, rfl, hbl, hcc⟩ := nums_at (numsR.keepB HM.out hbr) k hlt
     have HD := Lib.hid (List.drop_eq_getElem_cons hlt); have hokx := HOK.out _ (List.getElem_mem hlt); have hlk := hsn.look ms[k] hokx; have HOX := Lib.hid hokx; generalize ms[k] = x at *; have HSN := Lib.hid hsn; have HBR := Lib.hid hbr; have HSL := Lib.hid hsl; clear hsn hbr hsl hokx
     by_cases hd : x ∈ sn
     · have HF : Hid (repB [] ms = true) := by show _ = _; rw [← hrep.out, HD.out]; unfold repB; rw [decide_eq_true hd, Bool.true_or]
       rw [decide_eq_true hd] at hlk; go_wp2_with fail; go_ret
       exact ⟨congrArg (fun b => Ending.returned (.bool b)) HF.out.symm, HBR.out⟩
     · have HF : Hid (repB (insS x sn) (ms.drop (k + 1)) = repB [] ms) := by show _ = _; rw [← hrep.out, HD.out]; conv => rhs; unfold repB; rw [decide_eq_false hd, Bool.false_or]
       rw [decide_eq_false hd] at hlk
       go_wp2_with (at_mapUpdate; go_loud (refine wpList_putM rfl _ rfl _ _ _ 219 rfl 4 Tryz.underlying219 w.heap.size (setM sn) rfl HSN.out.map (by rw [setM_len]; unfold maxLen; have := HSL.out; omega) x (.bool true) rfl HOX.out rfl ?_))
       intro w4 hm4 ho4 hz4
       have HS4 := Lib.hid (HSN.out.put hm4); have HB4 := Lib.hid (only_below rfl HBR.out (Nat.le_refl _) ho4); clear hm4 ho4 hz4; go_wp2_with fail
       go_roundw
       case rel => exact ⟨k + 1, insS x sn, by omega, by go_num, HB4.out, HS4.out, by have := insS_len x sn; have := HSL.out; omega, HF⟩
       case measure => simp [intOf]; omega
   · obtain rfl : k = ms.length := by omega
     have HF : Hid (repB [] ms = false) := by show _ = _; rw [← hrep.out, List.drop_length]; rfl
     have HBR := Lib.hid hbr; clear hbr hsn; go_wp2_with fail; go_ret
     exact ⟨congrArg (fun b => Ending.returned (.bool b)) HF.out.symm, HBR.out⟩
def addE (l ms : List Int) : Int := if (ms.any fun x => decide (x ∈ l) == true) = true ∨ repB [] ms = true then 12 else 0
def addW (l ms : List Int) : List Int := if addE l ms = 0 then addS l ms else l
def remE (l ms : List Int) : Int := if (ms.any fun x => decide (x ∈ l) == false) = true ∨ repB [] ms = true then 4 else 0
def remW (l ms : List Int) : List Int := if remE l ms = 0 then remS l ms else l
set_option maxHeartbeats 1000000 in
theorem add_any (s b : Nat) (S : Nat → Prop) (w : World) (l : List Int) (h : MkAt s b w l) (a : Option Addr) (cap : Nat) (ms : List Int) (hms : numsR.rel S w [.slice a ms.length cap] ms) (hlen : ms.length ≤ 1000000) (hl : l.length ≤ 1000000000) (hSb : ¬ S b) :
   Calls Tryz.prog 311 #[(.pointer (some ⟨s, 0, none⟩)), .slice a ms.length cap] w fun e w' => e = .returned (.int .i64 (addE l ms)) ∧ MkAt s b w' (addW l ms) ∧ Kept (fun i => i ≠ b) w w' := by
 have hok := ints_wf hms; have HOK := Lib.hid hok; have HM := Lib.hid hms; have HS := Lib.hid h; have HNE := Lib.hid h.ne; clear hok hms h
 go_enter Tryz.func311, Tryz.ntmps311
 go_wp2_with fail
 refine (some_any s b S w l HS.out a cap ms HM.out true).mono ?_
 rintro e w1 ⟨rfl, hb1⟩; have HM1 := Lib.hid (numsR.keepB HM.out hb1); have HS1 := Lib.hid (HS.out.keepB hb1)
 have HK1 : Hid (Kept (fun i => i ≠ b) w w1) := Kept.of_below hb1
 by_cases hany : (ms.any fun x => decide (x ∈ l) == true) = true
 · have HF : Hid (addE l ms = 12) := by show _ = _; unfold addE; rw [if_pos (.inl hany)]
   have HF2 : Hid (addW l ms = l) := by show _ = _; unfold addW; rw [if_neg (by rw [HF.out]; omega)]
   rw [hany]; clear hany; go_wp2_with fail; go_ret
   exact ⟨ret_int HF.out.symm, by rw [HF2.out]; exact HS1.out, HK1.out⟩
 · have HNA := Lib.hid hany
   rw [Bool.not_eq_true] at hany; rw [hany]; clear hany; go_wp2_with fail
   refine (repeated_any S w1 a cap ms HM1.out hlen).mono ?_
   rintro e w2 ⟨rfl, hb2⟩; have HM2 := Lib.hid (numsR.keepB HM1.out hb2); have HS2 := Lib.hid (HS1.out.keepB hb2)
   have HK2 : Hid (Kept (fun i => i ≠ b) w w2) := HK1.out.trans (Kept.of_below (S := fun i => i ≠ b) hb2) fun _ _ h => h
   by_cases hrep : repB [] ms = true
   · have HF : Hid (addE l ms = 12) := by show _ = _; unfold addE; rw [if_pos (.inr hrep)]
     have HF2 : Hid (addW l ms = l) := by show _ = _; unfold addW; rw [if_neg (by rw [HF.out]; omega)]
     rw [hrep]; clear hrep; go_wp2_with fail; go_ret
     exact ⟨ret_int HF.out.symm, by rw [HF2.out]; exact HS2.out, HK2.out⟩
   · have HF : Hid (addE l ms = 0) := by show _ = _; unfold addE; rw [if_neg (by rintro (h | h); exact HNA.out h; exact hrep h)]
     have HF2 : Hid (addW l ms = addS l ms) := by show _ = _; unfold addW; rw [if_pos HF.out]
     rw [Bool.not_eq_true] at hrep; rw [hrep]; clear hrep hb1 hb2 HM1 HS1 HK1; obtain ⟨x0, x1⟩ := box_cells HS2.out.cell; have hqn : (binOp .eql 219 (.map (some b)) (.map none)).run Tryz.prog w2 = .ok (.bool false) w2 := run_eql_map_nil w2 _ _ _ (some b) Tryz.underlying219; go_wp2_with fail
     go_loopw [25] (fun vi wr => ∃ k : Nat, k ≤ ms.length ∧ vi = .int .i64 k ∧ SetAt b wr (addS l (ms.take k)) ∧ Kept (fun i => i ≠ b) w2 wr) (fun vi _ => ms.length - (intOf vi).toNat)
     case atStart => exact ⟨0, Nat.zero_le _, rfl, HS2.out.set, Kept.refl _ _⟩
     case round =>
       obtain ⟨k, hk, rfl, hsn, hkr⟩ := hrel
       by_cases hlt : k < ms.length
       · obtain ⟨bb, off, rfl, hbl, hcc⟩ := nums_at (numsR.keep HM2.out (hkr.mono fun i _ hi => fun e => hSb (e ▸ hi))) k hlt
         have HSNOC := Lib.hid (addS_snoc l ms k hlt); have HOX := Lib.hid (HOK.out _ (List.getElem_mem hlt))
         have HLE : Hid ((addS l (ms.take k)).length ≤ 1001000000) := by show _ ≤ _; have := addS_len (ms.take k) l; rw [List.length_take] at this; omega
         generalize ms[k] = x at *; have HSN := Lib.hid hsn; have HKR := Lib.hid hkr; obtain ⟨x0, x1⟩ := box_cells ((hkr.block s HS2.out.lt HNE.out).trans HS2.out.cell); clear hsn hkr
         go_wp2_with (at_mapUpdate; go_loud (refine wpList_putM rfl _ rfl _ _ _ 219 rfl 4 Tryz.underlying219 b (setM (addS l (ms.take k))) rfl HSN.out.map (by rw [setM_len]; unfold maxLen; have := HLE.out; omega) x (.bool true) rfl HOX.out rfl ?_))
         intro w4 hm4 ho4 hz4
         have HS4 := Lib.hid (HSN.out.put hm4)
         have HK4 : Hid (Kept (fun i => i ≠ b) w2 w4) := HKR.out.trans ho4 fun _ _ h => h
         clear hm4 ho4 hz4 x0 x1; go_wp2_with fail
         go_roundw
         case rel => exact ⟨k + 1, by omega, by go_num, by rw [HSNOC.out]; exact HS4.out, HK4.out⟩
         case measure => simp [intOf]; omega
       · obtain rfl : k = ms.length := by omega
         rw [List.take_length] at hsn; have HSN := Lib.hid hsn; have HKR := Lib.hid hkr; clear hsn hkr; go_wp2_with fail; go_ret
         exact ⟨ret_int HF.out.symm, by rw [HF2.out]; exact ⟨(HKR.out.block s HS2.out.lt HNE.out).trans HS2.out.cell, HSN.out⟩, HK2.out.trans HKR.out fun _ _ h => h⟩
set_option maxHeartbeats 1000000 in
theorem remove_any (s b : Nat) (S : Nat → Prop) (w : World) (l : List Int) (h : MkAt s b w l) (a : Option Addr) (cap : Nat) (ms : List Int) (hms : numsR.rel S w [.slice a ms.length cap] ms) (hlen : ms.length ≤ 1000000) (hl : l.length ≤ 1000000000) (hSb : ¬ S b) :
   Calls Tryz.prog 258 #[(.pointer (some ⟨s, 0, none⟩)), .slice a ms.length cap] w fun e w' => e = .returned (.int .i64 (remE l ms)) ∧ MkAt s b w' (remW l ms) ∧ Kept (fun i => i ≠ b) w w' := by
 have hok := ints_wf hms; have HOK := Lib.hid hok; have HM := Lib.hid hms; have HS := Lib.hid h; have HNE := Lib.hid h.ne; clear hok hms h
 go_enter Tryz.func258, Tryz.ntmps258
 go_wp2_with fail
 refine (some_any s b S w l HS.out a cap ms HM.out false).mono ?_
 rintro e w1 ⟨rfl, hb1⟩; have HM1 := Lib.hid (numsR.keepB HM.out hb1); have HS1 := Lib.hid (HS.out.keepB hb1)
 have HK1 : Hid (Kept (fun i => i ≠ b) w w1) := Kept.of_below hb1
 by_cases hany : (ms.any fun x => decide (x ∈ l) == false) = true
 · have HF : Hid (remE l ms = 4) := by show _ = _; unfold remE; rw [if_pos (.inl hany)]
   have HF2 : Hid (remW l ms = l) := by show _ = _; unfold remW; rw [if_neg (by rw [HF.out]; omega)]
   rw [hany]; clear hany; go_wp2_with fail; go_ret
   exact ⟨ret_int HF.out.symm, by rw [HF2.out]; exact HS1.out, HK1.out⟩
 · have HNA := Lib.hid hany
   rw [Bool.not_eq_true] at hany; rw [hany]; clear hany; go_wp2_with fail
   refine (repeated_any S w1 a cap ms HM1.out hlen).mono ?_
   rintro e w2 ⟨rfl, hb2⟩; have HM2 := Lib.hid (numsR.keepB HM1.out hb2); have HS2 := Lib.hid (HS1.out.keepB hb2)
   have HK2 : Hid (Kept (fun i => i ≠ b) w w2) := HK1.out.trans (Kept.of_below (S := fun i => i ≠ b) hb2) fun _ _ h => h
   by_cases hrep : repB [] ms = true
   · have HF : Hid (remE l ms = 4) := by show _ = _; unfold remE; rw [if_pos (.inr hrep)]
     have HF2 : Hid (remW l ms = l) := by show _ = _; unfold remW; rw [if_neg (by rw [HF.out]; omega)]
     rw [hrep]; clear hrep; go_wp2_with fail; go_ret
     exact ⟨ret_int HF.out.symm, by rw [HF2.out]; exact HS2.out, HK2.out⟩
   · have HF : Hid (remE l ms = 0) := by show _ = _; unfold remE; rw [if_neg (by rintro (h | h); exact HNA.out h; exact hrep h)]
     have HF2 : Hid (remW l ms = remS l ms) := by show _ = _; unfold remW; rw [if_pos HF.out]
     rw [Bool.not_eq_true] at hrep; rw [hrep]; clear hrep hb1 hb2 HM1 HS1 HK1; go_wp2_with fail
     go_loopw [16] (fun vi wr => ∃ k : Nat, k ≤ ms.length ∧ vi = .int .i64 k ∧ SetAt b wr (remS l (ms.take k)) ∧ Kept (fun i => i ≠ b) w2 wr) (fun vi _ => ms.length - (intOf vi).toNat)
     case atStart => exact ⟨0, Nat.zero_le _, rfl, HS2.out.set, Kept.refl _ _⟩
     case round =>
       obtain ⟨k, hk, rfl, hsn, hkr⟩ := hrel
       by_cases hlt : k < ms.length
       · obtain ⟨bb, off, rfl, hbl, hcc⟩ := nums_at (numsR.keep HM2.out (hkr.mono fun i _ hi => fun e => hSb (e ▸ hi))) k hlt
         have HSNOC := Lib.hid (remS_snoc l ms k hlt); have HOX := Lib.hid (HOK.out _ (List.getElem_mem hlt))
         have HLE : Hid ((remS l (ms.take k)).length ≤ 1001000000) := by show _ ≤ _; have := remS_len (ms.take k) l; omega
         generalize ms[k] = x at *; have HSN := Lib.hid hsn; have HKR := Lib.hid hkr; obtain ⟨x0, x1⟩ := box_cells ((hkr.block s HS2.out.lt HNE.out).trans HS2.out.cell); clear hsn hkr
         go_wp2_with (at_delete; go_loud (refine wpList_delM rfl _ rfl _ _ 219 rfl 4 Tryz.underlying219 b (setM (remS l (ms.take k))) rfl HSN.out.map x rfl HOX.out ?_))
         intro w4 hm4 ho4 hz4
         have HS4 := Lib.hid (HSN.out.del hm4)
         have HK4 : Hid (Kept (fun i => i ≠ b) w2 w4) := HKR.out.trans ho4 fun _ _ h => h
         clear hm4 ho4 hz4 x0 x1; go_wp2_with fail
         go_roundw
         case rel => exact ⟨k + 1, by omega, by go_num, by rw [HSNOC.out]; exact HS4.out, HK4.out⟩
         case measure => simp [intOf]; omega
       · obtain rfl : k = ms.length := by omega
         rw [List.take_length] at hsn; have HSN := Lib.hid hsn; have HKR := Lib.hid hkr; clear hsn hkr; go_wp2_with fail; go_ret
         exact ⟨ret_int HF.out.symm, by rw [HF2.out]; exact ⟨(HKR.out.block s HS2.out.lt HNE.out).trans HS2.out.cell, HSN.out⟩, HK2.out.trans HKR.out fun _ _ h => h⟩
end Go.Proofs.YtphacfkcifpobaaGreatDoor
/- Frontiers of the program: node, Empty, Valid. -/
namespace Go.Proofs.YtphacfkcifpobaaGreatDoor
open Go.ChangeShapes Go.WideShapes Go.ChangeAt Go.RowKit Go.Sort
abbrev nodeH (l r : Int) : Int := hashS 6 [l, r]
theorem nodeH_in (l r : Int) : 0 ≤ nodeH l r ∧ nodeH l r < 18446744069414584321 := hashS_in _ _
def emptyF : Nat → Int
 | 0 => hashS 6 []
 | k + 1 => nodeH (emptyF k) (emptyF k)
theorem emptyF_in : ∀ k, 0 ≤ emptyF k ∧ emptyF k < 18446744069414584321
 | 0 => hashS_in _ _
 | _ + 1 => nodeH_in _ _
theorem okP {x : Int} (h : 0 ≤ x ∧ x < 18446744069414584321) : okU x := okU_of h.1 (by omega)
set_option maxHeartbeats 1000000 in
theorem empty_any (w : World) (n : Nat) (hn : n ≤ 12) :
   Calls Tryz.prog 112 #[.int .i64 n] w fun e w' => e = .returned (.int .u64 (emptyF n)) ∧ Below w.heap.size w w' := by
 go_enter Tryz.func112, Tryz.ntmps112
 go_wp2_with fail
 refine (Hash_big 6 (by omega) (fun _ => True) w none 0 [] sliceR.nil (by simp)).mono ?_
 rintro e w1 ⟨rfl, hb1⟩; go_wp2_with fail
 go_loopw [3, 12] (fun vd vi wr => ∃ k : Nat, k ≤ n ∧ vi = .int .i64 k ∧ vd = .int .u64 (emptyF k) ∧ Below w.heap.size w wr) (fun _ vi _ => n - (intOf vi).toNat)
 case atStart => exact ⟨0, Nat.zero_le _, rfl, rfl, hb1⟩
 case round =>
   obtain ⟨k, hk, rfl, rfl, hbr⟩ := hrel; have HI := Lib.hid (emptyF_in k)
   by_cases hlt : k < n
   · have HE : Hid (nodeH (emptyF k) (emptyF k) = emptyF (k + 1)) := rfl
     generalize emptyF k = x at *; go_wp2_with fail
     refine (node_any wr x x (okP HI.out) (okP HI.out)).mono ?_
     rintro e w3 ⟨rfl, hb3⟩; go_wp2_with fail
     go_roundw
     case rel => exact ⟨k + 1, by omega, by go_num, by rw [← HE.out], bnext hbr hb3⟩
     case measure => simp [intOf]; omega
   · obtain rfl : k = n := by omega
     clear HI; obtain ⟨x, hx⟩ : ∃ x, emptyF k = x := ⟨_, rfl⟩; have HE := Lib.hid hx; rw [hx]; clear hx; go_wp2_with fail; go_ret
     exact ⟨ret_int HE.out.symm, hbr⟩
structure FrM where
 depth : Int
 count : Int
 left : List Int
abbrev bitF (c : Int) (i : Nat) : Int := bits BinOp.and IntKind.i64 (c / 2 ^ i) 1
structure FrOK (f : FrM) (D : Nat) : Prop where
 d0 : 1 ≤ D
 d1 : D ≤ 12
 depth : f.depth = D
 c0 : 0 ≤ f.count
 c1 : f.count ≤ 2 ^ D
 len : f.left.length = D + 1
 bits : ∀ (i : Nat) (h : i < f.left.length), 0 ≤ f.left[i] ∧ f.left[i] < 18446744069414584321 ∧ (bitF f.count i = 0 → f.left[i] = 0)
set_option maxHeartbeats 1000000 in
theorem frValid_any (S : Nat → Prop) (w : World) (f : FrM) (D : Nat) (hf : FrOK f D) (la : Option Addr) (lc : Nat) (hl : numsR.rel S w [.slice la f.left.length lc] f.left) :
   Calls Tryz.prog 111 #[.agg #[.int .i64 f.depth, .int .i64 f.count, .slice la f.left.length lc]] w fun e w' => e = .returned (.bool true) ∧ Below w.heap.size w w' := by
 obtain ⟨d0, d1, hd, c0, c1, hlen, hbits⟩ := hf; rw [hd]
 obtain ⟨e1, e2, e3⟩ := pow12 ⟨D, by omega⟩
 simp only at e1 e2 e3
 have hbA := bnew (Below.refl w.heap.size w) (.cells #[.int .i64 D, .int .i64 f.count, .slice la f.left.length lc] 148); have HX := Lib.hid (box_new w (.cells #[.int .i64 D, .int .i64 f.count, .slice la f.left.length lc] 148)); have HL := Lib.hid (numsR.keepB hl hbA); have HB := Lib.hid hbA; have HBITS := Lib.hid hbits
 have hw1 : wrap64 ((D : Int) + 1) = (f.left.length : Int) := by unfold wrap64; omega
 have hl13 : f.left.length ≤ 13 := by omega
 generalize hP2 : (2 : Int) ^ D = P2 at *
 have e4 : wrap64 P2 = P2 := by unfold wrap64; omega
 have g3 : ((f.left.length : Int) != (D : Int) + 1) = false := by rw [bne_eq_false_iff_eq]; omega
 have g1 : decide (f.count < 0) = false := decide_eq_false (by omega)
 have g2 : decide (P2 < f.count) = false := decide_eq_false (by omega)
 clear hbA hl hbits hlen hd
 go_enter Tryz.func111, Tryz.ntmps111
 go_upto_region 1 with (fail)
 generalize w.alloc (.cells #[.int .i64 D, .int .i64 f.count, .slice la f.left.length lc] 148) = W at *; obtain ⟨y0, y1⟩ := box_cells HX.out
 go_upto_region 3 with (fail)
 have x0 := box_regrown HX.out
 refine wp_region_quiet_below (by kernel_rfl) (by kernel_rfl) ?_
 repeat (first | go_big_quiet_step (fail) | quiet_step (fail))
 refine wpQuiet_nil ?_
 intro wq hw'
 obtain ⟨⟨dq, osq⟩, hw''⟩ := hw'; have hbwq := below_regrown W dq osq; rw [← hw''] at hbwq; clear hw'' x0; clear y0 y1; obtain ⟨y0, y1⟩ := box_cells (box_after hbwq HX.out); go_wp2_with fail; clear y0 y1
 go_loopw [36] (fun vi wr => ∃ k : Nat, k ≤ f.left.length ∧ vi = .int .i64 k ∧ Below W.heap.size W wr) (fun vi _ => f.left.length - (intOf vi).toNat)
 case atStart => exact ⟨0, Nat.zero_le _, rfl, hbwq⟩
 case round =>
   obtain ⟨k, hk, rfl, hbr⟩ := hrel
   by_cases hlt : k < f.left.length
   · obtain ⟨b, off, rfl, hbl, n0, n1, hc⟩ := nums_at (numsR.keepB HL.out hbr) k hlt
     obtain ⟨b0, b1, b2⟩ := HBITS.out k hlt; generalize f.left[k] = n at *; obtain ⟨y0, y1⟩ := box_cells (box_after hbr HX.out); have HBR := Lib.hid hbr; clear hbr
     cases hbit : (bits BinOp.and IntKind.i64 (f.count / 2 ^ k) 1 == 0) with
     | true =>
       have hn0 : n = 0 := b2 (by simpa using hbit)
       subst hn0; clear b2; go_wp2_with fail
       go_roundw
       case rel => exact ⟨k + 1, by omega, by go_num, HBR.out⟩
       case measure => simp [intOf]; omega
     | false =>
       clear b2
       by_cases hz : n = 0
       · subst hz
         go_wp2_with fail
         go_roundw
         case rel => exact ⟨k + 1, by omega, by go_num, HBR.out⟩
         case measure => simp [intOf]; omega
       · have z1 : (n != 0) = true := by rw [bne_iff_ne]; exact hz
         go_wp2_with fail
         go_roundw
         case rel => exact ⟨k + 1, by omega, by go_num, HBR.out⟩
         case measure => simp [intOf]; omega
   · obtain rfl : k = f.left.length := by omega
     go_wp2_with fail; go_ret
     exact ⟨rfl, bnext HB.out hbr⟩
end Go.Proofs.YtphacfkcifpobaaGreatDoor
