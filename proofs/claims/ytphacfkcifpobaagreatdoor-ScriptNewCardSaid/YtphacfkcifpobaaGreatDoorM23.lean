/- The network's own functions, continued: New, Len, Send, Copy, Pending. -/
import Derived.Test.YtphacfkcifpobaaGreatDoorM22
import Derived.Test.YtphacfkcifpobaaGreatDoorM01
import Derived.Test.YtphacfkcifpobaaGreatDoorM11
import Derived.Test.YtphacfkcifpobaaGreatDoorM12
import Derived.Test.YtphacfkcifpobaaGreatDoorM20
set_option maxRecDepth 100000
namespace Go.Proofs.YtphacfkcifpobaaGreatDoor
open Go.ChangeShapes Go.WideShapes Go.ChangeAt Go.RowKit
theorem msgs_at {S : Nat → Prop} {w : World} {a : Option Addr} {len cap : Nat} {l : List Msg} (h : (sliceR msgR).rel S w [.slice a len cap] l) (k : Nat) (hk : k < l.length) :
   ∃ b off va vc, a = some ⟨b, off, none⟩ ∧ S b ∧ b < w.heap.size ∧ msgR.rel S w [.int .i64 l[k].kind, .int .i64 l[k].frm, .int .i64 l[k].to, .slice va l[k].bytes.length vc] l[k] ∧
     w.cell? ⟨b, off + k * 4, none⟩ = some (.int .i64 l[k].kind) ∧ w.cell? ⟨b, off + k * 4 + 1, none⟩ = some (.int .i64 l[k].frm) ∧ w.cell? ⟨b, off + k * 4 + 2, none⟩ = some (.int .i64 l[k].to) ∧
     w.cell? ⟨b, off + k * 4 + 3, none⟩ = some (.slice va l[k].bytes.length vc) := by
 obtain ⟨b, off, es, rfl, hb, hbl, hrel, hca⟩ := sliceR.at h k hk; obtain ⟨v, rfl, h1, h2, h3, h4⟩ := msgR.inv hrel; obtain ⟨va, vc, rfl, -⟩ := sliceR.form h4; rw [msgR.n] at hca
 exact ⟨b, off, va, vc, rfl, hb, hbl, hrel, hca 0 _ rfl, hca 1 _ rfl, hca 2 _ rfl, hca 3 _ rfl⟩
def sendStep (nodes : Int) (acc : List Msg × Nat) (m : Msg) : List Msg × Nat := (addL nodes acc.1 m, acc.2 + (fitsB nodes acc.1.length m).toNat)
def sendL (nodes : Int) (ms l : List Msg) : List Msg × Nat := l.foldl (sendStep nodes) (ms, 0)
theorem sendL_snoc (nodes : Int) (ms l : List Msg) (k : Nat) (h : k < l.length) : sendL nodes ms (l.take (k + 1)) = sendStep nodes (sendL nodes ms (l.take k)) l[k] := by
 unfold sendL
 rw [List.take_succ_eq_append_getElem h, List.foldl_append]; rfl
theorem sendL_cnt (nodes : Int) (ms l : List Msg) : ∀ k, k ≤ l.length → (sendL nodes ms (l.take k)).2 ≤ k
 | 0, _ => by simp [sendL]
 | k + 1, h => by
   rw [sendL_snoc nodes ms l k (by omega)]
   have := sendL_cnt nodes ms l k (by omega)
   simp only [sendStep]
   cases fitsB nodes (sendL nodes ms (l.take k)).1.length l[k] <;> simp <;> omega
set_option maxHeartbeats 1000000 in
theorem netLen_any (O : Nat → Prop) (w : World) (p : Nat) (nodes : Int) (ms : List Msg) (hn : NetAt O w p nodes ms) :
   Calls Tryz.prog 9 #[.pointer (some ⟨p, 0, none⟩)] w fun e w' => e = .returned (.int .i64 ms.length) ∧ w = w' := by
 obtain ⟨n1, n2, n3, n4, n5, nv, n6, n7⟩ := id hn; obtain ⟨na, ncap, rfl, g3, g4⟩ := sliceR.form n7.slice; obtain ⟨kc, kf⟩ := box_cells n6; clear n5
 go_enter Tryz.func9, Tryz.ntmps9
 go_wp2
 go_ret
 exact ⟨rfl, rfl⟩
set_option maxHeartbeats 1000000 in
theorem netNew_ok (nodes : Int) (w : World) (h1 : 1 ≤ nodes) (h2 : nodes ≤ 64) :
   Calls Tryz.prog 22 #[.int .i64 nodes] w fun e w' => e = .returned (.tuple #[.pointer (some ⟨w.heap.size, 0, none⟩), .int .i64 0]) ∧ w' = w.alloc (.cells #[.int .i64 nodes, .slice none 0 0] 75) := by
 go_enter Tryz.func22, Tryz.ntmps22
 go_wp2
 go_ret2
 exact ⟨rfl, rfl⟩
theorem NetAt.new {nodes : Int} {w : World} (h1 : 1 ≤ nodes) (h2 : nodes ≤ 64) : NetAt (fun k => w.heap.size ≤ k) (w.alloc (.cells #[.int .i64 nodes, .slice none 0 0] 75)) w.heap.size nodes [] :=
 ⟨Nat.le_refl _, h1, h2, by simp, fun m hm => by simp at hm, _, box_new w _, Own.nil _ _ _ _ _⟩
set_option maxHeartbeats 1000000 in
theorem netSend_any (O S : Nat → Prop) (w : World) (p : Nat) (nodes : Int) (ms : List Msg) (a : Option Addr) (cap : Nat) (l : List Msg) (hn : NetAt O w p nodes ms)
   (hl : (sliceR msgR).rel S w [.slice a l.length cap] l) (hS : ∀ k, S k → ¬ O k) :
   Calls Tryz.prog 102 #[.pointer (some ⟨p, 0, none⟩), .slice a l.length cap] w (NetRet O p nodes (.int .i64 (sendL nodes ms l).2) (sendL nodes ms l).1 w) := by
 obtain ⟨-, g1, g2, -⟩ := sliceR.lens hl; unfold maxLen at g2; have hcnt := Lib.hid (sendL_cnt nodes ms l); have hsn := Lib.hid (sendL_snoc nodes ms l); have HS := Lib.hid hS; clear hS
 go_enter Tryz.func102, Tryz.ntmps102
 go_wp2_with fail
 go_loopw [5, 10] (fun c i wr => ∃ k : Nat, k ≤ l.length ∧ i = .int .i64 k ∧ c = .int .i64 (sendL nodes ms (l.take k)).2 ∧ NetAt (fun x => O x ∨ w.heap.size ≤ x) wr p nodes (sendL nodes ms (l.take k)).1 ∧ Kept (fun x => ¬ O x) w wr) (fun _ i _ => l.length - (intOf i).toNat)
 case atStart => exact ⟨0, Nat.zero_le _, rfl, rfl, hn.mono fun _ _ h => .inl h, Kept.refl _ _⟩
 case round =>
   obtain ⟨k, hk, rfl, rfl, hnr, hkr⟩ := hrel; have hck := hcnt.out k hk
   by_cases hlt : k < l.length
   · have hlr := (sliceR msgR).keep hl (hkr.mono fun x _ hx => HS.out x hx)
     obtain ⟨b, off, va, vc, rfl, hb, hbl, hrel, c0, c1, c2, c3⟩ := msgs_at hlr k hlt; have hbn := bnew (Below.refl wr.heap.size wr) (.cells #[.int .i64 l[k].kind, .int .i64 l[k].frm, .int .i64 l[k].to, .slice va l[k].bytes.length vc] 145); have hs1 := Lib.hid (hsn.out k hlt); go_wp2_with fail
     refine (netAdd_any _ S _ p nodes _ _ l[k] (hnr.keep (Kept.of_below hbn)) (msgR.keepB hrel hbn)).mono ?_
     rintro e w1 ⟨⟨rfl, hn1, hk1⟩, -⟩
     have hkk : Kept (fun x => ¬ O x) w w1 := hkr.trans ((Kept.of_below hbn).trans hk1 (fun _ _ h => h)) fun x hx h => by rintro (h' | h'); exact h h'; omega
     have hnn : NetAt (fun x => O x ∨ w.heap.size ≤ x) w1 p nodes (sendL nodes ms (List.take (k + 1) l)).1 := by
       rw [hs1.out]
       refine hn1.mono fun x _ h => ?_
       have := hkr.size
       rcases h with h | h
       · exact h
       · simp at h; exact .inr (by omega)
     have hcc : Hid ((sendL nodes ms (List.take (k + 1) l)).2 = (sendL nodes ms (List.take k l)).2 + (fitsB nodes (sendL nodes ms (List.take k l)).1.length l[k]).toNat) := by
       show _ = _
       rw [hs1.out]; rfl
     generalize hfit : fitsB nodes (sendL nodes ms (List.take k l)).1.length l[k] = ft at *; clear hn1 hk1 hnr c0 c1 c2 c3 hrel hlr hbn; have HFIT := Lib.hid hfit; clear hfit
     cases ft with
     | true =>
       go_wp2_with fail
       go_roundw
       case rel => exact ⟨k + 1, by omega, by go_num, by rw [hcc.out]; go_num, hnn, hkk⟩
       case measure => simp [intOf]; omega
     | false =>
       go_wp2_with fail
       go_roundw
       case rel => exact ⟨k + 1, by omega, by go_num, by rw [hcc.out]; go_num, hnn, hkk⟩
       case measure => simp [intOf]; omega
   · have he : k = l.length := by omega
     subst he; rw [List.take_length] at *; go_wp2_with fail; go_ret
     exact ⟨rfl, hnr, hkr⟩
end Go.Proofs.YtphacfkcifpobaaGreatDoor
/- slices.Delete at messages; Take, Drop. -/
namespace Go.Proofs.YtphacfkcifpobaaGreatDoor
open Go.ChangeShapes Go.WideShapes Go.ChangeAt Go.RowKit
theorem zeroMsg (w : World) : (zeroValue 145).run Tryz.prog w = .ok (.agg #[.int .i64 0, .int .i64 0, .int .i64 0, .slice none 0 0]) w := by kernel_rfl
theorem zeroMsg_one (m : Nat) : ∀ u ∈ (Builtin.zeroCells (Value.agg #[.int .i64 0, .int .i64 0, .int .i64 0, .slice none 0 0]).cells m).toList, u.oneCell' = true := by
 intro u hu
 simp [Builtin.zeroCells, Value.cells] at hu
 obtain ⟨j, hj, rfl⟩ := hu
 have h4 : j % 4 < 4 := Nat.mod_lt _ (by omega)
 generalize j % 4 = i at h4
 match i, h4 with
 | 0, _ => rfl
 | 1, _ => rfl
 | 2, _ => rfl
 | 3, _ => rfl
def Cut1 (S : Nat → Prop) (g cap : Nat) (ys : List Msg) (w : World) (e : Ending) (w' : World) : Prop :=
 e = .returned (.slice (some ⟨g, 0, none⟩) ys.length cap) ∧ Row msgR 145 S w' g cap ys ∧ Kept (fun x => x ≠ g) w w'
set_option maxHeartbeats 1000000 in
theorem msgDel_end (S : Nat → Prop) (w : World) (g cap : Nat) (ms : List Msg) (k : Nat) (hk : k < ms.length) (hr : Row msgR 145 S w g cap ms) (hc : cap ≤ maxLen) (hkc : k + 1 = cap) :
   Calls Tryz.prog 162 #[.slice (some ⟨g, 0, none⟩) ms.length cap, .int .i64 k, .int .i64 (k + 1 : Nat)] w (Cut1 S g cap (ms.eraseIdx k) w) := by
 have hcap : ms.length ≤ cap := by obtain ⟨_, _, _, _, _, _, _, h, _⟩ := hr; exact h
 unfold maxLen at hc
 have hne : ((k : Int) == (k + 1 : Nat)) = false := by simp; omega
 have HEL := Lib.hid (eraseIdx_len ms k hk)
 have k1 : (0 : Int) ≤ (k : Int) := by omega
 have k2 : (k : Int) ≤ (cap : Int) := by omega
 have k3 : (0 : Int) ≤ (k + 1 : Nat) := by omega
 have k4 : ((k + 1 : Nat) : Int) ≤ (ms.length : Int) := by omega
 have k5 : (k : Int) ≤ (k : Int) + 1 := by omega
 have k6 : (0 : Int) ≤ (k : Int) + 1 := by omega
 have k7 : (k : Int) + 1 ≤ (ms.length : Int) := by omega
 subst hkc
 obtain ⟨w1, hap, hr1, hk1⟩ := run_delete_append Tryz.etyMsgs (hr.keep (Kept.refl _ _).drew) k hk ⟨g, 0, none⟩ 0 (fun h => by first | rfl | omega)
 obtain ⟨w2, hcl, hr2, hk2⟩ := run_clear_row Tryz.underlying41 zeroMsg rfl zeroMsg_one hr1 (ms.length - 1) (ms.length - (ms.length - 1)) (by omega) (by rw [HEL.out]; omega) ⟨g, (ms.length - 1) * 4, none⟩ (fun _ => rfl)
 have hkk : Kept (fun x => x ≠ g) w w2 := ((Kept.refl _ _).drew.trans hk1 fun _ _ h => h).trans hk2 fun _ _ h => h
 rw [show ms.length - (k + 1) = 0 by omega] at hap
 have HAP := Lib.hid hap; clear hap hr hr1 hk1 hk2
 go_enter Tryz.func162, Tryz.ntmps162
 go_wp2_with fail
 go_region_law (first
   | (refine step_append_eq (v := .slice (some ⟨g, 0, none⟩) k (k + 1)) (u := .slice (some ⟨g, 0, none⟩) 0 0) rfl _ _ rfl rfl rfl HAP.out ?_))
 have q1 : (0 : Int) ≤ ((ms.length - 1 : Nat) : Int) := by omega
 have q2 : ((ms.length - 1 : Nat) : Int) ≤ (ms.length : Int) := by omega
 have q3 : (ms.length : Int) ≤ ((k + 1) : Nat) := by omega
 have q4 : ¬ (k + 1) = ms.length - 1 := by omega
 go_wp2_with fail; go_ret
 exact ⟨by rw [HEL.out]; rfl, hr2, hkk⟩
set_option maxHeartbeats 1000000 in
theorem msgDel_mid (S : Nat → Prop) (w : World) (g cap : Nat) (ms : List Msg) (k : Nat) (hk : k < ms.length) (hr : Row msgR 145 S w g cap ms) (hc : cap ≤ maxLen) (hkc : ¬ cap = k + 1) :
   Calls Tryz.prog 162 #[.slice (some ⟨g, 0, none⟩) ms.length cap, .int .i64 k, .int .i64 (k + 1 : Nat)] w (Cut1 S g cap (ms.eraseIdx k) w) := by
 have hcap : ms.length ≤ cap := by obtain ⟨_, _, _, _, _, _, _, h, _⟩ := hr; exact h
 unfold maxLen at hc
 have hne : ((k : Int) == (k + 1 : Nat)) = false := by simp; omega
 have HEL := Lib.hid (eraseIdx_len ms k hk)
 have k1 : (0 : Int) ≤ (k : Int) := by omega
 have k2 : (k : Int) ≤ (cap : Int) := by omega
 have k3 : (0 : Int) ≤ (k + 1 : Nat) := by omega
 have k4 : ((k + 1 : Nat) : Int) ≤ (ms.length : Int) := by omega
 have k5 : (k : Int) ≤ (k : Int) + 1 := by omega
 have k6 : (0 : Int) ≤ (k : Int) + 1 := by omega
 have k7 : (k : Int) + 1 ≤ (ms.length : Int) := by omega
 obtain ⟨w1, hap, hr1, hk1⟩ := run_delete_append Tryz.etyMsgs (hr.keep (Kept.refl _ _).drew) k hk ⟨g, (k + 1) * 4, none⟩ (cap - (k + 1)) (fun h => by first | rfl | omega)
 obtain ⟨w2, hcl, hr2, hk2⟩ := run_clear_row Tryz.underlying41 zeroMsg rfl zeroMsg_one hr1 (ms.length - 1) (ms.length - (ms.length - 1)) (by omega) (by rw [HEL.out]; omega) ⟨g, (ms.length - 1) * 4, none⟩ (fun _ => rfl)
 have hkk : Kept (fun x => x ≠ g) w w2 := ((Kept.refl _ _).drew.trans hk1 fun _ _ h => h).trans hk2 fun _ _ h => h
 skip
 have HAP := Lib.hid hap; clear hap hr hr1 hk1 hk2
 go_enter Tryz.func162, Tryz.ntmps162
 go_wp2_with fail
 go_region_law (first
   | (refine step_append_eq (v := .slice (some ⟨g, 0, none⟩) k cap) (u := .slice (some ⟨g, (k + 1) * 4, none⟩) (ms.length - (k + 1)) (cap - (k + 1))) rfl _ _ rfl rfl rfl HAP.out ?_))
 have q1 : (0 : Int) ≤ ((ms.length - 1 : Nat) : Int) := by omega
 have q2 : ((ms.length - 1 : Nat) : Int) ≤ (ms.length : Int) := by omega
 have q3 : (ms.length : Int) ≤ (cap : Nat) := by omega
 have q4 : ¬ cap = ms.length - 1 := by omega
 go_wp2_with fail; go_ret
 exact ⟨by rw [HEL.out]; rfl, hr2, hkk⟩
theorem msgDel_any (S : Nat → Prop) (w : World) (g cap : Nat) (ms : List Msg) (k : Nat) (hk : k < ms.length) (hr : Row msgR 145 S w g cap ms) (hc : cap ≤ maxLen) :
   Calls Tryz.prog 162 #[.slice (some ⟨g, 0, none⟩) ms.length cap, .int .i64 k, .int .i64 (k + 1 : Nat)] w (Cut1 S g cap (ms.eraseIdx k) w) := by
 by_cases h : k + 1 = cap
 · exact msgDel_end S w g cap ms k hk hr hc h
 · exact msgDel_mid S w g cap ms k hk hr hc (fun e => h e.symm)
end Go.Proofs.YtphacfkcifpobaaGreatDoor
/- Take, Drop. -/
namespace Go.Proofs.YtphacfkcifpobaaGreatDoor
open Go.ChangeShapes Go.WideShapes Go.ChangeAt Go.RowKit
def msg0 : Msg := ⟨0, 0, 0, []⟩
theorem msg0_rel (S : Nat → Prop) (w : World) : msgR.rel S w [.int .i64 0, .int .i64 0, .int .i64 0, .slice none 0 0] msg0 := msgR.mk (m := msg0) rfl rfl rfl sliceR.nil
def isMsg (ms : List Msg) (i : Int) : Bool := decide (0 ≤ i ∧ i < ms.length)
def takeM (ms : List Msg) (i : Int) : Msg := if isMsg ms i = true then ms.getD i.toNat msg0 else msg0
def withoutL (ms : List Msg) (i : Int) : List Msg := if isMsg ms i = true then ms.eraseIdx i.toNat else ms
def TakeRet (O : Nat → Prop) (p : Nat) (nodes : Int) (ms : List Msg) (i : Int) (w : World) (e : Ending) (w' : World) : Prop :=
 ∃ cs, e = .returned (.tuple #[.agg cs.toArray, .bool (isMsg ms i)]) ∧ (∃ S, msgR.rel S w' cs (takeM ms i) ∧ ∀ k, S k → k < w'.heap.size ∧ (O k ∨ w.heap.size ≤ k) ∧ ¬ Touch w' p k) ∧ NetAt (fun k => O k ∨ w.heap.size ≤ k) w' p nodes (withoutL ms i) ∧ Kept (fun k => ¬ O k) w w'
theorem netTake_no {O : Nat → Prop} {p : Nat} {nodes : Int} {ms : List Msg} {i : Int} {w w' : World} (hn : NetAt O w p nodes ms) (hf : Hid (isMsg ms i = false)) (hb : Below w.heap.size w w') :
   TakeRet O p nodes ms i w (.returned (.tuple #[.agg #[.int .i64 0, .int .i64 0, .int .i64 0, .slice none 0 0], .bool false])) w' := by
 unfold TakeRet takeM withoutL; rw [hf.out]
 exact ⟨_, rfl, ⟨fun _ => False, msg0_rel _ _, fun _ h => h.elim⟩, (hn.keep (Kept.of_below hb)).mono fun _ _ h => .inl h, Kept.of_below hb⟩
theorem netTake_yes {O S : Nat → Prop} {p g cap k : Nat} {nodes : Int} {ms : List Msg} {w wA w3 w4 : World} {cs : List Value} (hn : NetAt O w p nodes ms) (hk : k < ms.length)
   (hSF : ∀ x, S x → O x ∧ x ≠ p) (hSl : ∀ x, S x → x < w.heap.size) (hg : O g ∧ g ≠ p) (hgl : g < w.heap.size) (hcap : cap ≤ maxLen) (hm : msgR.rel S w cs ms[k]) (hSg : ¬ S g) (hbA : Below w.heap.size w wA) (hr : Row msgR 145 S w3 g cap (ms.eraseIdx k)) (hk3 : Kept (fun x => x ≠ g) wA w3)
   (hk4 : Kept (fun x => x ≠ p ∧ x < w.heap.size) w3 w4) (hp4 : w4.heap[p]? = some (.cells #[.int .i64 nodes, .slice (some ⟨g, 0, none⟩) (ms.eraseIdx k).length cap] 75 (0, 0))) :
   TakeRet O p nodes ms k w (.returned (.tuple #[.agg cs.toArray, .bool true])) w4 := by
 have hi : isMsg ms k = true := by unfold isMsg; exact decide_eq_true (by omega)
 unfold TakeRet takeM withoutL; rw [hi, if_pos rfl, if_pos rfl, Int.toNat_natCast]; have hsz := hbA.size
 have hms : ms.getD k msg0 = ms[k] := by simp [List.getD, hk]
 rw [hms]
 have hS4 : Kept (fun x => S x ∧ x < w.heap.size) w w4 := by
   refine ((Kept.of_below (S := fun x => S x ∧ x < w.heap.size) hbA).trans hk3 ?_).trans hk4 ?_
   · rintro x - ⟨h, -⟩ rfl; exact hSg h
   · rintro x - ⟨h, hl⟩; exact ⟨(hSF x h).2, hl⟩
 obtain ⟨n1, n2, n3, n4, n5, -⟩ := hn
 refine ⟨cs, rfl, ⟨fun x => S x ∧ x < w.heap.size, msgR.keep (msgR.bound hm) hS4, ?_⟩, ⟨.inl n1, n2, n3, ?_, ?_, _, hp4, ?_⟩, ?_⟩
 · rintro x ⟨h, hx⟩
   refine ⟨Nat.lt_of_lt_of_le hx hS4.size, .inl (hSF x h).1, ?_⟩
   rintro (rfl | ⟨n', v', h1, h2⟩)
   · exact (hSF _ h).2 rfl
   · rw [hp4] at h1
     simp at h1
     obtain ⟨rfl, rfl⟩ := h1
     simp [Value.ownBlock] at h2
     subst h2
     exact hSg h
 · rw [eraseIdx_len _ _ hk]; omega
 · intro m hm'; exact n5 m (List.mem_of_mem_eraseIdx hm')
 · refine (hr.keep (hk4.mono ?_)).own (fun x h => ⟨.inl (hSF x h).1, (hSF x h).2⟩) ⟨.inl hg.1, hg.2⟩ (Nat.zero_le _) hcap
   rintro x - (h | rfl)
   · exact ⟨(hSF x h).2, hSl x h⟩
   · exact ⟨hg.2, hgl⟩
 · refine ((Kept.of_below hbA).trans hk3 ?_).trans hk4 ?_
   · intro x _ h e; exact h (e ▸ hg.1)
   · intro x hx h; exact ⟨fun e => h (e ▸ n1), hx⟩
set_option maxHeartbeats 1000000 in
theorem netTake_out (O : Nat → Prop) (w : World) (p : Nat) (nodes : Int) (ms : List Msg) (i : Int) (hn : NetAt O w p nodes ms) (hi : isMsg ms i = false) :
   Calls Tryz.prog 104 #[.pointer (some ⟨p, 0, none⟩), .int .i64 i] w (TakeRet O p nodes ms i w) := by
 obtain ⟨n1, n2, n3, n4, n5, nv, n6, n7⟩ := id hn; obtain ⟨na, ncap, rfl, g3, g4⟩ := sliceR.form n7.slice; obtain ⟨kc, kf⟩ := box_cells n6; have HF := Lib.hid hi
 have hnot : ¬ (0 ≤ i ∧ i < ms.length) := by unfold isMsg at hi; exact of_decide_eq_false hi
 have hpl := box_lt n6
 have hpn : ¬ p = w.heap.size := by omega
 have hb := bnew (Below.refl w.heap.size w) (.cells #[.int .i64 0, .int .i64 0, .int .i64 0, .slice none 0 0] 145); clear n5 hi
 by_cases h0 : i < 0
 · clear hnot
   go_enter Tryz.func104, Tryz.ntmps104
   go_wp2
   exact bodyPost_ret (v := .tuple #[.agg #[.int .i64 0, .int .i64 0, .int .i64 0, .slice none 0 0], .bool false]) (by simp [results, Tryz.results104, go_sem]) rfl (netTake_no hn HF hb)
 · have h1 : (ms.length : Int) ≤ i := by omega
   clear hnot
   go_enter Tryz.func104, Tryz.ntmps104
   go_wp2
   exact bodyPost_ret (v := .tuple #[.agg #[.int .i64 0, .int .i64 0, .int .i64 0, .slice none 0 0], .bool false]) (by simp [results, Tryz.results104, go_sem]) rfl (netTake_no hn HF hb)
theorem msgDel_at (S : Nat → Prop) (w : World) (g cap : Nat) (ms : List Msg) (k : Nat) (hk : k < ms.length) (hr : Row msgR 145 S w g cap ms) (hc : cap ≤ maxLen) :
   Calls Tryz.prog 162 #[.slice (some ⟨g, 0, none⟩) ms.length cap, .int .i64 k, .int .i64 ((k : Int) + 1)] w (Cut1 S g cap (ms.eraseIdx k) w) := by
 have h := msgDel_any S w g cap ms k hk hr hc
 rw [show ((k + 1 : Nat) : Int) = (k : Int) + 1 by omega] at h
 exact h
theorem own_zero {α : Type} {r : Rep α} {base : Nat} {e : TypeId} {F : Nat → Prop} {w : World} {a : Option Addr} {n cap : Nat} {xs : List α} (h : Own r base e F w (.slice a n cap) xs) (hn : 0 < xs.length) : ∃ g, a = some ⟨g, 0, none⟩ := by
 obtain ⟨S, css, hS, hv, hl, hr, ho⟩ := h
 rcases ho.2 with ⟨h1, h0⟩ | ⟨g', cap', cur, h1, -⟩
 · omega
 · simp at h1; exact ⟨g', h1.1⟩
theorem msgs_row {S : Nat → Prop} {w : World} {g cap : Nat} {l : List Msg} (h : Row msgR 145 S w g cap l) (k : Nat) (hk : k < l.length) :
   ∃ va vc, msgR.rel S w [.int .i64 l[k].kind, .int .i64 l[k].frm, .int .i64 l[k].to, .slice va l[k].bytes.length vc] l[k] ∧
     w.cell? ⟨g, k * 4, none⟩ = some (.int .i64 l[k].kind) ∧ w.cell? ⟨g, k * 4 + 1, none⟩ = some (.int .i64 l[k].frm) ∧ w.cell? ⟨g, k * 4 + 2, none⟩ = some (.int .i64 l[k].to) ∧
     w.cell? ⟨g, k * 4 + 3, none⟩ = some (.slice va l[k].bytes.length vc) := by
 obtain ⟨es, hrel, hca⟩ := h.at k hk; obtain ⟨v, rfl, h1, h2, h3, h4⟩ := msgR.inv hrel; obtain ⟨va, vc, rfl, -⟩ := sliceR.form h4; rw [msgR.n] at hca
 exact ⟨va, vc, hrel, hca 0 _ rfl, hca 1 _ rfl, hca 2 _ rfl, hca 3 _ rfl⟩
set_option maxHeartbeats 1000000 in
theorem netTake_in (O : Nat → Prop) (w : World) (p : Nat) (nodes : Int) (ms : List Msg) (k : Nat) (hn : NetAt O w p nodes ms) (hk : k < ms.length) :
   Calls Tryz.prog 104 #[.pointer (some ⟨p, 0, none⟩), .int .i64 k] w (TakeRet O p nodes ms k w) := by
 obtain ⟨n1, n2, n3, n4, n5, nv, n6, n7⟩ := id hn; obtain ⟨na, ncap, rfl, g3, g4⟩ := sliceR.form n7.slice
 obtain ⟨g, rfl⟩ := own_zero n7 (by omega)
 obtain ⟨-, -, hcm, hFg, S, hSF, hrow⟩ := n7.row; obtain ⟨va, vc, hrel, c0, c1, c2, c3⟩ := msgs_row hrow k hk; obtain ⟨hSg, hSl, -⟩ := hrow.facts; obtain ⟨kc, kf⟩ := box_cells n6; have hgl := hrow.lt; have hpl := box_lt n6
 have hpn : ¬ p = w.heap.size := by omega
 have hpn1 : ¬ p = w.heap.size + 1 := by omega
 have hbn : ¬ g = w.heap.size := by omega
 have HR := Lib.hid hrel; have HE := Lib.hid (eraseIdx_len ms k hk); clear n5 hrel; generalize hm : ms[k] = m at c0 c1 c2 c3; have HM := Lib.hid hm; clear hm; have hbA := bnew (bnew (Below.refl w.heap.size w) (.cells #[.int .i64 0, .int .i64 0, .int .i64 0, .slice none 0 0] 145)) (.cells #[.int .i64 m.kind, .int .i64 m.frm, .int .i64 m.to, .slice va m.bytes.length vc] 145)
 go_enter Tryz.func104, Tryz.ntmps104
 go_wp2_with fail
 refine (msgDel_at S _ g ncap ms k hk (hrow.keep (Kept.of_below hbA)) hcm).mono ?_
 rintro e w3 ⟨rfl, hr3, hk3⟩
 have b0 := box_kept hk3 (box_old (box_new w _)) (fun h => hbn h.symm)
 have b1 := box_kept (b := w.heap.size + 1) hk3 (by rw [← World.size_alloc w (.cells #[.int .i64 0, .int .i64 0, .int .i64 0, .slice none 0 0] 145)]; exact box_new _ _) (by omega)
 have b2 := box_kept hk3 (box_after hbA n6) (Ne.symm hFg.2); obtain ⟨d0, e0⟩ := box_cells b0; obtain ⟨d1, e1⟩ := box_cells b1; obtain ⟨d2, e2⟩ := box_cells b2; go_wp2_with fail
 have HR2 : msgR.rel S w [.int .i64 m.kind, .int .i64 m.frm, .int .i64 m.to, .slice va m.bytes.length vc] ms[k] := by
   have h := HR.out; have h2 := HM.out; rw [h2] at h ⊢
   exact h
 refine bodyPost_ret (v := .tuple #[.agg #[.int .i64 m.kind, .int .i64 m.frm, .int .i64 m.to, .slice va m.bytes.length vc], .bool true]) (by simp [results, Tryz.results104, go_sem, d0]) rfl
   (netTake_yes hn hk hSF hSl hFg hgl hcm HR2 hSg hbA hr3 hk3 ?_ ?_)
 · exact (((((Kept.refl _ _).setCell (fun _ h => h.1 rfl) _).setCell (fun _ h => absurd h.2 (Nat.lt_irrefl _)) _).setCell (fun _ h => absurd h.2 (Nat.lt_irrefl _)) _).setCell (fun _ h => absurd h.2 (Nat.lt_irrefl _)) _).setCell (fun _ h => absurd h.2 (Nat.lt_irrefl _)) _
 · refine box_set_far (box_set_far (box_set_far (box_set_far ?_ hpn) hpn) hpn) hpn
   simpa using box_set (i := 1) (v := .slice (some ⟨g, 0, none⟩) (ms.eraseIdx k).length ncap) b2
theorem netTake_any (O : Nat → Prop) (w : World) (p : Nat) (nodes : Int) (ms : List Msg) (i : Int) (hn : NetAt O w p nodes ms) :
   Calls Tryz.prog 104 #[.pointer (some ⟨p, 0, none⟩), .int .i64 i] w (TakeRet O p nodes ms i w) := by
 by_cases h : 0 ≤ i ∧ i < ms.length
 · obtain ⟨k, rfl⟩ := Int.eq_ofNat_of_zero_le h.1
   exact netTake_in O w p nodes ms k hn (by omega)
 · exact netTake_out O w p nodes ms i hn (decide_eq_false h)
end Go.Proofs.YtphacfkcifpobaaGreatDoor
/- The network as a part of a frame. -/
namespace Go.Proofs.YtphacfkcifpobaaGreatDoor
open Go.ChangeShapes Go.WideShapes Go.ChangeAt Go.RowKit Go.Sort
section
variable {O : Nat → Prop}
def netA (p : Nat) (nodes : Int) (ms : List Msg) : Asn O where
 rel F w := NetAt F w p nodes ms
 keep h hk := h.keep (hk.mono fun _ _ h => .inl h)
 mono h hF := h.mono hF
variable {L E : List (Asn O)} {f : Asn O → List (Asn O)} {F0 : Nat → Prop} {w0 w : World} {p : Nat} {nodes : Int} {ms : List Msg}
theorem netTake_fr (h : Fr L F0 w0 w) (ix : In L (netA p nodes ms) f E) (i : Int) :
   Calls Tryz.prog 104 #[.pointer (some ⟨p, 0, none⟩), .int .i64 i] w fun e w' => ∃ cs, e = .returned (.tuple #[.agg cs.toArray, .bool (isMsg ms i)]) ∧ Fr (f (andA (netA p nodes (withoutL ms i)) (repA msgR cs (takeM ms i)))) F0 w0 w' := by
 obtain ⟨G, hG, h1, -, hcl⟩ := h.open ix
 refine (netTake_any G w p nodes ms i h1).mono ?_
 rintro e w' ⟨cs, rfl, ⟨S, hm, hS⟩, hn', hk'⟩
 exact ⟨cs, rfl, hcl (andA (netA p nodes _) (repA msgR cs _)) w' ⟨hn', msgR.mono hm fun k _ hs => (hS k hs).2.1⟩ hk'⟩
theorem netNew_fr (h : Fr L F0 w0 w) (h1 : 1 ≤ nodes) (h2 : nodes ≤ 64) :
   Calls Tryz.prog 22 #[.int .i64 nodes] w fun e w' => ∃ p, e = .returned (.tuple #[.pointer (some ⟨p, 0, none⟩), .int .i64 0]) ∧ Fr (netA p nodes [] :: L) F0 w0 w' ∧ Below w.heap.size w w' := by
 refine (netNew_ok nodes w h1 h2).mono ?_
 rintro e w' ⟨rfl, rfl⟩; have hb := bnew (Below.refl w.heap.size w) (.cells #[.int .i64 nodes, .slice none 0 0] 75)
 exact ⟨_, rfl, h.new (A := netA w.heap.size nodes []) hb (NetAt.new h1 h2), hb⟩
end
end Go.Proofs.YtphacfkcifpobaaGreatDoor
/- Script: new nodes. -/
namespace Go.Proofs.YtphacfkcifpobaaGreatDoor
open Go.ChangeShapes Go.WideShapes Go.ChangeAt Go.RowKit Go.Sort
structure NdV where
 c : Nat
 wp : Nat
 pp : Nat
section
variable {O : Nat → Prop}
abbrev ndC (op : Nat) (r : RuM) (num nodes : Nat) (seed : Int) (x : NdV) : Array Value := #[.pointer (some ⟨op, 0, none⟩), .int .i64 r.mode, .int .i64 r.depth, .int .i64 r.bl, .int .i64 r.bu, .int .i64 r.qu, .int .u64 r.rew, .int .i64 r.win, .int .i64 r.fin, .int .u64 r.work, .int .i64 num, .int .i64 nodes, .int .u64 seed, .pointer (some ⟨x.c, 0, none⟩), .pointer (some ⟨x.wp, 0, none⟩), .pointer (some ⟨x.pp, 0, none⟩), .slice none 0 0]
abbrev mpC : Array Value := #[.int .i64 1073741824, .slice none 0 0]
def ndL (p op : Nat) (r : RuM) (num nodes : Nat) (seed : Int) (m : ChM) (h : Nat) (x : NdV) : List (Asn O) := [boxA p (ndC op r num nodes seed x) 84, boxA x.pp mpC 115, walA x.wp op r (seed % 18446744069414584321) h, chA x.c r m]
def ndA (p op : Nat) (r : RuM) (num nodes : Nat) (seed : Int) (m : ChM) (h : Nat) : Asn O := exA fun x : NdV => listA (ndL p op r num nodes seed m h x)
variable {w : World}
set_option maxHeartbeats 1000000 in
theorem nodeNew_any (hf : Fr (O := O) [] (fun _ => False) w w) (op : Nat) (ideal : Bool) (st : Int) (ho : OrAt ideal st op w) (hst : ideal = false → st = 0) (r : RuM) (hO : r.mode = 2 → OrIn O op w) (hrw : okU r.rew) (hru : ruleE r = 0) (him : (r.mode == 3) = ideal) (num nodes : Nat) (h1 : num < nodes) (h2 : nodes ≤ 64) (seed : Int) (hs : okU seed) :
   Calls Tryz.prog 10 #[.pointer (some ⟨op, 0, none⟩), .agg #[.int .i64 r.mode, .int .i64 r.depth, .int .i64 r.bl, .int .i64 r.bu, .int .i64 r.qu, .int .u64 r.rew, .int .i64 r.win, .int .i64 r.fin, .int .u64 r.work], .int .i64 num, .int .u64 seed, .int .i64 nodes] w fun e w' => ∃ p, e = .returned (.tuple #[.pointer (some ⟨p, 0, none⟩), .int .i64 0]) ∧ Fr [ndA (O := O) p op r num nodes seed chM0 0] (fun _ => False) w w' := by
 have hnew : newE r ideal = 0 := by unfold newE; rw [if_pos hru, him]; simp
 have HN := Lib.hid hnew; have hfa := hf.alloc #[.int .i64 r.mode, .int .i64 r.depth, .int .i64 r.bl, .int .i64 r.bu, .int .i64 r.qu, .int .u64 r.rew, .int .i64 r.win, .int .i64 r.fin, .int .u64 r.work] 26; have HF := Lib.hid hfa; have HO := Lib.hid (ho.keepB (bnew (Below.refl w.heap.size w) (.cells #[.int .i64 r.mode, .int .i64 r.depth, .int .i64 r.bl, .int .i64 r.bu, .int .i64 r.qu, .int .u64 r.rew, .int .i64 r.win, .int .i64 r.fin, .int .u64 r.work] 26))); have HST := Lib.hid hst
 have HOO : Hid (r.mode = 2 → OrIn O op (w.alloc (.cells #[.int .i64 r.mode, .int .i64 r.depth, .int .i64 r.bl, .int .i64 r.bu, .int .i64 r.qu, .int .u64 r.rew, .int .i64 r.win, .int .i64 r.fin, .int .u64 r.work] 26))) := fun e => (hO e).keep (Kept.of_below (bnew (Below.refl w.heap.size w) _)) fun _ h => h
 have HRW := Lib.hid hrw; have HRU : Hid (rulesE r.mode r.depth r.bl r.bu r.qu r.rew r.win r.fin r.work = 0) := hru; have HIM := Lib.hid him; have HS := Lib.hid hs
 have d1 : decide ((nodes : Int) < 1) = false := decide_eq_false (by omega)
 have d2 : decide (64 < (nodes : Int)) = false := decide_eq_false (by omega)
 have d3 : decide ((num : Int) < 0) = false := decide_eq_false (by omega)
 have d4 : decide ((nodes : Int) ≤ (num : Int)) = false := decide_eq_false (by omega)
 clear hf ho hst hO hru him hs hnew hrw hfa
 go_enter Tryz.func10, Tryz.ntmps10
 go_upto_region 1 with (fail)
 obtain ⟨W, hW⟩ : ∃ x, w.alloc (.cells #[.int .i64 r.mode, .int .i64 r.depth, .int .i64 r.bl, .int .i64 r.bu, .int .i64 r.qu, .int .u64 r.rew, .int .i64 r.win, .int .i64 r.fin, .int .u64 r.work] 26) = x := ⟨_, rfl⟩; obtain ⟨B, hB⟩ : ∃ x, w.heap.size = x := ⟨_, rfl⟩; rw [hW, hB] at HF; rw [hW] at HO HOO; rw [hW, hB]; have HFW := HF; clear HF hW hB
 go_wp2_with (refine wpList_load_row rfl _ _ rfl B rfl _ _ _ _ (HFW.out.box i0) Tryz.underlying26 rfl (by kernel_rfl) ?_)
 refine (chNew_fr HFW.out op ideal st HO.out HST.out r HRW.out HOO.out HN.out).mono ?_
 rintro e w1 ⟨c, rfl, hf1, hb1⟩; have HF1 := Lib.hid hf1; have HO1 := Lib.hid (HO.out.keepB hb1); clear hf1 hb1 HFW HO HOO
 go_wp2_with (refine wpList_load_row rfl _ _ rfl B rfl _ _ _ _ (HF1.out.box i1) Tryz.underlying26 rfl (by kernel_rfl) ?_)
 refine (walNew_any HF1.out.start op ideal st HO1.out r HRU.out HIM.out seed HS.out).mono ?_
 rintro e w2 ⟨wp, rfl, hf2⟩; have HF2 := Lib.hid (HF1.out.join hf2); clear hf2 HF1 HO1
 go_upto_region 9 with (fail)
 -- MARK
 have HFwg00 := Lib.hid (HF2.out.drew); have hS0 : Hid ((Held [(B, #[.int .i64 r.mode, .int .i64 r.depth, .int .i64 r.bl, .int .i64 r.bu, .int .i64 r.qu, .int .u64 r.rew, .int .i64 r.win, .int .i64 r.fin, .int .u64 r.work], 26)] []) w2.drew) := Held.keepB (⟨⟨HF2.out.box i2, trivial⟩, trivial⟩) (Below.refl _ _).drew
 refine wp_region_held_drew (S := (Held [(B, #[.int .i64 r.mode, .int .i64 r.depth, .int .i64 r.bl, .int .i64 r.bu, .int .i64 r.qu, .int .u64 r.rew, .int .i64 r.win, .int .i64 r.fin, .int .u64 r.work], 26)] [])) (by kernel_rfl) hS0.out (fun hHeld => ?_)
 obtain ⟨wg0, hwd⟩ : ∃ x, w2.drew = x := ⟨_, rfl⟩; rw [hwd] at hHeld HFwg00 ⊢; have HFwg0 := HFwg00; clear hwd HFwg00 hS0
 go_simp
 refine tkV 0 rfl (fun wz hSz => by go_simp; all_goals with_reducible rfl) ?_
 go_simp
 refine tkY 1 rfl (yieldsIf_load_mid (by rfl) _ _ rfl (B) 0 rfl [.int .i64 r.mode, .int .i64 r.depth, .int .i64 r.bl, .int .i64 r.bu, .int .i64 r.qu, .int .u64 r.rew, .int .i64 r.win, .int .i64 r.fin, .int .u64 r.work] _ (fun wz hSz => range_box hSz.b.1) Tryz.underlying26 rfl (by kernel_rfl)) ?_
 go_simp
 refine tkV 2 rfl (fun wz hSz => by go_simp; all_goals with_reducible rfl) ?_
 go_simp
 refine tkV 3 rfl (fun wz hSz => by go_simp; all_goals with_reducible rfl) ?_
 go_simp
 refine tkV 4 rfl (fun wz hSz => by go_simp; all_goals with_reducible rfl) ?_
 go_simp
 refine tkV 5 rfl (fun wz hSz => by go_simp; all_goals with_reducible rfl) ?_
 go_simp
 refine tkV 6 rfl (fun wz hSz => by go_simp; all_goals with_reducible rfl) ?_
 go_simp
 refine rd1 7 rfl (fun K hK => ?_)
 go_simp
 refine (mpNew_any wg0 1073741824 (by omega)).mono ?_
 rintro E wg1 ⟨rfl, hwe⟩; have hfa := HFwg0.out.alloc #[.int .i64 1073741824, .slice none 0 0] 115; rw [← hwe] at hfa; obtain ⟨pp, hpp⟩ : ∃ x, wg0.heap.size = x := ⟨_, rfl⟩; rw [hpp] at hfa
 try rw [hpp]
 have HFwg1 := Lib.hid hfa; clear hHeld hfa hwe hpp
 refine hK.out _ _ (⟨⟨HFwg1.out.box i3, trivial⟩, trivial⟩) (fun hHeld => ?_)
 clear hK K
 go_simp
 refine tkV 8 rfl (fun wz hSz => by go_simp; all_goals with_reducible rfl) ?_
 go_simp
 refine rd1 9 rfl (fun K hK => ?_)
 go_simp
 have hfa := HFwg1.out.alloc #[.pointer (some ⟨op, 0, none⟩), .int .i64 r.mode, .int .i64 r.depth, .int .i64 r.bl, .int .i64 r.bu, .int .i64 r.qu, .int .u64 r.rew, .int .i64 r.win, .int .i64 r.fin, .int .u64 r.work, .int .i64 num, .int .i64 nodes, .int .u64 seed, .pointer (some ⟨c, 0, none⟩), .pointer (some ⟨wp, 0, none⟩), .pointer (some ⟨pp, 0, none⟩), .slice none 0 0] 84; obtain ⟨bn, hbn⟩ : ∃ x, wg1.heap.size = x := ⟨_, rfl⟩; rw [hbn] at hfa
 try rw [hbn]
 obtain ⟨wg2, hw⟩ : ∃ x, wg1.alloc (.cells #[.pointer (some ⟨op, 0, none⟩), .int .i64 r.mode, .int .i64 r.depth, .int .i64 r.bl, .int .i64 r.bu, .int .i64 r.qu, .int .u64 r.rew, .int .i64 r.win, .int .i64 r.fin, .int .u64 r.work, .int .i64 num, .int .i64 nodes, .int .u64 seed, .pointer (some ⟨c, 0, none⟩), .pointer (some ⟨wp, 0, none⟩), .pointer (some ⟨pp, 0, none⟩), .slice none 0 0] 84) = x := ⟨_, rfl⟩; rw [hw] at hfa ⊢; have HFwg2 := Lib.hid hfa; clear hHeld hfa hw hbn
 refine hK.out _ _ (⟨⟨HFwg2.out.box i4, trivial⟩, trivial⟩) (fun hHeld => ?_)
 clear hK K
 go_simp
 refine tkV 10 rfl (fun wz hSz => by go_simp; all_goals with_reducible rfl) ?_
 go_simp
 refine tkV 11 rfl (fun wz hSz => by go_simp; all_goals with_reducible rfl) ?_
 go_simp
 clear hHeld
 refine wpAnyH_done (by kernel_rfl) ?_ _
 go_wp2_with fail; go_ret2
 exact ⟨bn, rfl, (HFwg2.out.drop i4).done fun F h => ⟨⟨c, wp, pp⟩, h⟩⟩
end
end Go.Proofs.YtphacfkcifpobaaGreatDoor
/- Script: the small functions of nodes; send. -/
namespace Go.Proofs.YtphacfkcifpobaaGreatDoor
open Go.ChangeShapes Go.WideShapes Go.ChangeAt Go.RowKit Go.Sort
section
variable {O : Nat → Prop} {p op num nodes : Nat} {r : RuM} {seed : Int} {x : NdV}
theorem ndOther_any (w : World) (hb : w.heap[p]? = some (.cells (ndC op r num nodes seed x) 84 (0, 0))) (i : Nat) (h1 : i < nodes) (h2 : i ≠ num) :
   Calls Tryz.prog 107 #[.pointer (some ⟨p, 0, none⟩), .int .i64 i] w fun e w' => e = .returned (.bool true) ∧ Below w.heap.size w w' := by
 obtain ⟨x0, x1⟩ := box_cells hb
 have d1 : decide ((0 : Int) ≤ (i : Int)) = true := decide_eq_true (by omega)
 have d2 : decide ((i : Int) < (nodes : Int)) = true := decide_eq_true (by omega)
 have d3 : ((i : Int) != (num : Int)) = true := by rw [bne_iff_ne]; omega
 have d4 : ((i : Int) == (num : Int)) = false := by rw [beq_eq_false_iff_ne]; omega
 have h1' : (i : Int) < (nodes : Int) := by omega
 clear hb h2
 go_enter Tryz.func107, Tryz.ntmps107
 go_wp2_with fail; go_ret
 exact ⟨rfl, Below.refl _ _⟩
theorem ndSecret_any (w : World) (hb : w.heap[p]? = some (.cells (ndC op r num nodes seed x) 84 (0, 0))) (hs : okU seed) :
   Calls Tryz.prog 94 #[.pointer (some ⟨p, 0, none⟩)] w fun e w' => e = .returned (.int .u64 (hashS 9 [seed])) ∧ Below w.heap.size w w' := by
 obtain ⟨x0, x1⟩ := box_cells hb; have HS := Lib.hid hs; clear hb hs
 go_enter Tryz.func94, Tryz.ntmps94
 go_wp2_with fail
 refine (secret_any w seed HS.out).mono ?_
 rintro e w1 ⟨rfl, hb1⟩; go_wp2_with fail; go_ret
 exact ⟨rfl, hb1⟩
def accS (seed : Int) : Int := hashS 7 [hashS 9 [seed]]
theorem ndAccount_any (w : World) (hb : w.heap[p]? = some (.cells (ndC op r num nodes seed x) 84 (0, 0))) (hs : okU seed) :
   Calls Tryz.prog 79 #[.pointer (some ⟨p, 0, none⟩)] w fun e w' => e = .returned (.int .u64 (accS seed)) ∧ Below w.heap.size w w' := by
 have HB := Lib.hid hb; have HS := Lib.hid hs; clear hb hs
 go_enter Tryz.func79, Tryz.ntmps79
 go_wp2_with fail
 refine (ndSecret_any w HB.out HS.out).mono ?_
 rintro e w1 ⟨rfl, hb1⟩; go_wp2_with fail
 refine (account_any w1 (hashS 9 [seed]) (hashS_ok _ _)).mono ?_
 rintro e w2 ⟨rfl, hb2⟩; go_wp2_with fail; go_ret
 exact ⟨rfl, bnext hb1 hb2⟩
theorem ndMessage_any (w : World) (hb : w.heap[p]? = some (.cells (ndC op r num nodes seed x) 84 (0, 0))) (kind tt : Int) (a : Option Addr) (n c : Nat) :
   Calls Tryz.prog 110 #[.pointer (some ⟨p, 0, none⟩), .int .i64 kind, .int .i64 tt, .slice a n c] w fun e w' => e = .returned (.agg #[.int .i64 kind, .int .i64 num, .int .i64 tt, .slice a n c]) ∧ Below w.heap.size w w' := by
 have hx := box_old (o' := .cells #[.int .i64 0, .int .i64 0, .int .i64 0, .slice none 0 0] 145) hb; have HX := Lib.hid (box_new w (.cells #[.int .i64 0, .int .i64 0, .int .i64 0, .slice none 0 0] 145)); have HB := Lib.hid (bnew (Below.refl w.heap.size w) (.cells #[.int .i64 0, .int .i64 0, .int .i64 0, .slice none 0 0] 145)); obtain ⟨x0, x1⟩ := box_cells hx; clear hb hx
 go_enter Tryz.func110, Tryz.ntmps110
 have HF := Lib.hid (setRow_heap _ _ _ #[.int .i64 kind, .int .i64 num, .int .i64 tt, .slice a n c] _ _ HX.out)
 go_wp2_with (refine wpList_store_row rfl _ _ _ rfl w.heap.size _ rfl rfl _ _ HX.out (by kernel_rfl) rfl (by kernel_rfl) ?_)
 (try simp only [Exit.inBlock, Exit.then])
 refine bodyPost_ret (ret_c Tryz.results110 rfl HF.out Tryz.underlying145 rfl (by kernel_rfl)) rfl ?_
 exact ⟨rfl, below_setRow (g := w.heap.size) HB.out (Nat.le_refl _) _⟩
end
end Go.Proofs.YtphacfkcifpobaaGreatDoor
/- Script: blocks without transactions: what is known of them, clone, Encode. -/
namespace Go.Proofs.YtphacfkcifpobaaGreatDoor
open Go.ChangeShapes Go.WideShapes Go.ChangeAt Go.RowKit Go.Sort
structure Bk0 (pa hg mi wk no : Int) (xa : Option Addr) (xc : Nat) : Prop where
 pa : okU pa
 hg : okI hg
 mi : okU mi
 wk : okU wk
 no : okU no
 nil : xa = none → xc = 0
 cap : xc ≤ maxLen
theorem Bk0.blk {pa hg mi wk no : Int} {xa : Option Addr} {xc : Nat} (h : Bk0 pa hg mi wk no xa xc) (S : Nat → Prop) (w : World) : BlkIn S w ⟨pa, hg, mi, wk, no, []⟩ xa xc :=
 ⟨h.pa, h.hg, h.mi, h.wk, h.no, xa, 0, xc, rfl, rfl, Nat.zero_le _, h.cap, h.nil, fun i x hx => by simp at hx⟩
theorem Bk0.of {pa hg mi wk no : Int} {xa : Option Addr} {xc : Nat} {S : Nat → Prop} {w : World} (h : BlkIn S w ⟨pa, hg, mi, wk, no, []⟩ xa xc) : Bk0 pa hg mi wk no xa xc := by
 obtain ⟨-, h2, h3, h4⟩ := sliceR.lens h.txs
 exact ⟨h.parent, h.height, h.miner, h.work, h.nonce, h4, h3⟩
theorem bkValid_any (w : World) (pa hg mi wk no : Int) (xa : Option Addr) (xc : Nat) (h : Bk0 pa hg mi wk no xa xc) : Calls Tryz.prog 133 #[.agg #[.int .u64 pa, .int .i64 hg, .int .u64 mi, .int .u64 wk, .int .u64 no, .slice xa 0 xc]] w fun e w' => e = .returned (.int .i64 (blkE ⟨pa, hg, mi, wk, no, []⟩)) ∧ Below w.heap.size w w' := blkValid_any (fun _ => False) w ⟨pa, hg, mi, wk, no, []⟩ xa xc (h.blk _ _)
theorem bkIds_any (w : World) (pa hg mi wk no : Int) (xa : Option Addr) (xc : Nat) (h : Bk0 pa hg mi wk no xa xc) : Calls Tryz.prog 136 #[.agg #[.int .u64 pa, .int .i64 hg, .int .u64 mi, .int .u64 wk, .int .u64 no, .slice xa 0 xc]] w (NumsOut [] w) := identifiers_any (fun _ => False) w ⟨pa, hg, mi, wk, no, []⟩ xa xc (h.blk _ _) (Nat.zero_le _)
theorem bkId_any (w : World) (pa hg mi wk no : Int) (xa : Option Addr) (xc : Nat) (h : Bk0 pa hg mi wk no xa xc) (hh : 1 ≤ hg) (hh2 : hg ≤ 1048576) (ia : Option Addr) (ic : Nat) (hi : numsR.rel (fun _ => True) w [.slice ia 0 ic] []) : Calls Tryz.prog 137 #[.agg #[.int .u64 pa, .int .i64 hg, .int .u64 mi, .int .u64 wk, .int .u64 no, .slice xa 0 xc], .slice ia 0 ic] w fun e w' => e = .returned (.int .u64 (idB ⟨pa, hg, mi, wk, no, []⟩)) ∧ Below w.heap.size w w' := identifier_any (fun _ => False) (fun _ => True) w ⟨pa, hg, mi, wk, no, []⟩ xa ia xc ic [] (h.blk _ _) hh hh2 (Nat.zero_le _) hi (Nat.zero_le _)
theorem bkHead_any (w : World) (pa hg mi wk no : Int) (xa : Option Addr) (xc : Nat) (h : Bk0 pa hg mi wk no xa xc) (hh : 1 ≤ hg) (hh2 : hg ≤ 1048576) : Calls Tryz.prog 141 #[.agg #[.int .u64 pa, .int .i64 hg, .int .u64 mi, .int .u64 wk, .int .u64 no, .slice xa 0 xc]] w (SomeX (headS ⟨pa, hg, mi, wk, no, []⟩) 40 w) := header_any (fun _ => False) w ⟨pa, hg, mi, wk, no, []⟩ xa xc (h.blk _ _) hh hh2 (Nat.zero_le _)
theorem cloneT0_any (w : World) (xa : Option Addr) (xc : Nat) (h1 : xa = none → xc = 0) (h2 : xc ≤ maxLen) : Calls Tryz.prog 81 #[.slice xa 0 xc] w fun e w' => ∃ (ya : Option Addr) (yc : Nat), e = .returned (.slice ya 0 yc) ∧ (ya = none → yc = 0) ∧ yc ≤ maxLen ∧ Below w.heap.size w w' := by
 refine (cloneT_any (fun _ => False) w xa xc [] ⟨xa, 0, xc, rfl, rfl, Nat.zero_le _, h2, h1, fun i x hx => by simp at hx⟩ (Nat.zero_le _)).mono ?_
 rintro e w1 ⟨v, rfl, ho, hb⟩; obtain ⟨ya, yc, rfl, -, -⟩ := sliceR.form (Own.slice ho); obtain ⟨-, -, h3, h4⟩ := sliceR.lens (Own.slice ho)
 exact ⟨ya, yc, rfl, h4, h3, hb⟩
theorem bkClone_any (w : World) (pa hg mi wk no : Int) (xa : Option Addr) (xc : Nat) (h : Bk0 pa hg mi wk no xa xc) : Calls Tryz.prog 138 #[.agg #[.int .u64 pa, .int .i64 hg, .int .u64 mi, .int .u64 wk, .int .u64 no, .slice xa 0 xc]] w fun e w' => ∃ (ya : Option Addr) (yc : Nat), e = .returned (.agg #[.int .u64 pa, .int .i64 hg, .int .u64 mi, .int .u64 wk, .int .u64 no, .slice ya 0 yc]) ∧ Bk0 pa hg mi wk no ya yc ∧ Below w.heap.size w w' := by
 have hf := ((Fr.nil (O := fun _ => False) (fun _ => False) w (fun k h => h.elim)).alloc #[.int .u64 pa, .int .i64 hg, .int .u64 mi, .int .u64 wk, .int .u64 no, .slice xa 0 xc] 177).alloc #[.int .u64 0, .int .i64 0, .int .u64 0, .int .u64 0, .int .u64 0, .slice none 0 0] 177
 rw [World.size_alloc] at hf; have HF := Lib.hid hf; have HN := Lib.hid h.nil; have HC := Lib.hid h.cap; have H := Lib.hid h; clear h hf
 go_enter Tryz.func138, Tryz.ntmps138
 go_upto_region 1 with (fail)
 obtain ⟨W, hW⟩ : ∃ x, (w.alloc (.cells #[.int .u64 pa, .int .i64 hg, .int .u64 mi, .int .u64 wk, .int .u64 no, .slice xa 0 xc] 177)).alloc (.cells #[.int .u64 0, .int .i64 0, .int .u64 0, .int .u64 0, .int .u64 0, .slice none 0 0] 177) = x := ⟨_, rfl⟩; obtain ⟨B, hB⟩ : ∃ x, w.heap.size = x := ⟨_, rfl⟩; rw [hW, hB] at HF; rw [hW, hB]; have HFW := HF; clear hW hB HF; have x0 := (box_cells (HFW.out.box i1)).1; go_wp2_with fail
 refine (cloneT0_any W xa xc HN.out HC.out).mono ?_
 rintro e w1 ⟨ya, yc, rfl, h3, h4, hb1⟩; have HF1 := Lib.hid (HFW.out.keepB hb1); have H' : Hid (Bk0 pa hg mi wk no ya yc) := ⟨H.out.pa, H.out.hg, H.out.mi, H.out.wk, H.out.no, h3, h4⟩; clear hb1 x0 HFW h3 h4 H HN HC; obtain ⟨x0, x1⟩ := box_cells (HF1.out.box i1)
 go_upto_region 2 with (fail)
 have HF2 : Hid (Fr [boxA (B + 1) #[.int .u64 0, .int .i64 0, .int .u64 0, .int .u64 0, .int .u64 0, .slice none 0 0] 177, boxA B #[.int .u64 pa, .int .i64 hg, .int .u64 mi, .int .u64 wk, .int .u64 no, .slice ya 0 yc] 177] _ w _) := HF1.out.set i1 5 (.slice ya 0 yc); obtain ⟨w2, hw2⟩ : ∃ x, w1.setCell ⟨B, 5, none⟩ (.slice ya 0 yc) = x := ⟨_, rfl⟩; rw [hw2] at HF2 ⊢; have HF3 := HF2; clear hw2 HF1 x0 x1 HF2; obtain ⟨x0, x1⟩ := box_cells (HF3.out.box i1)
 go_wp2_with (first | (refine wpList_load_row rfl _ _ rfl B rfl _ _ _ _ (HF3.out.box i1) Tryz.underlying177 rfl (by kernel_rfl) ?_) | (refine wpList_store_row rfl _ _ _ rfl (B + 1) _ rfl rfl _ _ (HF3.out.box i0) (by kernel_rfl) rfl (by kernel_rfl) ?_))
 refine wp_loop_rounds 1 ?_
 rw [rounds_succ]
 go_wp2_with (first | (refine wpList_load_row rfl _ _ rfl B rfl _ _ _ _ (HF3.out.box i1) Tryz.underlying177 rfl (by kernel_rfl) ?_) | (refine wpList_store_row rfl _ _ _ rfl (B + 1) _ rfl rfl _ _ (HF3.out.box i0) (by kernel_rfl) rfl (by kernel_rfl) ?_))
 have HFE := Lib.hid (HF3.out.setRow i0 #[.int .u64 pa, .int .i64 hg, .int .u64 mi, .int .u64 wk, .int .u64 no, .slice ya 0 yc])
 (try simp only [Exit.inBlock, Exit.then])
 refine bodyPost_ret (ret_c Tryz.results138 rfl (HFE.out.box i0) Tryz.underlying177 rfl (by kernel_rfl)) rfl ?_
 exact ⟨ya, yc, rfl, H'.out, HFE.out.below⟩
end Go.Proofs.YtphacfkcifpobaaGreatDoor
