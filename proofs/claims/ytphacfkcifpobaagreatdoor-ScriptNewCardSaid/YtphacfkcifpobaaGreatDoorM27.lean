/- Script: the parts of a world; the rules of the examples, isNode, send of nothing. -/
import Derived.Test.YtphacfkcifpobaaGreatDoorM26
import Derived.Test.YtphacfkcifpobaaGreatDoorM25
set_option maxRecDepth 100000
namespace Go.Proofs.YtphacfkcifpobaaGreatDoor
open Go.ChangeShapes Go.WideShapes Go.ChangeAt Go.RowKit Go.Sort
def ptrR : Rep Nat where
 n := 1
 rel _ _ cs x := cs = [.pointer (some ⟨x, 0, none⟩)]
 len h := by rw [h]; rfl
 one h := by rw [h]; simp [Value.oneCell']
 keep h _ := h
 mono h _ := h
structure ScV where
 na : Option Addr
 nc : Nat
 np : Nat
 la : Option Addr
 lc : Nat
 sa : Option Addr
 sc : Nat
abbrev scC (op : Nat) (seed : Int) (n l s : Nat) (x : ScV) : Array Value := #[.pointer (some ⟨op, 0, none⟩), .slice x.na n x.nc, .pointer (some ⟨x.np, 0, none⟩), .slice x.la l x.lc, .slice x.sa s x.sc, .int .u64 seed]
def scL {O : Nat → Prop} (p op : Nat) (seed : Int) (ps : List Nat) (log : List Int) (sent ms : List Msg) (x : ScV) (N : List (Asn O)) : List (Asn O) :=
 boxA p (scC op seed ps.length log.length sent.length x) 43 :: ownA ptrR 0 45 (.slice x.na ps.length x.nc) ps :: ownA (intR .i64) 0 34 (.slice x.la log.length x.lc) log ::
   ownA msgR 0 145 (.slice x.sa sent.length x.sc) sent :: netA x.np ps.length ms :: N
def r54 : RuM := ⟨2, 5, 0, 0, 0, 50, 10, 40, 2⟩
theorem rules54_any (w : World) : Calls Tryz.prog 15 #[.int .i64 2] w fun e w' => e = .returned (.agg #[.int .i64 2, .int .i64 5, .int .i64 0, .int .i64 0, .int .i64 0, .int .u64 50, .int .i64 10, .int .i64 40, .int .u64 2]) ∧ Below w.heap.size w w' := by
 have HX := Lib.hid (box_new w (.cells #[.int .i64 0, .int .i64 0, .int .i64 0, .int .i64 0, .int .i64 0, .int .u64 0, .int .i64 0, .int .i64 0, .int .u64 0] 26)); have HB := Lib.hid (bnew (Below.refl w.heap.size w) (.cells #[.int .i64 0, .int .i64 0, .int .i64 0, .int .i64 0, .int .i64 0, .int .u64 0, .int .i64 0, .int .i64 0, .int .u64 0] 26))
 go_enter Tryz.func15, Tryz.ntmps15
 have HF := Lib.hid (setRow_heap _ _ _ #[.int .i64 2, .int .i64 5, .int .i64 0, .int .i64 0, .int .i64 0, .int .u64 50, .int .i64 10, .int .i64 40, .int .u64 2] _ _ HX.out)
 go_wp2_with (refine wpList_store_row rfl _ _ _ rfl w.heap.size _ rfl rfl _ _ HX.out (by kernel_rfl) rfl (by kernel_rfl) ?_)
 (try simp only [Exit.inBlock, Exit.then])
 refine bodyPost_ret (ret_c Tryz.results15 rfl HF.out Tryz.underlying26 rfl (by kernel_rfl)) rfl ?_
 exact ⟨rfl, below_setRow (g := w.heap.size) HB.out (Nat.le_refl _) _⟩
theorem isNode_any {p op n l s : Nat} {seed : Int} {x : ScV} (w : World) (hb : w.heap[p]? = some (.cells (scC op seed n l s x) 43 (0, 0))) (i : Nat) :
   Calls Tryz.prog 56 #[.pointer (some ⟨p, 0, none⟩), .int .i64 i] w fun e w' => e = .returned (.bool (decide (i < n))) ∧ Below w.heap.size w w' := by
 obtain ⟨x0, x1⟩ := box_cells hb
 have d0 : decide ((0 : Int) ≤ (i : Int)) = true := decide_eq_true (by omega)
 by_cases h : i < n
 · have d1 : decide (i < n) = true := decide_eq_true h
   have d2 : (i : Int) < (n : Int) := by omega
   rw [d1]; clear hb d1
   go_enter Tryz.func56, Tryz.ntmps56
   go_wp2_with fail; go_ret
   exact ⟨rfl, Below.refl _ _⟩
 · have d1 : decide (i < n) = false := decide_eq_false h
   rw [d1]; clear hb d1
   go_enter Tryz.func56, Tryz.ntmps56
   go_wp2_with fail; go_ret
   exact ⟨rfl, Below.refl _ _⟩
theorem send0_any (w : World) (p : Nat) (a : Option Addr) (c : Nat) :
   Calls Tryz.prog 62 #[.pointer (some ⟨p, 0, none⟩), .slice a 0 c] w fun e w' => e = .returned (.bool true) ∧ Below w.heap.size w w' := by
 go_enter Tryz.func62, Tryz.ntmps62
 go_wp2_with fail
 refine wp_loop_rounds 1 ?_
 rw [rounds_succ]; go_wp2_with fail; go_ret
 exact ⟨rfl, Below.refl _ _⟩
end Go.Proofs.YtphacfkcifpobaaGreatDoor
/- Script: a world sends one message. -/
namespace Go.Proofs.YtphacfkcifpobaaGreatDoor
open Go.ChangeShapes Go.WideShapes Go.ChangeAt Go.RowKit Go.Sort
theorem slice_one {α : Type} {r : Rep α} {S : Nat → Prop} {w : World} {b : Nat} {es : List Value} {y : α} (h : r.rel S w es y) (hS : S b) (hb : b < w.heap.size) (hc : CellsAt w b 0 es) : (sliceR r).rel S w [.slice (some ⟨b, 0, none⟩) 1 1] [y] := by
 refine ⟨_, _, _, rfl, rfl, Nat.le_refl _, by unfold maxLen; omega, fun h => by simp at h, fun i z hz => ?_⟩
 match i with
 | 0 => simp at hz; subst hz; exact ⟨b, 0, es, rfl, hS, h, by simpa using hc, hb⟩
 | i + 1 => simp at hz
theorem msg_bytes {S : Nat → Prop} {w : World} {m : Msg} {a b c : Int} {v : Value} (h : msgR.rel S w [.int .i64 a, .int .i64 b, .int .i64 c, v] m) : bytesR.rel S w [v] m.bytes := by
 obtain ⟨v', hc, -, -, -, hb⟩ := msgR.inv h
 simp only [List.cons.injEq] at hc
 rw [hc.2.2.2.1]
 exact hb
section
variable {O : Nat → Prop} {L E : List (Asn O)} {f : Asn O → List (Asn O)} {F0 : Nat → Prop} {w0 w : World}
theorem Fr.msg1 {m : Msg} {ma : Option Addr} {mc : Nat} (h : Fr (ownA msgR 0 145 (.slice ma 1 mc) [m] :: L) F0 w0 w) : ∃ (b off : Nat) (va : Option Addr) (vc : Nat), ma = some ⟨b, off, none⟩ ∧ w.rangeAt b off [.int .i64 m.kind, .int .i64 m.frm, .int .i64 m.to, .slice va m.bytes.length vc] ∧ Fr (repA msgR [.int .i64 m.kind, .int .i64 m.frm, .int .i64 m.to, .slice va m.bytes.length vc] m :: L) F0 w0 w := by
 obtain ⟨G, -, h1, -, hcl⟩ := h.open i0
 obtain ⟨b, off, va, vc, rfl, -, -, hrel, c0, c1, c2, c3⟩ := msgs_at (Own.slice h1) 0 (by simp)
 refine ⟨b, off, va, vc, rfl, fun j v hv => ?_, hcl (repA msgR [.int .i64 m.kind, .int .i64 m.frm, .int .i64 m.to, .slice va m.bytes.length vc] m) w (msgR.mono hrel fun _ _ h => .inl h) (Kept.refl _ _)⟩
 match j, hv with
 | 0, hv => simp at hv; subst hv; simpa using c0
 | 1, hv => simp at hv; subst hv; simpa using c1
 | 2, hv => simp at hv; subst hv; simpa using c2
 | 3, hv => simp at hv; subst hv; simpa using c3
 | j + 4, hv => simp at hv
theorem Fr.lit1 {m : Msg} {va : Option Addr} {vc : Nat} (h : Fr L F0 w0 w) (ix : In L (repA msgR [.int .i64 m.kind, .int .i64 m.frm, .int .i64 m.to, .slice va m.bytes.length vc] m) f E) : Fr (f (andA (repA msgR [.int .i64 m.kind, .int .i64 m.frm, .int .i64 m.to, .slice va m.bytes.length vc] m) (repA (sliceR msgR) [.slice (some ⟨w.heap.size, 0, none⟩) 1 1] [m]))) F0 w0 (w.alloc (.cells #[.int .i64 m.kind, .int .i64 m.frm, .int .i64 m.to, .slice va m.bytes.length vc] 145)) := by
 obtain ⟨G, hG, h1, -, hcl⟩ := h.open ix; have hb := bnew (Below.refl w.heap.size w) (.cells #[.int .i64 m.kind, .int .i64 m.frm, .int .i64 m.to, .slice va m.bytes.length vc] 145)
 have h2 : msgR.rel (fun k => G k ∨ w.heap.size ≤ k) (w.alloc (.cells #[.int .i64 m.kind, .int .i64 m.frm, .int .i64 m.to, .slice va m.bytes.length vc] 145)) [.int .i64 m.kind, .int .i64 m.frm, .int .i64 m.to, .slice va m.bytes.length vc] m := msgR.mono (msgR.keepB h1 hb) fun _ _ h => .inl h
 exact hcl (andA (repA msgR [.int .i64 m.kind, .int .i64 m.frm, .int .i64 m.to, .slice va m.bytes.length vc] m) (repA (sliceR msgR) [.slice (some ⟨w.heap.size, 0, none⟩) 1 1] [m])) _ ⟨h2, slice_one h2 (.inr (Nat.le_refl _)) (by rw [World.size_alloc]; omega) (CellsAt.new _ _ _)⟩ (Kept.of_below hb)
theorem netSend1 {p : Nat} {nodes : Int} {ms : List Msg} (h : Fr L F0 w0 w) (ix : In L (netA p nodes ms) f E) {f' : Asn O → List (Asn O)} {E' : List (Asn O)} {X : Asn O} {a : Option Addr} {m : Msg} (ixl : In E (andA X (repA (sliceR msgR) [.slice a 1 1] [m])) f' E') :
   Calls Tryz.prog 102 #[.pointer (some ⟨p, 0, none⟩), .slice a 1 1] w fun e w' => e = .returned (.int .i64 (sendL nodes ms [m]).2) ∧ Fr (f (netA p nodes (sendL nodes ms [m]).1)) F0 w0 w' := by
 obtain ⟨G, hG, h1, hrd, hcl⟩ := h.open ix
 refine (netSend_any G _ w p nodes ms a 1 [m] h1 (hrd ixl).2 fun k hk => hk).mono ?_
 rintro e w' ⟨rfl, hn', hk'⟩
 exact ⟨rfl, hcl (netA p nodes _) w' hn' hk'⟩
theorem send_one {nodes : Int} {ms : List Msg} {m : Msg} (h : fitsB nodes ms.length m = true) : sendL nodes ms [m] = (ms ++ [m], 1) := by
 unfold sendL
 simp [sendStep, addL, h]
set_option maxHeartbeats 4000000 in
theorem scSend1_any {p op : Nat} {seed : Int} {ps : List Nat} {log : List Int} {sent ms : List Msg} {x : ScV} {N : List (Asn O)} {G : Nat → Prop} {m : Msg} {ma : Option Addr} {mc : Nat} (hf : Fr (O := O) (ownA msgR 0 145 (.slice ma 1 mc) [m] :: scL p op seed ps log sent ms x N) G w0 w) (hfit : fitsB ps.length ms.length m = true) (hsl : sent.length ≤ 100000) (hbl : m.bytes.length ≤ 4194304) :
   Calls Tryz.prog 62 #[.pointer (some ⟨p, 0, none⟩), .slice ma 1 mc] w fun e w' => e = .returned (.bool true) ∧ ∃ (sa : Option Addr) (sc : Nat), Fr (O := O) (scL p op seed ps log (sent ++ [m]) (ms ++ [m]) { x with sa := sa, sc := sc } N) G w0 w' := by
 obtain ⟨b, off, va, vc, rfl, hrg, hf1⟩ := hf.msg1; have HRG := Lib.hid hrg; have hfa := hf1.alloc #[.int .i64 m.kind, .int .i64 m.frm, .int .i64 m.to, .slice va m.bytes.length vc] 145; have HF := Lib.hid hfa; have HSD := Lib.hid (send_one hfit); have HSL := Lib.hid hsl; have HBL := Lib.hid hbl; clear hf hrg hf1 hfa hfit hsl hbl
 go_enter Tryz.func62, Tryz.ntmps62
 go_wp2_with fail
 refine wp_loop_rounds 2 ?_
 rw [rounds_succ]
 go_upto_region 5 with (refine wpList_load_mid rfl _ _ rfl b off (by first | rfl | simp) [.int .i64 m.kind, .int .i64 m.frm, .int .i64 m.to, .slice va m.bytes.length vc] _ HRG.out Tryz.underlying145 rfl (by kernel_rfl) ?_)
 obtain ⟨w1, hw1⟩ : ∃ z, w.alloc (.cells #[.int .i64 m.kind, .int .i64 m.frm, .int .i64 m.to, .slice va m.bytes.length vc] 145) = z := ⟨_, rfl⟩; obtain ⟨bm, hbm⟩ : ∃ z, w.heap.size = z := ⟨_, rfl⟩; rw [hw1, hbm] at HF; rw [hw1, hbm]; have HF1 := HF; clear hw1 hbm HF HRG
 -- MARK1
 have HFwg00 := Lib.hid (HF1.out.drew); have hS0 : Hid ((Held [(p, (scC op seed ps.length log.length sent.length x), 43), (bm, #[.int .i64 m.kind, .int .i64 m.frm, .int .i64 m.to, .slice va m.bytes.length vc], 145)] []) w1.drew) := Held.keepB (⟨⟨HF1.out.box i2, HF1.out.box i0, trivial⟩, trivial⟩) (Below.refl _ _).drew
 refine wp_region_held_drew (S := (Held [(p, (scC op seed ps.length log.length sent.length x), 43), (bm, #[.int .i64 m.kind, .int .i64 m.frm, .int .i64 m.to, .slice va m.bytes.length vc], 145)] [])) (by kernel_rfl) hS0.out (fun hHeld => ?_)
 obtain ⟨wg0, hwd⟩ : ∃ x, w1.drew = x := ⟨_, rfl⟩; rw [hwd] at hHeld HFwg00 ⊢; have HFwg0 := HFwg00; clear hwd HFwg00 hS0
 go_simp
 refine tkV 0 rfl (fun wz hSz => by go_simp; all_goals with_reducible rfl) ?_
 go_simp
 refine tkV 1 rfl (fun wz hSz => by go_simp; all_goals with_reducible rfl) ?_
 go_simp
 refine tkV 2 rfl (fun wz hSz => by go_simp; all_goals with_reducible rfl) ?_
 go_simp
 refine tkV 3 rfl (fun wz hSz => by have cx := (box_cells hSz.b.1).1; go_simp; all_goals with_reducible rfl) ?_
 go_simp
 refine tkY 4 rfl (yieldsIf_load_mid (by rfl) _ _ rfl (bm) 0 rfl [.int .i64 m.kind, .int .i64 m.frm, .int .i64 m.to, .slice va m.bytes.length vc] _ (fun wz hSz => range_box hSz.b.2.1) Tryz.underlying145 rfl (by kernel_rfl)) ?_
 go_simp
 refine rd1 5 rfl (fun K hK => ?_)
 go_simp
 have hfa := HFwg0.out.lit1 i1; obtain ⟨bu, hbu⟩ : ∃ z, wg0.heap.size = z := ⟨_, rfl⟩; rw [hbu] at hfa
 try rw [hbu]
 obtain ⟨wg1, hw⟩ : ∃ z, wg0.alloc (.cells #[.int .i64 m.kind, .int .i64 m.frm, .int .i64 m.to, .slice va m.bytes.length vc] 145) = z := ⟨_, rfl⟩; rw [hw] at hfa ⊢; have HFwg1 := Lib.hid hfa; clear hHeld hfa hw hbu
 refine hK.out _ _ (⟨⟨HFwg1.out.box i2, HFwg1.out.box i0, trivial⟩, trivial⟩) (fun hHeld => ?_)
 clear hK K
 go_simp
 refine rd1 6 rfl (fun K hK => ?_)
 go_simp
 refine (netSend1 HFwg1.out i6 i1).mono ?_
 rintro E wg2 ⟨rfl, hfe⟩; rw [HSD.out] at hfe ⊢; have HFwg2 := Lib.hid hfe; clear hHeld hfe
 refine hK.out _ _ (⟨⟨HFwg2.out.box i2, HFwg2.out.box i0, trivial⟩, trivial⟩) (fun hHeld => ?_)
 clear hK K
 go_simp
 refine tkV 7 rfl (fun wz hSz => by go_simp; all_goals with_reducible rfl) ?_
 go_simp
 clear hHeld
 refine wpAnyH_done (by kernel_rfl) ?_ _
 have HFK := HFwg2; obtain ⟨wK, hwk⟩ : ∃ z, wg2 = z := ⟨_, rfl⟩; rw [hwk] at HFK ⊢; clear hwk HFwg2; obtain ⟨x0, x1⟩ := box_cells (HFK.out.box i0)
 -- MARK5
 go_wp2_with fail
 refine (cloneBytes _ wK (.slice va m.bytes.length vc) m.bytes (msg_bytes (HFK.out.get i1).1) HBL.out).mono ?_
 rintro e w5 ⟨ya, yc, rfl, hy, hb5⟩; obtain ⟨-, -, h1, h2, h3, -⟩ := msgR.inv (HFK.out.get i1).1; have HF5 := Lib.hid (HFK.out.new (A := repA msgR [.int .i64 m.kind, .int .i64 m.frm, .int .i64 m.to, .slice ya m.bytes.length yc] m) hb5 (msgR.mk h1 h2 h3 hy)); clear hy hb5 h1 h2 h3 x0 x1 HFK; obtain ⟨x0, x1⟩ := box_cells (HF5.out.box i1)
 go_upto_region 8 with (fail)
 have HF6 := HF5.out.set i1 3 (.slice ya m.bytes.length yc); obtain ⟨w6, hw6⟩ : ∃ z, w5.setCell ⟨bm, 3, none⟩ (.slice ya m.bytes.length yc) = z := ⟨_, rfl⟩; rw [hw6] at HF6 ⊢
 have HF7 := Lib.hid (HF6.map1 i1 (A' := boxA bm #[.int .i64 m.kind, .int .i64 m.frm, .int .i64 m.to, .slice ya m.bytes.length yc] 145) fun _ h => h)
 clear HF6 hw6 HF5 x0 x1
 -- MARK6
 have HFwk00 := Lib.hid (HF7.out.drew); have hS0 : Hid ((Held [(p, (scC op seed ps.length log.length sent.length x), 43), (bm, #[.int .i64 m.kind, .int .i64 m.frm, .int .i64 m.to, .slice ya m.bytes.length yc], 145)] []) w6.drew) := Held.keepB (⟨⟨HF7.out.box i3, HF7.out.box i1, trivial⟩, trivial⟩) (Below.refl _ _).drew
 refine wp_region_last 10 (S := (Held [(p, (scC op seed ps.length log.length sent.length x), 43), (bm, #[.int .i64 m.kind, .int .i64 m.frm, .int .i64 m.to, .slice ya m.bytes.length yc], 145)] [])) (by kernel_rfl) hS0.out (fun hHeld => ?_)
 obtain ⟨wk0, hwd⟩ : ∃ x, w6.drew = x := ⟨_, rfl⟩; rw [hwd] at hHeld HFwk00 ⊢; have HFwk0 := HFwk00; clear hwd HFwk00 hS0
 go_simp
 refine tkVL 0 rfl (fun wz hSz => by go_simp; all_goals with_reducible rfl) ?_
 go_simp
 refine tkVL 1 rfl (fun wz hSz => by go_simp; all_goals with_reducible rfl) ?_
 go_simp
 refine tkVL 2 rfl (fun wz hSz => by go_simp; all_goals with_reducible rfl) ?_
 go_simp
 refine tkVL 3 rfl (fun wz hSz => by go_simp; all_goals with_reducible rfl) ?_
 go_simp
 refine tkVL 4 rfl (fun wz hSz => by have cx := (box_cells hSz.b.1).1; go_simp; all_goals with_reducible rfl) ?_
 go_simp
 refine tkYL 5 rfl (yieldsIf_load_mid (by rfl) _ _ rfl (bm) 0 rfl [.int .i64 m.kind, .int .i64 m.frm, .int .i64 m.to, .slice ya m.bytes.length yc] _ (fun wz hSz => range_box hSz.b.2.1) Tryz.underlying145 rfl (by kernel_rfl)) ?_
 go_simp
 refine rd1L 6 rfl (fun K hK => ?_)
 go_simp
 have hfa := HFwk0.out.keepB (bnew (Below.refl _ _) (.cells #[.int .i64 m.kind, .int .i64 m.frm, .int .i64 m.to, .slice ya m.bytes.length yc] 145)); have hcu : CellsAt (wk0.alloc (.cells #[.int .i64 m.kind, .int .i64 m.frm, .int .i64 m.to, .slice ya m.bytes.length yc] 145)) wk0.heap.size 0 [.int .i64 m.kind, .int .i64 m.frm, .int .i64 m.to, .slice ya m.bytes.length yc] := CellsAt.new _ [.int .i64 m.kind, .int .i64 m.frm, .int .i64 m.to, .slice ya m.bytes.length yc] 145; obtain ⟨buwg1, hbu⟩ : ∃ z, wk0.heap.size = z := ⟨_, rfl⟩; rw [hbu] at hcu
 try rw [hbu]
 obtain ⟨wg1, hw⟩ : ∃ z, wk0.alloc (.cells #[.int .i64 m.kind, .int .i64 m.frm, .int .i64 m.to, .slice ya m.bytes.length yc] 145) = z := ⟨_, rfl⟩; rw [hw] at hfa hcu ⊢; have HFwg1 := Lib.hid hfa; have HCUwg1 := Lib.hid hcu; clear hHeld hfa hcu hw hbu
 refine hK.out _ _ (⟨⟨HFwg1.out.box i3, HFwg1.out.box i1, trivial⟩, trivial⟩) (fun hHeld => ?_)
 clear hK K
 go_simp
 refine rd1L 7 rfl (fun K hK => ?_)
 refine step_appF rfl _ _ rfl Tryz.etyMsgs HFwg1.out i5 HCUwg1.out rfl rfl (rfl) (by have := HSL.out; unfold maxLen; omega) (by have := HSL.out; omega) (Nat.zero_le _) ?_
 intro awg2 cwg2 wg2 hfa
 have HFwg2 := Lib.hid hfa; clear hHeld hfa
 refine hK.out _ _ (⟨⟨HFwg2.out.box i2, HFwg2.out.box i0, trivial⟩, trivial⟩) (fun hHeld => ?_)
 clear hK K
 go_simp
 refine rd1L 8 rfl (fun K hK => ?_)
 go_simp
 have hS2 := Lib.hid hHeld; clear hHeld
 refine hK.out _ _ hS2.out (fun hHeld => ?_)
 clear hK K hS2
 go_simp
 refine rd1L 9 rfl (fun K hK => ?_)
 go_simp
 have hS2 := Lib.hid hHeld; clear hHeld
 refine hK.out _ _ hS2.out (fun hHeld => ?_)
 clear hK K hS2
 go_simp
 refine rdL rfl (fun K hK => ?_)
 obtain ⟨cx0, cx1⟩ := box_cells (HFwg2.out.box i2)
 go_simp
 have hfa := HFwg2.out.set i2 4 (.slice awg2 (sent.length + 1) cwg2); obtain ⟨wg5, hw⟩ : ∃ x, wg2.setCell ⟨p, 4, none⟩ (.slice awg2 (sent.length + 1) cwg2) = x := ⟨_, rfl⟩; rw [hw] at hfa ⊢; have HFwg5 := Lib.hid hfa; clear hfa hw cx0 cx1
 refine hK.out _ _ ?_
 clear hK K
 go_simp
 clear hHeld
 refine wpAnyL_done (by kernel_rfl) ?_ _
 have hfe : Fr (O := O) (scL p op seed ps log (sent ++ [m]) (ms ++ [m]) { x with sa := awg2, sc := cwg2 } N) G w0 wg5 := by
   have h1 := (HFwg5.out.drop i0).drop i0; unfold scL; rw [List.length_append]
   exact h1
 have HFE := Lib.hid hfe; clear hfe HFwg5; go_wp2_with fail; rw [rounds_succ]; go_wp2_with fail; go_ret
 exact ⟨rfl, _, _, HFE.out⟩
end
end Go.Proofs.YtphacfkcifpobaaGreatDoor
/- Script: examine. -/
namespace Go.Proofs.YtphacfkcifpobaaGreatDoor
open Go.ChangeShapes Go.WideShapes Go.ChangeAt Go.RowKit Go.Sort
theorem bxB {w w' : World} {p : Nat} {o : Obj} (hb : w.heap[p]? = some o) (h : Below w.heap.size w w') : w'.heap[p]? = some o :=
 (h.block p (by
   rcases Nat.lt_or_ge p w.heap.size with hl | hl
   · exact hl
   · rw [Array.getElem?_eq_none hl] at hb; cases hb)).trans hb
theorem btrB {a b c : World} (h : Below a.heap.size a b) (k : Below b.heap.size b c) : Below a.heap.size a c := h.trans (k.mono h.size)
abbrev stepC (kind node dst number amount fee : Int) (b : Value) : Array Value := #[.int .i64 kind, .int .i64 node, .int .i64 dst, .int .i64 number, .int .u64 amount, .int .u64 fee, b]
theorem exMine_any {p op n l s : Nat} {seed : Int} {x : ScV} (w : World) (hb : w.heap[p]? = some (.cells (scC op seed n l s x) 43 (0, 0))) (node : Nat) (hn : node < n) (dst number amount fee : Int) (b : Value) :
   Calls Tryz.prog 35 #[.pointer (some ⟨p, 0, none⟩), .agg (stepC 1 node dst number amount fee b)] w fun e w' => e = .returned (.int .i64 0) ∧ Below w.heap.size w w' := by
 have d1 : decide (node < n) = true := decide_eq_true hn; have HX := Lib.hid (box_new w (.cells (stepC 1 node dst number amount fee b) 60)); have HB := Lib.hid (bnew (Below.refl w.heap.size w) (.cells (stepC 1 node dst number amount fee b) 60)); have HP := Lib.hid (bxB hb HB.out); obtain ⟨x0, x1⟩ := box_cells HX.out; clear hb
 go_enter Tryz.func35, Tryz.ntmps35
 go_wp2_with fail
 refine (isNode_any _ HP.out node).mono ?_
 rintro e w2 ⟨rfl, h2⟩; rw [d1]; have HB2 := Lib.hid (btrB HB.out h2); go_wp2_with fail; go_ret
 exact ⟨rfl, HB2.out⟩
theorem exDeliver_any {p op n l s : Nat} {seed : Int} {x : ScV} (w : World) (hb : w.heap[p]? = some (.cells (scC op seed n l s x) 43 (0, 0))) (node dst number amount fee : Int) (b : Value) :
   Calls Tryz.prog 35 #[.pointer (some ⟨p, 0, none⟩), .agg (stepC 5 node dst number amount fee b)] w fun e w' => e = .returned (.int .i64 0) ∧ Below w.heap.size w w' := by
 have HX := Lib.hid (box_new w (.cells (stepC 5 node dst number amount fee b) 60)); have HB := Lib.hid (bnew (Below.refl w.heap.size w) (.cells (stepC 5 node dst number amount fee b) 60)); have HP := Lib.hid (bxB hb HB.out); obtain ⟨x0, x1⟩ := box_cells HX.out; obtain ⟨y0, y1⟩ := box_cells HP.out; clear hb
 go_enter Tryz.func35, Tryz.ntmps35
 go_wp2_with fail; go_ret
 exact ⟨rfl, HB.out⟩
theorem exPay_bad {p op n l s : Nat} {seed : Int} {x : ScV} (w : World) (hb : w.heap[p]? = some (.cells (scC op seed n l s x) 43 (0, 0))) (node dst : Nat) (hn : node < n) (hd : n ≤ dst) (number amount fee : Int) (b : Value) :
   Calls Tryz.prog 35 #[.pointer (some ⟨p, 0, none⟩), .agg (stepC 3 node dst number amount fee b)] w fun e w' => e = .returned (.int .i64 1) ∧ Below w.heap.size w w' := by
 have d1 : decide (node < n) = true := decide_eq_true hn
 have d2 : decide (dst < n) = false := decide_eq_false (by omega)
 have HX := Lib.hid (box_new w (.cells (stepC 3 node dst number amount fee b) 60)); have HB := Lib.hid (bnew (Below.refl w.heap.size w) (.cells (stepC 3 node dst number amount fee b) 60)); have HP := Lib.hid (bxB hb HB.out); obtain ⟨x0, x1⟩ := box_cells HX.out; clear hb
 go_enter Tryz.func35, Tryz.ntmps35
 go_wp2_with fail
 refine (isNode_any _ HP.out node).mono ?_
 rintro e w2 ⟨rfl, h2⟩; rw [d1]; have HB2 := Lib.hid (btrB HB.out h2); have HP2 := Lib.hid (bxB HP.out h2); obtain ⟨z0, z1⟩ := box_cells (bxB HX.out h2); clear x0 x1; go_wp2_with fail
 refine (isNode_any _ HP2.out dst).mono ?_
 rintro e w3 ⟨rfl, h3⟩; rw [d2]; have HB3 := Lib.hid (btrB HB2.out h3); go_wp2_with fail; go_ret
 exact ⟨rfl, HB3.out⟩
end Go.Proofs.YtphacfkcifpobaaGreatDoor
/- Script: a world delivers a message that holds a first block. -/
namespace Go.Proofs.YtphacfkcifpobaaGreatDoor
open Go.ChangeShapes Go.WideShapes Go.ChangeAt Go.RowKit Go.Sort
theorem msg40 {S : Nat → Prop} {w : World} {cs : List Value} {frm num : Int} {bs : List Int} (h : msgR.rel S w cs ⟨2, frm, num, bs⟩) (hl : bs.length = 40) : ∃ (va : Option Addr) (vc : Nat), cs = [.int .i64 2, .int .i64 frm, .int .i64 num, .slice va 40 vc] := by
 obtain ⟨v, rfl, -, -, -, h4⟩ := msgR.inv h; obtain ⟨va, vc, rfl, -⟩ := sliceR.form h4
 exact ⟨va, vc, by rw [hl]⟩
section
variable {O : Nat → Prop} {L E : List (Asn O)} {f : Asn O → List (Asn O)} {F0 : Nat → Prop} {w0 w : World}
theorem Fr.ptrs {t : TypeId} {a : Option Addr} {c k q : Nat} {ps : List Nat} (h : Fr L F0 w0 w) (ix : In L (ownA ptrR 0 t (.slice a ps.length c) ps) f E) (hk : ps[k]? = some q) : ∃ b off, a = some ⟨b, off, none⟩ := by
 obtain ⟨hl, -⟩ := List.getElem?_eq_some_iff.1 hk; obtain ⟨b, off, es, rfl, -⟩ := sliceR.at (Own.slice (h.get ix)) k hl
 exact ⟨b, off, rfl⟩
theorem Fr.ptr {t : TypeId} {b off c q : Nat} {ps : List Nat} (h : Fr L F0 w0 w) (ix : In L (ownA ptrR 0 t (.slice (some ⟨b, off, none⟩) ps.length c) ps) f E) (k : Nat) (hk : ps[k]? = some q) : w.rangeAt b (off + k) [.pointer (some ⟨q, 0, none⟩)] := by
 obtain ⟨hl, hq⟩ := List.getElem?_eq_some_iff.1 hk; obtain ⟨b', off', es, he, -, -, hrel, hca⟩ := sliceR.at (Own.slice (h.get ix)) k hl
 cases he
 have h1 : es = [.pointer (some ⟨ps[k], 0, none⟩)] := hrel; rw [h1, hq] at hca
 have h2 : off + k * ptrR.n = off + k := by rw [show ptrR.n = 1 from rfl, Nat.mul_one]
 rw [h2] at hca
 exact fun j v hv => hca j v hv
end
section
variable {O : Nat → Prop} {N EN : List (Asn O)} {fN : Asn O → List (Asn O)} {G : Nat → Prop} {w0 w : World}
set_option maxHeartbeats 4000000 in
theorem scDeliver_any {p op q num nodes : Nat} {r : RuM} {sd seed : Int} {y : NdV} {ps : List Nat} {log : List Int} {sent ms : List Msg} {x : ScV} (hf : Fr (O := O) (scL p op seed ps log sent ms x N) G w0 w) (ix : In N (listA (ndL q op r num nodes sd chM0 0 y)) fN EN) (hq : ps[num]? = some q) (i : Int) (hmi : isMsg ms i = true) (frm : Nat) (bs : List Int) (hm : takeM ms i = ⟨2, frm, num, bs⟩) (hr : RuOK r) (hmo : r.mode = 2) (hno : nodes ≤ 64) (hnu : num ≤ 64) (hl : bs.length = 40) (pa mi wk no : Int) (hbk : Bk0 pa 1 mi wk no none 0) (hd : decB bs = ([pa, 1, mi, wk, no, 0], true)) (hv : blkE ⟨pa, 1, mi, wk, no, []⟩ = 0) (hz : subE r chM0 ⟨pa, 1, mi, wk, no, []⟩ = 0) (hfn : frm < nodes ∧ frm ≠ num) (hsm : sendM num frm 2 bs nodes = []) :
   Calls Tryz.prog 63 #[.pointer (some ⟨p, 0, none⟩), .int .i64 i] w fun e w' => e = .returned (.bool true) ∧ ∃ (ya : Option Addr) (yc pp : Nat), Fr (O := O) (scL p op seed ps log sent (withoutL ms i) x (fN (listA (ndL q op r num nodes sd (subM r chM0 ⟨pa, 1, mi, wk, no, []⟩ ya yc) 1 { y with pp := pp })))) G w0 w' := by
 obtain ⟨na, nc, np, la, lc, sa, sc⟩ := x; obtain ⟨bn, on, hna⟩ := hf.ptrs i1 hq; have hna' : na = some ⟨bn, on, none⟩ := hna; subst hna'; clear hna; have HF := Lib.hid hf; have HQ := Lib.hid hq; have IX := ix; have HMI := Lib.hid hmi; have HM := Lib.hid hm; have HR := Lib.hid hr; have HMO := Lib.hid hmo; have HNO := Lib.hid hno; have HNU := Lib.hid hnu; have HL := Lib.hid hl; have HBK := Lib.hid hbk; have HDB := Lib.hid hd; have HV := Lib.hid hv; have HZ := Lib.hid hz; have HFN := Lib.hid hfn; have HSM := Lib.hid hsm
 have hlt : (num : Int) < (ps.length : Int) := by
   have := (List.getElem?_eq_some_iff.1 hq).1
   omega
 have hge : (0 : Int) ≤ (num : Int) := by omega
 clear hf hq ix hmi hm hr hmo hno hnu hl hbk hd hv hz hfn hsm
 go_enter Tryz.func63, Tryz.ntmps63
 obtain ⟨x0, x1⟩ := box_cells (HF.out.box i0); go_wp2_with fail
 refine (netTake_fr HF.out i4 i).mono ?_
 rintro e w2 ⟨cs, rfl, hf2⟩; rw [HMI.out]; rw [HM.out] at hf2; obtain ⟨va, vc, rfl⟩ := msg40 (hf2.get i4).2 HL.out; have HF2 := Lib.hid hf2; have hf3 := hf2.alloc #[.int .i64 2, .int .i64 frm, .int .i64 num, .slice va 40 vc] 145; have HF3 := Lib.hid hf3; clear hf2 hf3 HF x0 x1
 -- MARK1
 go_upto_region 4 with (fail)
 obtain ⟨w3, hw3⟩ : ∃ z, w2.alloc (.cells #[.int .i64 2, .int .i64 frm, .int .i64 num, .slice va 40 vc] 145) = z := ⟨_, rfl⟩; obtain ⟨B, hB⟩ : ∃ z, w2.heap.size = z := ⟨_, rfl⟩; rw [hw3, hB] at HF3; rw [hw3, hB]; clear hw3 hB HF2
 -- MARK3
 have HFwg00 := Lib.hid (HF3.out.drew); have hS0 : Hid ((Held [(B, #[.int .i64 2, .int .i64 frm, .int .i64 num, .slice va 40 vc], 145), (p, (scC op seed ps.length log.length sent.length ⟨some ⟨bn, on, none⟩, nc, np, la, lc, sa, sc⟩), 43)] [(bn, on + num, [.pointer (some ⟨q, 0, none⟩)])]) w3.drew) := Held.keepB (⟨⟨HF3.out.box i0, HF3.out.box i1, trivial⟩, HF3.out.ptr i2 num HQ.out, trivial⟩) (Below.refl _ _).drew
 refine wp_region_held_drew (S := (Held [(B, #[.int .i64 2, .int .i64 frm, .int .i64 num, .slice va 40 vc], 145), (p, (scC op seed ps.length log.length sent.length ⟨some ⟨bn, on, none⟩, nc, np, la, lc, sa, sc⟩), 43)] [(bn, on + num, [.pointer (some ⟨q, 0, none⟩)])])) (by kernel_rfl) hS0.out (fun hHeld => ?_)
 obtain ⟨wg0, hwd⟩ : ∃ x, w3.drew = x := ⟨_, rfl⟩; rw [hwd] at hHeld HFwg00 ⊢; have HFwg0 := HFwg00; clear hwd HFwg00 hS0
 go_simp
 refine tkV 0 rfl (fun wz hSz => by go_simp; all_goals with_reducible rfl) ?_
 go_simp
 refine tkV 1 rfl (fun wz hSz => by go_simp; all_goals with_reducible rfl) ?_
 go_simp
 refine tkV 2 rfl (fun wz hSz => by go_simp; all_goals with_reducible rfl) ?_
 go_simp
 refine tkV 3 rfl (fun wz hSz => by go_simp; all_goals with_reducible rfl) ?_
 go_simp
 refine tkV 4 rfl (fun wz hSz => by have cx := (box_cells hSz.b.2.1).1; go_simp; all_goals with_reducible rfl) ?_
 go_simp
 refine tkV 5 rfl (fun wz hSz => by go_simp; all_goals with_reducible rfl) ?_
 go_simp
 refine tkV 6 rfl (fun wz hSz => by have cx := (box_cells hSz.b.1).1; go_simp; all_goals with_reducible rfl) ?_
 go_simp
 refine tkV 7 rfl (fun wz hSz => by go_simp; all_goals with_reducible rfl) ?_
 go_simp
 refine tkV 8 rfl (fun wz hSz => by have cx : wz.cell? ⟨bn, on + num, none⟩ = some (.pointer (some ⟨q, 0, none⟩)) := hSz.r.1 0 _ rfl; go_simp; all_goals with_reducible rfl) ?_
 go_simp
 refine tkY 9 rfl (yieldsIf_load_mid (by rfl) _ _ rfl (B) 0 rfl [.int .i64 2, .int .i64 frm, .int .i64 num, .slice va 40 vc] _ (fun wz hSz => range_box hSz.b.1) Tryz.underlying145 rfl (by kernel_rfl)) ?_
 go_simp
 refine rd1 10 rfl (fun K hK => ?_)
 go_simp
 obtain ⟨Gn, hA, hrd, hin, hcl⟩ := HFwg0.out.sub (.s (.s (.s (.s (.s (.s IX)))))); have HRD := Lib.hid (msg_bytes (hrd i5).2); have HCL := Lib.hid hcl; clear hrd hcl
 refine (ndRecv_any (S := fun k => ¬ Gn k) (hin _ hA) HR.out HMO.out HNO.out HNU.out frm va vc bs HRD.out (fun k h hg => h hg) HL.out pa mi wk no HBK.out HDB.out HV.out HZ.out HFN.out).mono ?_
 rintro E wg1 ⟨ma, mc, rfl, ya, yc, pp, hf3⟩
 have HFwg1 := Lib.hid (HCL.out (listA _) _ _ (fun _ _ h => h) (hf3.drop i0))
 rw [HSM.out]; clear hin hA HRD HCL; clear hHeld hf3
 refine hK.out _ _ (⟨⟨HFwg1.out.box i0, HFwg1.out.box i1, trivial⟩, HFwg1.out.ptr i2 num HQ.out, trivial⟩) (fun hHeld => ?_)
 clear hK K
 go_simp
 refine rd1 11 rfl (fun K hK => ?_)
 go_simp
 refine (send0_any wg1 p ma mc).mono ?_
 rintro E wg2 ⟨rfl, hb⟩; have HFwg2 := Lib.hid (HFwg1.out.keepB hb); clear hHeld hb
 refine hK.out _ _ (⟨⟨HFwg2.out.box i0, HFwg2.out.box i1, trivial⟩, HFwg2.out.ptr i2 num HQ.out, trivial⟩) (fun hHeld => ?_)
 clear hK K
 go_simp
 clear hHeld
 refine wpAnyH_done (by kernel_rfl) ?_ _
 have hfe := HFwg2.out.drop i0; have HFE := Lib.hid hfe; clear hfe HFwg2
 -- MARK7
 go_wp2_with fail; go_ret
 exact ⟨rfl, ya, yc, pp, HFE.out.map1 i4 fun _ h => h.1⟩
end
end Go.Proofs.YtphacfkcifpobaaGreatDoor
/- Script: a world's transport of a delivery, and the act of mining. -/
namespace Go.Proofs.YtphacfkcifpobaaGreatDoor
open Go.ChangeShapes Go.WideShapes Go.ChangeAt Go.RowKit Go.Sort
section
variable {O : Nat → Prop} {L E : List (Asn O)} {f : Asn O → List (Asn O)} {F0 : Nat → Prop} {w0 w : World}
theorem Fr.lift {X : Asn O} {M : List (Asn O)} (h : Fr L F0 w0 w) (ix : In L (listA (X :: M)) f E) : Fr (X :: f (listA M)) F0 w0 w := by
 obtain ⟨⟨F, h1, h2⟩, hk, hO⟩ := h; obtain ⟨G, g1, ⟨G1, a1, a2, a3⟩, g3, g4⟩ := h1.take ix
 refine ⟨⟨F, ⟨G1, fun k h => g1 k (a1 k h), a2, SepL.mono (g4 (listA M) w (fun k => G k ∧ ¬ G1 k) a3 (fun k h _ => h.1) (Kept.refl _ _)) fun k h => ?_⟩, h2⟩, hk, hO⟩
 exact h.elim (fun h => ⟨h.1, fun h1 => h.2 (a1 k h1)⟩) fun h => ⟨g1 k h.1, h.2⟩
theorem In.at {A : Asn O} (ix : In L A f E) (B : Asn O) : In (f B) B f E := by
 induction ix with
 | z => exact .z
 | s _ ih => exact .s ih
end
theorem trDeliver_any {p : Nat} {Q : World → Prop} {i : Int} (w : World) (node number amount fee : Int) (bv : Value) (h : ∀ w1, Below w.heap.size w w1 → Calls Tryz.prog 63 #[.pointer (some ⟨p, 0, none⟩), .int .i64 i] w1 fun e w' => e = .returned (.bool true) ∧ Q w') :
   Calls Tryz.prog 37 #[.pointer (some ⟨p, 0, none⟩), .agg (stepC 5 node i number amount fee bv)] w fun e w' => e = .returned (.int .i64 0) ∧ Q w' := by
 have H := Lib.hid (h _ (bnew (Below.refl w.heap.size w) (.cells (stepC 5 node i number amount fee bv) 60))); obtain ⟨x0, x1⟩ := box_cells (box_new w (.cells (stepC 5 node i number amount fee bv) 60)); clear h
 go_enter Tryz.func37, Tryz.ntmps37
 go_wp2_with fail
 refine H.out.mono ?_
 rintro e w2 ⟨rfl, hq⟩; have HQ := Lib.hid hq; clear hq H x0 x1; go_wp2_with fail; go_ret
 exact ⟨rfl, HQ.out⟩
section
variable {O : Nat → Prop} {N EN : List (Asn O)} {fN : Asn O → List (Asn O)} {G : Nat → Prop} {w0 w : World}
set_option maxHeartbeats 4000000 in
theorem actMine_any {p op q num nodes : Nat} {r : RuM} {sd seed : Int} {y : NdV} {ps : List Nat} {log : List Int} {sent ms : List Msg} {x : ScV} {m : Msg} (hf : Fr (O := O) (scL p op seed ps log sent ms x N) G w0 w) (ix : In N (listA (ndL q op r num nodes sd chM0 0 y)) fN EN) (hq : ps[num]? = some q) (dst number fee : Int) (bv : Value) (hse : okU seed) (hlg : log.length ≤ 100000) (hr : RuOK r) (hmo : r.mode = 2) (hno : nodes ≤ 64) (hnu : num ≤ 64) (hs : okU sd) (hw : okU r.work) (k : Int) (hm : mineB 0 1 (accS sd) r.work 100 0 = some k) (hv : blkE ⟨0, 1, accS sd, r.work, 0, []⟩ = 0) (hz : subE r chM0 ⟨0, 1, accS sd, r.work, k, []⟩ = 0) (hsm : sendM num num 2 (headS ⟨0, 1, accS sd, r.work, k, []⟩) nodes = [m]) (hfit : fitsB ps.length ms.length m = true) (hsl : sent.length ≤ 100000) (hbl : m.bytes.length ≤ 4194304) :
   Calls Tryz.prog 36 #[.pointer (some ⟨p, 0, none⟩), .agg (stepC 1 num dst number 100 fee bv)] w fun e w' => e = .returned (.int .i64 0) ∧ ∃ (ya : Option Addr) (yc pp : Nat) (sa : Option Addr) (sc : Nat), Fr (O := O) (scL p op seed ps log (sent ++ [m]) (ms ++ [m]) { x with sa := sa, sc := sc } (fN (listA (ndL q op r num nodes sd (subM r chM0 ⟨0, 1, accS sd, r.work, k, []⟩ ya yc) 1 { y with pp := pp })))) G w0 w' := by
 obtain ⟨na, nc, np, la, lc, sa, sc⟩ := x; obtain ⟨bn, on, hna⟩ := hf.ptrs i1 hq; have hna' : na = some ⟨bn, on, none⟩ := hna; subst hna'; clear hna; have hf1 := hf.alloc (stepC 1 num dst number 100 fee bv) 60; have HF1 := Lib.hid hf1; have HQ := Lib.hid hq; have IX := ix; have HSE := Lib.hid hse
 have HLG := Lib.hid (okU_of (show (0 : Int) ≤ (log.length : Int) by omega) (by omega))
 have HWR : Hid (IntKind.u64.wrap (log.length : Int) = (log.length : Int)) := (IntKind.wrap_u64 _).trans (by omega)
 have HR := Lib.hid hr; have HMO := Lib.hid hmo; have HNO := Lib.hid hno; have HNU := Lib.hid hnu; have HSD := Lib.hid hs; have HWK := Lib.hid hw; have HM := Lib.hid hm; have HV := Lib.hid hv; have HZ := Lib.hid hz; have HSM := Lib.hid hsm; have HFT := Lib.hid hfit; have HSL := Lib.hid hsl; have HBL := Lib.hid hbl
 have hlt : (num : Int) < (ps.length : Int) := by
   have := (List.getElem?_eq_some_iff.1 hq).1
   omega
 have hge : (0 : Int) ≤ (num : Int) := by omega
 clear hf hf1 hq ix hse hlg hr hmo hno hnu hs hw hm hv hz hsm hfit hsl hbl
 go_enter Tryz.func36, Tryz.ntmps36
 go_upto_region 1 with (fail)
 obtain ⟨w1, hw1⟩ : ∃ z, w.alloc (.cells (stepC 1 num dst number 100 fee bv) 60) = z := ⟨_, rfl⟩; obtain ⟨B, hB⟩ : ∃ z, w.heap.size = z := ⟨_, rfl⟩; rw [hw1, hB] at HF1; rw [hw1, hB]; clear hw1 hB
 -- MARK1
 have HFwg00 := Lib.hid (HF1.out.drew); have hS0 : Hid ((Held [(B, (stepC 1 num dst number 100 fee bv), 60), (p, (scC op seed ps.length log.length sent.length ⟨some ⟨bn, on, none⟩, nc, np, la, lc, sa, sc⟩), 43)] [(bn, on + num, [.pointer (some ⟨q, 0, none⟩)])]) w1.drew) := Held.keepB (⟨⟨HF1.out.box i0, HF1.out.box i1, trivial⟩, HF1.out.ptr i2 num HQ.out, trivial⟩) (Below.refl _ _).drew
 refine wp_region_held_drew (S := (Held [(B, (stepC 1 num dst number 100 fee bv), 60), (p, (scC op seed ps.length log.length sent.length ⟨some ⟨bn, on, none⟩, nc, np, la, lc, sa, sc⟩), 43)] [(bn, on + num, [.pointer (some ⟨q, 0, none⟩)])])) (by kernel_rfl) hS0.out (fun hHeld => ?_)
 obtain ⟨wg0, hwd⟩ : ∃ x, w1.drew = x := ⟨_, rfl⟩; rw [hwd] at hHeld HFwg00 ⊢; have HFwg0 := HFwg00; clear hwd HFwg00 hS0
 go_simp
 refine tkV 0 rfl (fun wz hSz => by go_simp; all_goals with_reducible rfl) ?_
 go_simp
 refine tkV 1 rfl (fun wz hSz => by go_simp; all_goals with_reducible rfl) ?_
 go_simp
 refine tkV 2 rfl (fun wz hSz => by go_simp; all_goals with_reducible rfl) ?_
 go_simp
 refine tkV 3 rfl (fun wz hSz => by have cx := (box_cells hSz.b.2.1).1; go_simp; all_goals with_reducible rfl) ?_
 go_simp
 refine tkV 4 rfl (fun wz hSz => by go_simp; all_goals with_reducible rfl) ?_
 go_simp
 refine tkV 5 rfl (fun wz hSz => by have cx := (box_cells hSz.b.1).1; go_simp; all_goals with_reducible rfl) ?_
 go_simp
 refine tkV 6 rfl (fun wz hSz => by go_simp; all_goals with_reducible rfl) ?_
 go_simp
 refine tkV 7 rfl (fun wz hSz => by have cx : wz.cell? ⟨bn, on + num, none⟩ = some (.pointer (some ⟨q, 0, none⟩)) := hSz.r.1 0 _ rfl; go_simp; all_goals with_reducible rfl) ?_
 go_simp
 refine tkV 8 rfl (fun wz hSz => by go_simp; all_goals with_reducible rfl) ?_
 go_simp
 clear hHeld
 refine wpAnyH_done (by kernel_rfl) ?_ _
 have HFK := HFwg0; obtain ⟨wK, hwk⟩ : ∃ z, wg0 = z := ⟨_, rfl⟩; rw [hwk] at HFK ⊢; clear hwk HFwg0
 -- MARK2
 go_upto_region 2 with (fail)
 have HFwh00 := Lib.hid (HFK.out.drew); have hS0 : Hid ((Held [(B, (stepC 1 num dst number 100 fee bv), 60), (p, (scC op seed ps.length log.length sent.length ⟨some ⟨bn, on, none⟩, nc, np, la, lc, sa, sc⟩), 43)] [(bn, on + num, [.pointer (some ⟨q, 0, none⟩)])]) wK.drew) := Held.keepB (⟨⟨HFK.out.box i0, HFK.out.box i1, trivial⟩, HFK.out.ptr i2 num HQ.out, trivial⟩) (Below.refl _ _).drew
 refine wp_region_held_drew (S := (Held [(B, (stepC 1 num dst number 100 fee bv), 60), (p, (scC op seed ps.length log.length sent.length ⟨some ⟨bn, on, none⟩, nc, np, la, lc, sa, sc⟩), 43)] [(bn, on + num, [.pointer (some ⟨q, 0, none⟩)])])) (by kernel_rfl) hS0.out (fun hHeld => ?_)
 obtain ⟨wh0, hwd⟩ : ∃ x, wK.drew = x := ⟨_, rfl⟩; rw [hwd] at hHeld HFwh00 ⊢; have HFwh0 := HFwh00; clear hwd HFwh00 hS0
 go_simp
 refine tkV 0 rfl (fun wz hSz => by go_simp; all_goals with_reducible rfl) ?_
 go_simp
 refine tkV 1 rfl (fun wz hSz => by go_simp; all_goals with_reducible rfl) ?_
 go_simp
 refine tkV 2 rfl (fun wz hSz => by go_simp; all_goals with_reducible rfl) ?_
 go_simp
 refine tkV 3 rfl (fun wz hSz => by have cx := (box_cells hSz.b.2.1).1; go_simp; all_goals with_reducible rfl) ?_
 go_simp
 refine tkV 4 rfl (fun wz hSz => by go_simp; all_goals with_reducible rfl) ?_
 go_simp
 refine tkV 5 rfl (fun wz hSz => by go_simp; all_goals with_reducible rfl) ?_
 go_simp
 refine tkV 6 rfl (fun wz hSz => by go_simp; all_goals with_reducible rfl) ?_
 go_simp
 refine tkV 7 rfl (fun wz hSz => by have cx := (box_cells hSz.b.2.1).1; go_simp; all_goals with_reducible rfl) ?_
 go_simp
 refine tkV 8 rfl (fun wz hSz => by go_simp; all_goals with_reducible rfl) ?_
 go_simp
 refine tkV 9 rfl (fun wz hSz => by go_simp; all_goals with_reducible rfl) ?_
 go_simp
 refine rd1 10 rfl (fun K hK => ?_)
 go_simp
 try rw [HWR.out]
 have hnu := nums2 wh0 24 HSE.out HLG.out; have hfa := HFwh0.out.keepB (bnew (Below.refl _ _) (.cells #[.int .u64 seed, .int .u64 (log.length : Int)] 24)); obtain ⟨bu, hbu⟩ : ∃ z, wh0.heap.size = z := ⟨_, rfl⟩; rw [hbu] at hnu
 try rw [hbu]
 obtain ⟨wg11, hw⟩ : ∃ z, wh0.alloc (.cells #[.int .u64 seed, .int .u64 (log.length : Int)] 24) = z := ⟨_, rfl⟩; rw [hw] at hfa hnu ⊢; have HFwg11 := Lib.hid hfa; have HNU2 := Lib.hid hnu; clear hHeld hfa hnu hw hbu
 refine hK.out _ _ (⟨⟨HFwg11.out.box i0, HFwg11.out.box i1, trivial⟩, HFwg11.out.ptr i2 num HQ.out, trivial⟩) (fun hHeld => ?_)
 clear hK K
 go_simp
 refine rd1 11 rfl (fun K hK => ?_)
 go_simp
 refine (Hash_big 22 (by omega) (fun _ => True) _ _ 2 [seed, (log.length : Int)] (by simpa using HNU2.out) (by simp)).mono ?_
 rintro E wg12 ⟨rfl, hb⟩; have HFwg12 := Lib.hid (HFwg11.out.keepB hb); clear hHeld hb
 refine hK.out _ _ (⟨⟨HFwg12.out.box i0, HFwg12.out.box i1, trivial⟩, HFwg12.out.ptr i2 num HQ.out, trivial⟩) (fun hHeld => ?_)
 clear hK K
 go_simp
 refine tkV 12 rfl (fun wz hSz => by go_simp; all_goals with_reducible rfl) ?_
 go_simp
 clear hHeld
 refine wpAnyH_done (by kernel_rfl) ?_ _
 have HFL := HFwg12; obtain ⟨wL, hwk⟩ : ∃ z, wg12 = z := ⟨_, rfl⟩; rw [hwk] at HFL ⊢; clear hwk HFwg12 HFK; obtain ⟨x0, x1⟩ := box_cells (HFL.out.box i0)
 -- MARK3
 go_wp2_with fail; obtain ⟨Gn, hA, -, hin, hcl⟩ := HFL.out.sub (.s (.s (.s (.s (.s (.s IX)))))); have HCL := Lib.hid hcl; clear hcl x0 x1
 -- MARK4
 refine (ndMine_any (hin _ hA) HR.out HMO.out HNO.out HNU.out HSD.out HWK.out 100 (by omega) k HM.out HV.out HZ.out).mono ?_
 rintro e w5 ⟨ma, mc, rfl, ya, yc, pp, hf3⟩
 have hf4 := HCL.out (listA (_ :: ndL q op r num nodes sd _ 1 _)) _ _ (fun _ _ h => h) hf3
 have hf5 := hf4.lift (.s (.s (.s (.s (.s (.s (IX.at _))))))); clear hf3 hf4 hin hA HCL HFL; rw [HSM.out] at hf5 ⊢; rw [show [m].length = 1 from rfl] at hf5 ⊢; have HF5 := Lib.hid (hf5.drop i1); clear hf5
 -- MARK5
 go_wp2_with fail
 refine (scSend1_any HF5.out HFT.out HSL.out HBL.out).mono ?_
 rintro e w6 ⟨rfl, sa', sc', hf6⟩; have HF6 := Lib.hid hf6; clear hf6 HF5; go_wp2_with fail; go_ret
 exact ⟨rfl, ya, yc, pp, sa', sc', HF6.out⟩
end
end Go.Proofs.YtphacfkcifpobaaGreatDoor
/- Script: a world does a step. -/
namespace Go.Proofs.YtphacfkcifpobaaGreatDoor
open Go.ChangeShapes Go.WideShapes Go.ChangeAt Go.RowKit Go.Sort
theorem Tryz.etyErrs : ElemTy Tryz.prog 40 34 1 8 := ElemTy.of Tryz.underlying40 (z := .int .i64 0) (by kernel_rfl) rfl (by omega)
section
variable {O : Nat → Prop} {N : List (Asn O)} {G : Nat → Prop} {w0 w : World}
set_option maxHeartbeats 4000000 in
theorem doMine_any {p op : Nat} {seed : Int} {ps : List Nat} {log : List Int} {sent ms : List Msg} {x : ScV} {β : Type} {S M : β → List Msg} {X : β → ScV} {NN : β → List (Asn O)} (hf : Fr (O := O) (scL p op seed ps log sent ms x N) G w0 w) (hll : log.length ≤ 100000) (node : Nat) (hn : node < ps.length) (dst : Int) (number amount fee : Int) (bv : Value) (H : ∀ w1, Below w.heap.size w w1 → Fr (O := O) (scL p op seed ps log sent ms x N) G w0 w1 → Calls Tryz.prog 36 #[.pointer (some ⟨p, 0, none⟩), .agg (stepC 1 node dst number amount fee bv)] w1 fun e w' => e = .returned (.int .i64 0) ∧ ∃ b : β, Fr (O := O) (scL p op seed ps log (S b) (M b) (X b) (NN b)) G w0 w') :
   Calls Tryz.prog 16 #[.pointer (some ⟨p, 0, none⟩), .agg (stepC 1 node dst number amount fee bv)] w fun e w' => e = .returned (.int .i64 0) ∧ ∃ (b : β) (la : Option Addr) (lc : Nat), Fr (O := O) (scL p op seed ps (log ++ [0]) (S b) (M b) { X b with la := la, lc := lc } (NN b)) G w0 w' := by
 have HF1 := Lib.hid (hf.alloc (stepC 1 node dst number amount fee bv) 60); have HB1 := Lib.hid (bnew (Below.refl w.heap.size w) (.cells (stepC 1 node dst number amount fee bv) 60)); have HLL := Lib.hid hll; clear hf hll
 go_enter Tryz.func16, Tryz.ntmps16
 go_upto_region 1 with (fail)
 obtain ⟨w1, hw1⟩ : ∃ z, w.alloc (.cells (stepC 1 node dst number amount fee bv) 60) = z := ⟨_, rfl⟩; obtain ⟨B, hB⟩ : ∃ z, w.heap.size = z := ⟨_, rfl⟩; rw [hw1] at HB1; rw [hw1, hB] at HF1; rw [hw1, hB]; obtain ⟨x0, x1⟩ := box_cells (HF1.out.box i0); have hgr : w1.heap.size = w1.heap.size := rfl; clear hw1 hB
 -- MARK1
 go_wp2_with (refine wpList_load_row rfl _ _ rfl B rfl _ _ _ _ (HF1.out.box i0) Tryz.underlying60 rfl (by kernel_rfl) ?_)
 refine (exMine_any w1 (HF1.out.box i1) node hn dst number amount fee bv).mono ?_
 rintro e w2 ⟨rfl, hb⟩; have y0 := (box_cells ((HF1.out.keepB hb).box i0)).1; clear x0 x1 hgr; have hb2 := btrB HB1.out hb; have hf2 := HF1.out.keepB hb; have HF2 := Lib.hid hf2; have HC := Lib.hid (H _ hb2 (hf2.drop i0)); clear hb hb2 hf2 HF1 H
 -- MARK2
 go_wp2_with (refine wpList_load_row rfl _ _ rfl B rfl _ _ _ _ (HF2.out.box i0) Tryz.underlying60 rfl (by kernel_rfl) ?_)
 refine HC.out.mono ?_
 rintro e w4 ⟨rfl, b, hf4⟩; have HF4 := Lib.hid hf4; clear hf4 HF2 HC
 -- MARK3
 go_upto_region 10 with (fail)
 obtain ⟨z0, z1⟩ := box_cells (HF4.out.box i0)
 have HF5 := Lib.hid ((HF4.out.new (A := repA (intR .i64) [.int .i64 0] 0) (Below.refl _ _) ⟨rfl, by decide⟩).keepB (bnew (Below.refl w4.heap.size w4) (.cells #[.int .i64 0] 34)))
 have HCU : Hid (CellsAt (w4.alloc (.cells #[.int .i64 0] 34)) w4.heap.size 0 [.int .i64 0]) := CellsAt.new _ [.int .i64 0] 34
 go_wp2_with (at_builtin; refine wpList_appF rfl _ _ rfl Tryz.etyErrs HF5.out i2 HCU.out rfl rfl rfl (by have := HLL.out; unfold maxLen; omega) (by have := HLL.out; omega) (Nat.zero_le _) ?_; intro a' c' w' hfa; obtain ⟨c0, c1⟩ := box_cells (hfa.box i0))
 have HFE := Lib.hid (hfa.set i0 3 (.slice a' (log.length + 1) c')); clear hfa z0 z1 HF4 HF5 HCU
 -- MARK9doMine_any
 go_ret
 exact ⟨rfl, b, a', c', by unfold scL; rw [List.length_append]; exact HFE.out⟩
set_option maxHeartbeats 4000000 in
theorem doDeliver_any {p op : Nat} {seed : Int} {ps : List Nat} {log : List Int} {sent ms : List Msg} {x : ScV} {β : Type} {S M : β → List Msg} {X : β → ScV} {NN : β → List (Asn O)} (hf : Fr (O := O) (scL p op seed ps log sent ms x N) G w0 w) (hll : log.length ≤ 100000) (node dst : Int) (number amount fee : Int) (bv : Value) (H : ∀ w1, Below w.heap.size w w1 → Fr (O := O) (scL p op seed ps log sent ms x N) G w0 w1 → Calls Tryz.prog 37 #[.pointer (some ⟨p, 0, none⟩), .agg (stepC 5 node dst number amount fee bv)] w1 fun e w' => e = .returned (.int .i64 0) ∧ ∃ b : β, Fr (O := O) (scL p op seed ps log (S b) (M b) (X b) (NN b)) G w0 w') :
   Calls Tryz.prog 16 #[.pointer (some ⟨p, 0, none⟩), .agg (stepC 5 node dst number amount fee bv)] w fun e w' => e = .returned (.int .i64 0) ∧ ∃ (b : β) (la : Option Addr) (lc : Nat), Fr (O := O) (scL p op seed ps (log ++ [0]) (S b) (M b) { X b with la := la, lc := lc } (NN b)) G w0 w' := by
 have HF1 := Lib.hid (hf.alloc (stepC 5 node dst number amount fee bv) 60); have HB1 := Lib.hid (bnew (Below.refl w.heap.size w) (.cells (stepC 5 node dst number amount fee bv) 60)); have HLL := Lib.hid hll; clear hf hll
 go_enter Tryz.func16, Tryz.ntmps16
 go_upto_region 1 with (fail)
 obtain ⟨w1, hw1⟩ : ∃ z, w.alloc (.cells (stepC 5 node dst number amount fee bv) 60) = z := ⟨_, rfl⟩; obtain ⟨B, hB⟩ : ∃ z, w.heap.size = z := ⟨_, rfl⟩; rw [hw1] at HB1; rw [hw1, hB] at HF1; rw [hw1, hB]; obtain ⟨x0, x1⟩ := box_cells (HF1.out.box i0); have hgr : w1.heap.size = w1.heap.size := rfl; clear hw1 hB
 -- MARK1
 go_wp2_with (refine wpList_load_row rfl _ _ rfl B rfl _ _ _ _ (HF1.out.box i0) Tryz.underlying60 rfl (by kernel_rfl) ?_)
 refine (exDeliver_any w1 (HF1.out.box i1) node dst number amount fee bv).mono ?_
 rintro e w2 ⟨rfl, hb⟩; have y0 := (box_cells ((HF1.out.keepB hb).box i0)).1; clear x0 x1 hgr; have hb2 := btrB HB1.out hb; have hf2 := HF1.out.keepB hb; have HF2 := Lib.hid hf2; have HC := Lib.hid (H _ hb2 (hf2.drop i0)); clear hb hb2 hf2 HF1 H
 -- MARK2
 go_wp2_with (refine wpList_load_row rfl _ _ rfl B rfl _ _ _ _ (HF2.out.box i0) Tryz.underlying60 rfl (by kernel_rfl) ?_)
 refine HC.out.mono ?_
 rintro e w4 ⟨rfl, b, hf4⟩; have HF4 := Lib.hid hf4; clear hf4 HF2 HC
 -- MARK3
 go_upto_region 10 with (fail)
 obtain ⟨z0, z1⟩ := box_cells (HF4.out.box i0)
 have HF5 := Lib.hid ((HF4.out.new (A := repA (intR .i64) [.int .i64 0] 0) (Below.refl _ _) ⟨rfl, by decide⟩).keepB (bnew (Below.refl w4.heap.size w4) (.cells #[.int .i64 0] 34)))
 have HCU : Hid (CellsAt (w4.alloc (.cells #[.int .i64 0] 34)) w4.heap.size 0 [.int .i64 0]) := CellsAt.new _ [.int .i64 0] 34
 go_wp2_with (at_builtin; refine wpList_appF rfl _ _ rfl Tryz.etyErrs HF5.out i2 HCU.out rfl rfl rfl (by have := HLL.out; unfold maxLen; omega) (by have := HLL.out; omega) (Nat.zero_le _) ?_; intro a' c' w' hfa; obtain ⟨c0, c1⟩ := box_cells (hfa.box i0))
 have HFE := Lib.hid (hfa.set i0 3 (.slice a' (log.length + 1) c')); clear hfa z0 z1 HF4 HF5 HCU
 -- MARK9doDeliver_any
 go_ret
 exact ⟨rfl, b, a', c', by unfold scL; rw [List.length_append]; exact HFE.out⟩
set_option maxHeartbeats 4000000 in
theorem doPay_bad {p op : Nat} {seed : Int} {ps : List Nat} {log : List Int} {sent ms : List Msg} {x : ScV} (hf : Fr (O := O) (scL p op seed ps log sent ms x N) G w0 w) (hll : log.length ≤ 100000) (node dst : Nat) (hn : node < ps.length) (hd : ps.length ≤ dst) (number amount fee : Int) (bv : Value)  :
   Calls Tryz.prog 16 #[.pointer (some ⟨p, 0, none⟩), .agg (stepC 3 node dst number amount fee bv)] w fun e w' => e = .returned (.int .i64 1) ∧ ∃ (la : Option Addr) (lc : Nat), Fr (O := O) (scL p op seed ps (log ++ [1]) sent ms { x with la := la, lc := lc } N) G w0 w' := by
 have HF1 := Lib.hid (hf.alloc (stepC 3 node dst number amount fee bv) 60); have HB1 := Lib.hid (bnew (Below.refl w.heap.size w) (.cells (stepC 3 node dst number amount fee bv) 60)); have HLL := Lib.hid hll; clear hf hll
 go_enter Tryz.func16, Tryz.ntmps16
 go_upto_region 1 with (fail)
 obtain ⟨w1, hw1⟩ : ∃ z, w.alloc (.cells (stepC 3 node dst number amount fee bv) 60) = z := ⟨_, rfl⟩; obtain ⟨B, hB⟩ : ∃ z, w.heap.size = z := ⟨_, rfl⟩; rw [hw1] at HB1; rw [hw1, hB] at HF1; rw [hw1, hB]; obtain ⟨x0, x1⟩ := box_cells (HF1.out.box i0); have hgr : w1.heap.size = w1.heap.size := rfl; clear hw1 hB
 -- MARK1
 go_wp2_with (refine wpList_load_row rfl _ _ rfl B rfl _ _ _ _ (HF1.out.box i0) Tryz.underlying60 rfl (by kernel_rfl) ?_)
 refine (exPay_bad w1 (HF1.out.box i1) node dst hn hd number amount fee bv).mono ?_
 rintro e w2 ⟨rfl, hb⟩; have y0 := (box_cells ((HF1.out.keepB hb).box i0)).1; clear x0 x1 hgr; have HF4 := Lib.hid ((HF1.out.keepB hb).drop i0); obtain ⟨w4, hw4⟩ : ∃ z, w2 = z := ⟨_, rfl⟩; rw [hw4] at HF4 ⊢; clear hb hw4 HF1
 -- MARK3
 go_upto_region 10 with (fail)
 obtain ⟨z0, z1⟩ := box_cells (HF4.out.box i0)
 have HF5 := Lib.hid ((HF4.out.new (A := repA (intR .i64) [.int .i64 1] 1) (Below.refl _ _) ⟨rfl, by decide⟩).keepB (bnew (Below.refl w4.heap.size w4) (.cells #[.int .i64 1] 34)))
 have HCU : Hid (CellsAt (w4.alloc (.cells #[.int .i64 1] 34)) w4.heap.size 0 [.int .i64 1]) := CellsAt.new _ [.int .i64 1] 34
 go_wp2_with (at_builtin; refine wpList_appF rfl _ _ rfl Tryz.etyErrs HF5.out i2 HCU.out rfl rfl rfl (by have := HLL.out; unfold maxLen; omega) (by have := HLL.out; omega) (Nat.zero_le _) ?_; intro a' c' w' hfa; obtain ⟨c0, c1⟩ := box_cells (hfa.box i0))
 have HFE := Lib.hid (hfa.set i0 3 (.slice a' (log.length + 1) c')); clear hfa z0 z1 HF4 HF5 HCU
 -- MARK9doPay_bad
 go_ret
 exact ⟨rfl, a', c', by unfold scL; rw [List.length_append]; exact HFE.out⟩
end
end Go.Proofs.YtphacfkcifpobaaGreatDoor
