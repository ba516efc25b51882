/- Script: the steps of a world, joined; a part behind many. -/
import Derived.Test.YtphacfkcifpobaaGreatDoorM27
import Derived.Test.YtphacfkcifpobaaGreatDoorM04
set_option maxRecDepth 100000
namespace Go.Proofs.YtphacfkcifpobaaGreatDoor
open Go.ChangeShapes Go.WideShapes Go.ChangeAt Go.RowKit Go.Sort
section
variable {O : Nat → Prop} {L E : List (Asn O)} {f : Asn O → List (Asn O)} {F0 : Nat → Prop} {w0 w : World}
theorem Fr.snoc {X : Asn O} {M : List (Asn O)} (h : Fr (X :: L) F0 w0 w) (ix : In L (listA M) f E) : Fr (f (listA (M ++ [X]))) F0 w0 w := by
 obtain ⟨⟨F, ⟨G1, a1, a2, a3⟩, h2⟩, hk, hO⟩ := h; obtain ⟨G, g1, g2, g3, g4⟩ := SepL.take ix a3
 have hm : (listA (M ++ [X])).rel (fun k => G k ∨ G1 k) w := SepL.append g2 ⟨G1, fun k h => ⟨.inr h, fun hg => (g1 k hg).2 h⟩, a2, trivial⟩ fun k h => .inl h
 refine ⟨⟨_, g4 _ w _ hm (fun k h hf => h.elim id fun h => absurd h hf.2) (Kept.refl _ _), fun k h => ?_⟩, hk, hO⟩
 rcases h with h | h | h
 · exact h2 k h.1.1
 · exact h2 k (g1 k h).1
 · exact h2 k (a1 k h)
end
section
variable {O : Nat → Prop} {N EN : List (Asn O)} {fN : Asn O → List (Asn O)} {G : Nat → Prop} {w0 w : World}
theorem stepMine {p op q num nodes : Nat} {r : RuM} {sd seed : Int} {y : NdV} {ps : List Nat} {log : List Int} {sent ms : List Msg} {x : ScV} {m : Msg} (hf : Fr (O := O) (scL p op seed ps log sent ms x N) G w0 w) (ix : In N (listA (ndL q op r num nodes sd chM0 0 y)) fN EN) (hq : ps[num]? = some q) (dst number fee : Int) (bv : Value) (hse : okU seed) (hlg : log.length ≤ 100000) (hr : RuOK r) (hmo : r.mode = 2) (hno : nodes ≤ 64) (hnu : num ≤ 64) (hs : okU sd) (hw : okU r.work) (k : Int) (hm : mineB 0 1 (accS sd) r.work 100 0 = some k) (hv : blkE ⟨0, 1, accS sd, r.work, 0, []⟩ = 0) (hz : subE r chM0 ⟨0, 1, accS sd, r.work, k, []⟩ = 0) (hsm : sendM num num 2 (headS ⟨0, 1, accS sd, r.work, k, []⟩) nodes = [m]) (hfit : fitsB ps.length ms.length m = true) (hsl : sent.length ≤ 100000) (hbl : m.bytes.length ≤ 4194304) :
   Calls Tryz.prog 16 #[.pointer (some ⟨p, 0, none⟩), .agg (stepC 1 num dst number 100 fee bv)] w fun e w' => e = .returned (.int .i64 0) ∧ ∃ (ya : Option Addr) (yc pp : Nat) (x' : ScV), Fr (O := O) (scL p op seed ps (log ++ [0]) (sent ++ [m]) (ms ++ [m]) x' (fN (listA (ndL q op r num nodes sd (subM r chM0 ⟨0, 1, accS sd, r.work, k, []⟩ ya yc) 1 { y with pp := pp })))) G w0 w' := by
 refine (doMine_any (β := Option Addr × Nat × Nat × Option Addr × Nat) (S := fun _ => sent ++ [m]) (M := fun _ => ms ++ [m]) (X := fun b => { x with sa := b.2.2.2.1, sc := b.2.2.2.2 }) (NN := fun b => fN (listA (ndL q op r num nodes sd (subM r chM0 ⟨0, 1, accS sd, r.work, k, []⟩ b.1 b.2.1) 1 { y with pp := b.2.2.1 }))) hf hlg num (List.getElem?_eq_some_iff.1 hq).1 dst number 100 fee bv (fun w1 _ h1 => ?_)).mono ?_
 · refine (actMine_any h1 ix hq dst number fee bv hse hlg hr hmo hno hnu hs hw k hm hv hz hsm hfit hsl hbl).mono ?_
   rintro e w' ⟨rfl, ya, yc, pp, sa, sc, h⟩
   exact ⟨rfl, (ya, yc, pp, sa, sc), h⟩
 · rintro e w' ⟨rfl, b, la, lc, h⟩
   exact ⟨rfl, b.1, b.2.1, b.2.2.1, _, h⟩
theorem stepDeliver {p op q num nodes : Nat} {r : RuM} {sd seed : Int} {y : NdV} {ps : List Nat} {log : List Int} {sent ms : List Msg} {x : ScV} (hf : Fr (O := O) (scL p op seed ps log sent ms x N) G w0 w) (ix : In N (listA (ndL q op r num nodes sd chM0 0 y)) fN EN) (hq : ps[num]? = some q) (node i number amount fee : Int) (bv : Value) (hlg : log.length ≤ 100000) (hmi : isMsg ms i = true) (frm : Nat) (bs : List Int) (hm : takeM ms i = ⟨2, frm, num, bs⟩) (hr : RuOK r) (hmo : r.mode = 2) (hno : nodes ≤ 64) (hnu : num ≤ 64) (hl : bs.length = 40) (pa mi wk no : Int) (hbk : Bk0 pa 1 mi wk no none 0) (hd : decB bs = ([pa, 1, mi, wk, no, 0], true)) (hv : blkE ⟨pa, 1, mi, wk, no, []⟩ = 0) (hz : subE r chM0 ⟨pa, 1, mi, wk, no, []⟩ = 0) (hfn : frm < nodes ∧ frm ≠ num) (hsm : sendM num frm 2 bs nodes = []) :
   Calls Tryz.prog 16 #[.pointer (some ⟨p, 0, none⟩), .agg (stepC 5 node i number amount fee bv)] w fun e w' => e = .returned (.int .i64 0) ∧ ∃ (ya : Option Addr) (yc pp : Nat) (x' : ScV), Fr (O := O) (scL p op seed ps (log ++ [0]) sent (withoutL ms i) x' (fN (listA (ndL q op r num nodes sd (subM r chM0 ⟨pa, 1, mi, wk, no, []⟩ ya yc) 1 { y with pp := pp })))) G w0 w' := by
 refine (doDeliver_any (β := Option Addr × Nat × Nat) (S := fun _ => sent) (M := fun _ => withoutL ms i) (X := fun _ => x) (NN := fun b => fN (listA (ndL q op r num nodes sd (subM r chM0 ⟨pa, 1, mi, wk, no, []⟩ b.1 b.2.1) 1 { y with pp := b.2.2 }))) hf hlg node i number amount fee bv (fun w1 _ h1 => ?_)).mono ?_
 · refine (trDeliver_any (Q := fun w' => ∃ b : Option Addr × Nat × Nat, Fr (O := O) (scL p op seed ps log sent (withoutL ms i) x (fN (listA (ndL q op r num nodes sd (subM r chM0 ⟨pa, 1, mi, wk, no, []⟩ b.1 b.2.1) 1 { y with pp := b.2.2 })))) G w0 w') w1 node number amount fee bv fun w2 hb2 => ?_)
   refine (scDeliver_any (h1.keepB hb2) ix hq i hmi frm bs hm hr hmo hno hnu hl pa mi wk no hbk hd hv hz hfn hsm).mono ?_
   rintro e w' ⟨rfl, ya, yc, pp, h⟩
   exact ⟨rfl, (ya, yc, pp), h⟩
 · rintro e w' ⟨rfl, b, la, lc, h⟩
   exact ⟨rfl, b.1, b.2.1, b.2.2, _, h⟩
end
end Go.Proofs.YtphacfkcifpobaaGreatDoor
/- Script: a new world. -/
namespace Go.Proofs.YtphacfkcifpobaaGreatDoor
open Go.ChangeShapes Go.WideShapes Go.ChangeAt Go.RowKit Go.Sort
theorem Tryz.etyNodes : ElemTy Tryz.prog 38 45 1 8 := ElemTy.of Tryz.underlying38 (z := .pointer none) (by kernel_rfl) rfl (by omega)
section
variable {O : Nat → Prop}
def nsA (op : Nat) (r : RuM) (nodes : Nat) (sd : Int) : Nat → List Nat → List (Asn O)
 | _, [] => []
 | i, p :: ps => ndA p op r i nodes (hashS 8 [sd, (i : Int)]) chM0 0 :: nsA op r nodes sd (i + 1) ps
theorem nsA_snoc (op : Nat) (r : RuM) (nodes : Nat) (sd : Int) (q : Nat) : ∀ (ps : List Nat) (i : Nat), nsA (O := O) op r nodes sd i (ps ++ [q]) = nsA op r nodes sd i ps ++ [ndA q op r (i + ps.length) nodes (hashS 8 [sd, ((i + ps.length : Nat) : Int)]) chM0 0]
 | [], _ => rfl
 | p :: ps, i => by
   show _ :: nsA op r nodes sd (i + 1) (ps ++ [q]) = _ :: (nsA op r nodes sd (i + 1) ps ++ _)
   rw [nsA_snoc op r nodes sd q ps (i + 1), List.length_cons, Nat.add_right_comm, Nat.add_assoc]
variable {w : World}
set_option maxHeartbeats 4000000 in
theorem scNew_any (hf : Fr (O := O) [] (fun _ => False) w w) (op : Nat) (ideal : Bool) (st : Int) (ho : OrAt ideal st op w) (hst : ideal = false → st = 0) (r : RuM) (hO : r.mode = 2 → OrIn O op w) (hrw : okU r.rew) (hru : ruleE r = 0) (him : (r.mode == 3) = ideal) (nodes : Nat) (h1 : 1 ≤ nodes) (h8 : nodes ≤ 8) (seed : Int) (hs : okU seed) :
   Calls Tryz.prog 7 #[.pointer (some ⟨op, 0, none⟩), .agg #[.int .i64 r.mode, .int .i64 r.depth, .int .i64 r.bl, .int .i64 r.bu, .int .i64 r.qu, .int .u64 r.rew, .int .i64 r.win, .int .i64 r.fin, .int .u64 r.work], .int .i64 nodes, .int .u64 seed] w fun e w' => ∃ (p np : Nat) (ps : List Nat) (na : Option Addr) (nc : Nat), e = .returned (.tuple #[.pointer (some ⟨p, 0, none⟩), .int .i64 0]) ∧ ps.length = nodes ∧ Fr (O := O) (scL p op (seed % 18446744069414584321) ps [] [] [] ⟨na, nc, np, none, 0, none, 0⟩ [listA (nsA op r nodes (seed % 18446744069414584321) 0 ps)]) (fun _ => False) w w' := by
 have HF := Lib.hid (hf.alloc #[.int .i64 r.mode, .int .i64 r.depth, .int .i64 r.bl, .int .i64 r.bu, .int .i64 r.qu, .int .u64 r.rew, .int .i64 r.win, .int .i64 r.fin, .int .u64 r.work] 26); have HO := Lib.hid ho; have HST := Lib.hid hst; have HOO := Lib.hid hO; have HRW := Lib.hid hrw; have HRU := Lib.hid hru; have HIM := Lib.hid him; have HS := Lib.hid hs
 have HN64 : Hid (nodes ≤ 64) := by show nodes ≤ 64; omega
 have HSD : Hid (okU (seed % 18446744069414584321)) := by
   show okU _
   exact okU_of (by omega) (by omega)
 have HTM : Hid (seed.tmod 18446744069414584321 = seed % 18446744069414584321) := Int.tmod_eq_emod_of_nonneg (okU_in hs).1
 have e2 : (ideal != ideal) = false := by cases ideal <;> rfl
 have d1 : decide ((nodes : Int) < 1) = false := decide_eq_false (by omega)
 have d2 : decide (8 < (nodes : Int)) = false := decide_eq_false (by omega)
 clear hf ho hst hO hrw hru hs
 go_enter Tryz.func7, Tryz.ntmps7
 go_upto_region 1 with (fail)
 obtain ⟨W, hW⟩ : ∃ x, w.alloc (.cells #[.int .i64 r.mode, .int .i64 r.depth, .int .i64 r.bl, .int .i64 r.bu, .int .i64 r.qu, .int .u64 r.rew, .int .i64 r.win, .int .i64 r.fin, .int .u64 r.work] 26) = x := ⟨_, rfl⟩; obtain ⟨B, hB⟩ : ∃ x, w.heap.size = x := ⟨_, rfl⟩; rw [hW, hB] at HF; rw [hW, hB]; have HFW := HF; clear HF hW hB
 go_wp2_with (refine wpList_load_row rfl _ _ rfl B rfl _ _ _ _ (HFW.out.box i0) Tryz.underlying26 rfl (by kernel_rfl) ?_)
 refine (rules_any r.mode r.depth r.bl r.bu r.qu r.rew r.win r.fin r.work W).mono ?_
 rintro e w1 ⟨rfl, hb1⟩; rw [show rulesE r.mode r.depth r.bl r.bu r.qu r.rew r.win r.fin r.work = 0 from HRU.out]; have HF1 := Lib.hid (HFW.out.keepB hb1); clear hb1 HFW
 have hc : ∀ (d : Nat) (os : Array Obj), Calls Tryz.prog 21 #[.pointer (some ⟨op, 0, none⟩)] (grow (redrawn w1 d) os) fun e w' => e = .returned (.bool ideal) ∧ Below (grow (redrawn w1 d) os).heap.size (grow (redrawn w1 d) os) w' := fun d os =>
   (isIdeal_any _ op _ st ((HO.out.keepB HF1.out.below).keepB (below_regrown w1 d os))).mono fun _ _ h => ⟨h.1, by rw [← h.2]; exact Below.refl _ _⟩
 have x0 := box_regrown (HF1.out.box i0)
 -- MARK1
 go_wp2_with fail
 refine wp_region_quiet_below (by kernel_rfl) (by kernel_rfl) ?_
 repeat (first | go_big_quiet_step (exact Calls.regrown_of (hc _ _)) | quiet_step (exact Calls.regrown_of (hc _ _)))
 refine wpQuiet_nil ?_
 intro w2 hw'
 obtain ⟨⟨dq, osq⟩, hw''⟩ := hw'; have hbw2 := below_regrown w1 dq osq; rw [← hw''] at hbw2; clear hw'' x0 hc; have HF2 := Lib.hid ((HF1.out.keepB hbw2).new (A := listA []) (Below.refl _ _) trivial); clear hbw2 HF1
 try rw [him]
 -- MARK2
 go_wp2_with fail
 refine (netNew_fr HF2.out (nodes := (nodes : Int)) (by omega) (by omega)).mono ?_
 rintro e w3 ⟨np, rfl, hf3, -⟩; have hf4 := ((hf3.new (A := ownA msgR 0 145 (.slice none 0 0) []) (Below.refl _ _) (Own.nil _ _ _ _ _)).new (A := ownA (intR .i64) 0 34 (.slice none 0 0) []) (Below.refl _ _) (Own.nil _ _ _ _ _)).new (A := ownA ptrR 0 45 (.slice none 0 0) []) (Below.refl _ _) (Own.nil _ _ _ _ _); have HF5 := Lib.hid ((hf4.alloc (scC op (seed % 18446744069414584321) 0 0 0 ⟨none, 0, np, none, 0, none, 0⟩) 43).front i6); clear hf3 hf4 HF2; go_wp2_with fail
 try rw [HTM.out]
 -- MARK3
 obtain ⟨w5, hw5⟩ : ∃ x, w3.alloc (.cells (scC op (seed % 18446744069414584321) 0 0 0 ⟨none, 0, np, none, 0, none, 0⟩) 43) = x := ⟨_, rfl⟩; obtain ⟨p, hp⟩ : ∃ x, w3.heap.size = x := ⟨_, rfl⟩; rw [hw5, hp] at HF5; rw [hw5, hp]; clear hw5 hp
 -- MARK4
 go_loopw [51] (fun v51 wr => ∃ (k : Nat) (ps : List Nat) (na : Option Addr) (nc : Nat), k ≤ nodes ∧ v51 = .int .i64 k ∧ Hid (ps.length = k) ∧ Hid (Fr (O := O) (boxA B #[.int .i64 r.mode, .int .i64 r.depth, .int .i64 r.bl, .int .i64 r.bu, .int .i64 r.qu, .int .u64 r.rew, .int .i64 r.win, .int .i64 r.fin, .int .u64 r.work] 26 :: boxA p (scC op (seed % 18446744069414584321) ps.length 0 0 ⟨na, nc, np, none, 0, none, 0⟩) 43 :: ownA ptrR 0 45 (.slice na ps.length nc) ps :: ownA (intR .i64) 0 34 (.slice none 0 0) [] :: ownA msgR 0 145 (.slice none 0 0) [] :: netA np (nodes : Int) [] :: [listA (nsA op r nodes (seed % 18446744069414584321) 0 ps)]) (fun _ => False) w wr)) (fun v51 _ => nodes - (intOf v51).toNat)
 case atStart => exact ⟨0, [], none, 0, Nat.zero_le _, rfl, rfl, HF5⟩
 case round =>
   clear HF5; obtain ⟨k, ps, na, nc, hk, rfl, HLE, HFR⟩ := hrel
   by_cases hlt : k < nodes
   · have hlen : ps.length ≤ 8 := by have := HLE.out; omega
     go_upto_region 13 with (fail)
     have HFwg00 := Lib.hid (HFR.out.drew); have hS0 : Hid ((Held [(B, #[.int .i64 r.mode, .int .i64 r.depth, .int .i64 r.bl, .int .i64 r.bu, .int .i64 r.qu, .int .u64 r.rew, .int .i64 r.win, .int .i64 r.fin, .int .u64 r.work], 26), (p, (scC op (seed % 18446744069414584321) ps.length 0 0 ⟨na, nc, np, none, 0, none, 0⟩), 43)] []) wr.drew) := Held.keepB (⟨⟨HFR.out.box i0, HFR.out.box i1, trivial⟩, trivial⟩) (Below.refl _ _).drew
     refine wp_region_held_drew (S := (Held [(B, #[.int .i64 r.mode, .int .i64 r.depth, .int .i64 r.bl, .int .i64 r.bu, .int .i64 r.qu, .int .u64 r.rew, .int .i64 r.win, .int .i64 r.fin, .int .u64 r.work], 26), (p, (scC op (seed % 18446744069414584321) ps.length 0 0 ⟨na, nc, np, none, 0, none, 0⟩), 43)] [])) (by kernel_rfl) hS0.out (fun hHeld => ?_)
     obtain ⟨wg0, hwd⟩ : ∃ x, wr.drew = x := ⟨_, rfl⟩; rw [hwd] at hHeld HFwg00 ⊢; have HFwg0 := HFwg00; clear hwd HFwg00 hS0
     go_simp
     refine tkV 0 rfl (fun wz hSz => by go_simp; all_goals with_reducible rfl) ?_
     go_simp
     refine tkY 1 rfl (yieldsIf_load_mid (by rfl) _ _ rfl (B) 0 rfl [.int .i64 r.mode, .int .i64 r.depth, .int .i64 r.bl, .int .i64 r.bu, .int .i64 r.qu, .int .u64 r.rew, .int .i64 r.win, .int .i64 r.fin, .int .u64 r.work] _ (fun wz hSz => range_box hSz.b.1) Tryz.underlying26 rfl (by kernel_rfl)) ?_
     go_simp
     refine tkV 2 rfl (fun wz hSz => by go_simp; all_goals with_reducible rfl) ?_
     go_simp
     refine tkV 3 rfl (fun wz hSz => by go_simp; all_goals with_reducible rfl) ?_
     go_simp
     refine tkV 4 rfl (fun wz hSz => by go_simp; all_goals with_reducible rfl) ?_
     go_simp
     refine tkV 5 rfl (fun wz hSz => by go_simp; all_goals with_reducible rfl) ?_
     go_simp
     refine tkV 6 rfl (fun wz hSz => by have cx := (box_cells hSz.b.2.1).1; go_simp; all_goals with_reducible rfl) ?_
     go_simp
     refine tkV 7 rfl (fun wz hSz => by go_simp; all_goals with_reducible rfl) ?_
     go_simp
     refine tkV 9 rfl (fun wz hSz => by go_simp; all_goals with_reducible rfl) ?_
     go_simp
     refine rd1 8 rfl (fun K hK => ?_)
     go_simp
     refine (wseed_any wg0 (seed % 18446744069414584321) k HSD.out (by omega)).mono ?_
     rintro E wg1 ⟨rfl, hb⟩; have HFwg1 := Lib.hid (HFwg0.out.keepB hb); clear hHeld hb
     refine hK.out _ _ (⟨⟨HFwg1.out.box i0, HFwg1.out.box i1, trivial⟩, trivial⟩) (fun hHeld => ?_)
     clear hK K
     go_simp
     refine rd1 10 rfl (fun K hK => ?_)
     go_simp
     refine (nodeNew_any HFwg1.out.start op ideal st (HO.out.keepB HFwg1.out.below) HST.out r (fun e => (HOO.out e).keep HFwg1.out.conK fun _ h => h) HRW.out HRU.out HIM.out k nodes hlt HN64.out (hashS 8 [(seed % 18446744069414584321), k]) (hashS_ok _ _)).mono ?_
     rintro E wg2 ⟨q, rfl, hf3⟩; have HFwg2 := Lib.hid (HFwg1.out.join hf3); clear hHeld hf3
     refine hK.out _ _ (⟨⟨HFwg2.out.box i1, HFwg2.out.box i2, trivial⟩, trivial⟩) (fun hHeld => ?_)
     clear hK K
     go_simp
     refine tkV 11 rfl (fun wz hSz => by go_simp; all_goals with_reducible rfl) ?_
     go_simp
     refine tkV 12 rfl (fun wz hSz => by go_simp; all_goals with_reducible rfl) ?_
     go_simp
     refine tkV 13 rfl (fun wz hSz => by go_simp; all_goals with_reducible rfl) ?_
     go_simp
     refine tkV 14 rfl (fun wz hSz => by go_simp; all_goals with_reducible rfl) ?_
     go_simp
     refine tkV 15 rfl (fun wz hSz => by go_simp; all_goals with_reducible rfl) ?_
     go_simp
     clear hHeld
     refine wpAnyH_done (by kernel_rfl) ?_ _
     have HFK := HFwg2; obtain ⟨wK, hwk⟩ : ∃ z, wg2 = z := ⟨_, rfl⟩; rw [hwk] at HFK ⊢; clear hwk HFwg2; have HFA := Lib.hid (HFK.out.snoc (.s (.s (.s (.s (.s (.s .z))))))); clear HFK; obtain ⟨z0, z1⟩ := box_cells (HFA.out.box i1); have HF5 := Lib.hid ((HFA.out.new (A := repA ptrR [.pointer (some ⟨q, 0, none⟩)] q) (Below.refl _ _) rfl).keepB (bnew (Below.refl wK.heap.size wK) (.cells #[.pointer (some ⟨q, 0, none⟩)] 45))); have HCU : Hid (CellsAt (wK.alloc (.cells #[.pointer (some ⟨q, 0, none⟩)] 45)) wK.heap.size 0 [.pointer (some ⟨q, 0, none⟩)]) := CellsAt.new _ [.pointer (some ⟨q, 0, none⟩)] 45
     -- MARK5
     go_wp2_with (at_builtin; refine wpList_appF rfl _ _ rfl Tryz.etyNodes HF5.out i2 HCU.out rfl rfl rfl (by unfold maxLen; omega) (by omega) (Nat.zero_le _) ?_; intro a' c' w' hfa; obtain ⟨c0, c1⟩ := box_cells (hfa.box i1))
     have hfe := hfa.set i1 1 (.slice a' (ps.length + 1) c'); rw [← HLE.out] at hfe
     -- MARK6
     have HFE : Hid (Fr (O := O) (boxA B #[.int .i64 r.mode, .int .i64 r.depth, .int .i64 r.bl, .int .i64 r.bu, .int .i64 r.qu, .int .u64 r.rew, .int .i64 r.win, .int .i64 r.fin, .int .u64 r.work] 26 :: boxA p (scC op (seed % 18446744069414584321) (ps ++ [q]).length 0 0 ⟨a', c', np, none, 0, none, 0⟩) 43 :: ownA ptrR 0 45 (.slice a' (ps ++ [q]).length c') (ps ++ [q]) :: ownA (intR .i64) 0 34 (.slice none 0 0) [] :: ownA msgR 0 145 (.slice none 0 0) [] :: netA np (nodes : Int) [] :: [listA (nsA op r nodes (seed % 18446744069414584321) 0 (ps ++ [q]))]) (fun _ => False) w (w'.setCell ⟨p, 1, none⟩ (.slice a' (ps.length + 1) c'))) := by
       show Fr _ _ _ _
       rw [nsA_snoc, Nat.zero_add]; rw [List.length_append]
       exact hfe
     clear hfe hfa z0 z1 c0 c1
     have HLN : Hid ((ps ++ [q]).length = k + 1) := by show _ = _; rw [List.length_append, HLE.out]; rfl
     go_roundw
     case rel => exact ⟨k + 1, ps ++ [q], a', c', by omega, by go_num, HLN, HFE⟩
     case measure => simp [intOf]; omega
   · obtain rfl : k = nodes := by omega
     go_wp2_with fail; go_ret2; have hfz := HFR.out.drop i0; have hlz := HLE.out
     refine ⟨p, np, ps, na, nc, rfl, hlz, ?_⟩
     unfold scL
     have hlz' : (ps.length : Int) = (k : Int) := by rw [hlz]
     show Fr (_ :: _ :: _ :: _ :: netA np (ps.length : Int) [] :: _) _ _ _
     rw [hlz']
     exact hfz
end
end Go.Proofs.YtphacfkcifpobaaGreatDoor
/- Script: the awake's world by numbers. -/
namespace Go.Proofs.YtphacfkcifpobaaGreatDoor
open Go.ChangeShapes Go.WideShapes Go.ChangeAt Go.RowKit Go.Sort
theorem ev_seed : hashS 8 [1, 0] = 676269814664980025 ∧ hashS 8 [1, 1] = 16017152987497229402 := by decide +kernel
theorem ev_acc : accS 676269814664980025 = 3079367878930651904 := by decide +kernel
theorem ev_mine : mineB 0 1 3079367878930651904 2 100 0 = some 0 := by decide +kernel
def blk54 : BlkM := ⟨0, 1, 3079367878930651904, 2, 0, []⟩
def bytes54 : List Int := [0, 0, 0, 0, 0, 0, 0, 0, 1, 0, 0, 0, 0, 219, 104, 76, 197, 28, 188, 42, 2, 0, 0, 0, 0, 0, 0, 0, 0, 0, 0, 0, 0, 0, 0, 0, 0, 0, 0, 0]
theorem ev_head : headS blk54 = bytes54 := by decide +kernel
theorem ev_blk : blkE blk54 = 0 := by decide +kernel
theorem ev_sub : subE r54 chM0 blk54 = 0 := by decide +kernel
theorem ev_dec : decB bytes54 = ([0, 1, 3079367878930651904, 2, 0, 0], true) := by decide +kernel
theorem ev_send0 : sendM 0 (0 : Nat) 2 bytes54 2 = [⟨2, 0, 1, bytes54⟩] := by simp [sendM]
theorem ev_send1 : sendM 1 (0 : Nat) 2 bytes54 2 = [] := by simp [sendM]
theorem ev_fits : fitsB 2 0 ⟨2, 0, 1, bytes54⟩ = true := by decide +kernel
theorem ev_rule : ruleE r54 = 0 := by decide +kernel
theorem ev_take : isMsg [⟨2, 0, 1, bytes54⟩] 0 = true ∧ takeM [⟨2, 0, 1, bytes54⟩] 0 = ⟨2, 0, 1, bytes54⟩ ∧ withoutL [⟨2, 0, 1, bytes54⟩] 0 = [] := ⟨rfl, rfl, rfl⟩
theorem ev_bk : Bk0 0 1 3079367878930651904 2 0 none 0 := ⟨by decide, by decide, by decide, by decide, by decide, fun _ => rfl, Nat.zero_le _⟩
theorem ev_len : bytes54.length = 40 := rfl
end Go.Proofs.YtphacfkcifpobaaGreatDoor
/- Script: a node's chain and wallet. -/
namespace Go.Proofs.YtphacfkcifpobaaGreatDoor
open Go.ChangeShapes Go.WideShapes Go.ChangeAt Go.RowKit Go.Sort
theorem ndChain_any {p op num nodes : Nat} {r : RuM} {seed : Int} {x : NdV} (w : World) (hb : w.heap[p]? = some (.cells (ndC op r num nodes seed x) 84 (0, 0))) :
   Calls Tryz.prog 17 #[.pointer (some ⟨p, 0, none⟩)] w fun e w' => e = .returned (.pointer (some ⟨x.c, 0, none⟩)) ∧ Below w.heap.size w w' := by
 obtain ⟨x0, x1⟩ := box_cells hb; clear hb
 go_enter Tryz.func17, Tryz.ntmps17
 go_wp2_with fail; go_ret
 exact ⟨rfl, Below.refl _ _⟩
theorem ndWallet_any {p op num nodes : Nat} {r : RuM} {seed : Int} {x : NdV} (w : World) (hb : w.heap[p]? = some (.cells (ndC op r num nodes seed x) 84 (0, 0))) :
   Calls Tryz.prog 12 #[.pointer (some ⟨p, 0, none⟩)] w fun e w' => e = .returned (.pointer (some ⟨x.wp, 0, none⟩)) ∧ Below w.heap.size w w' := by
 obtain ⟨x0, x1⟩ := box_cells hb; clear hb
 go_enter Tryz.func12, Tryz.ntmps12
 go_wp2_with fail; go_ret
 exact ⟨rfl, Below.refl _ _⟩
theorem nodeSeed_any (w : World) (seed : Int) (i : Nat) (hs : okU seed) (hi : i ≤ 1000) : Calls Tryz.prog 11 #[.int .u64 seed, .int .i64 i] w fun e w' => e = .returned (.int .u64 (hashS 8 [seed % 18446744069414584321, i])) ∧ Below w.heap.size w w' := by
 have hw : IntKind.u64.wrap (i : Int) = (i : Int) := (IntKind.wrap_u64 _).trans (by omega)
 have htm : seed.tmod 18446744069414584321 = seed % 18446744069414584321 := Int.tmod_eq_emod_of_nonneg (okU_in hs).1
 have HX := Lib.hid (nums2 w 24 (okU_of (show (0 : Int) ≤ seed % 18446744069414584321 by omega) (by omega)) (okU_of (show (0 : Int) ≤ (i : Int) by omega) (by omega)))
 clear hs
 go_enter Tryz.func11, Tryz.ntmps11
 go_wp2_with fail
 try rw [hw]
 try rw [htm]
 refine (Hash_big 8 (by omega) (fun _ => True) _ _ 2 [seed % 18446744069414584321, (i : Int)] (by simpa using HX.out) (by simp)).mono ?_
 rintro e w1 ⟨rfl, hb⟩; go_wp2_with fail; go_ret
 exact ⟨rfl, bnext (bnew (Below.refl _ _) _) hb⟩
section
variable {O : Nat → Prop} {L E : List (Asn O)} {f : Asn O → List (Asn O)} {F0 : Nat → Prop} {w0 w : World}
theorem tip_fr {c : Nat} {r : RuM} {m : ChM} (h : Fr L F0 w0 w) (ix : In L (chA c r m) f E) (hl : m.best.length ≤ 100000) : Calls Tryz.prog 18 #[.pointer (some ⟨c, 0, none⟩)] w fun e w' => e = .returned (.tuple #[.int .u64 (tipS m), .int .i64 m.best.length]) ∧ Below w.heap.size w w' := by
 obtain ⟨SB, PI, v, h1⟩ := chA_get h ix
 exact tip_any _ _ _ _ _ _ _ _ h1 hl
end
theorem ev_tip (ya : Option Addr) (yc : Nat) : tipS (subM r54 chM0 blk54 ya yc) = blkID blk54 ∧ (subM r54 chM0 blk54 ya yc).best.length = 1 := by
 rw [(first_sub (r := r54) (by decide) rfl ya yc).2.2]
 exact ⟨rfl, rfl⟩
end Go.Proofs.YtphacfkcifpobaaGreatDoor
/- Script: a world that does not exist; the bytes of a new wallet. -/
namespace Go.Proofs.YtphacfkcifpobaaGreatDoor
open Go.ChangeShapes Go.WideShapes Go.ChangeAt Go.RowKit Go.Sort
section
variable {O : Nat → Prop} {w : World}
set_option maxHeartbeats 4000000 in
theorem scNew_rules (hf : Fr (O := O) [] (fun _ => False) w w) (op : Nat) (r : RuM) (hru : ¬ ruleE r = 0) (nodes seed : Int) :
   Calls Tryz.prog 7 #[.pointer (some ⟨op, 0, none⟩), .agg #[.int .i64 r.mode, .int .i64 r.depth, .int .i64 r.bl, .int .i64 r.bu, .int .i64 r.qu, .int .u64 r.rew, .int .i64 r.win, .int .i64 r.fin, .int .u64 r.work], .int .i64 nodes, .int .u64 seed] w fun e w' => e = .returned (.tuple #[.pointer none, .int .i64 (ruleE r)]) ∧ Below w.heap.size w w' := by
 have HF := Lib.hid (hf.alloc #[.int .i64 r.mode, .int .i64 r.depth, .int .i64 r.bl, .int .i64 r.bu, .int .i64 r.qu, .int .u64 r.rew, .int .i64 r.win, .int .i64 r.fin, .int .u64 r.work] 26); have HE : Hid (rulesE r.mode r.depth r.bl r.bu r.qu r.rew r.win r.fin r.work = ruleE r) := rfl
 have HN : Hid ((ruleE r == 0) = false ∧ (ruleE r != 0) = true ∧ (0 == ruleE r) = false ∧ decide (ruleE r = 0) = false) := by
   have e1 : (ruleE r == 0) = false := by simpa using hru
   exact ⟨e1, by simp [bne, e1], by simpa using fun h => hru h.symm, by simpa using hru⟩
 generalize ruleE r = E at *; clear hru hf; obtain ⟨n1, n2, n3, n4⟩ := HN.out
 go_enter Tryz.func7, Tryz.ntmps7
 go_upto_region 1 with (fail)
 obtain ⟨W, hW⟩ : ∃ x, w.alloc (.cells #[.int .i64 r.mode, .int .i64 r.depth, .int .i64 r.bl, .int .i64 r.bu, .int .i64 r.qu, .int .u64 r.rew, .int .i64 r.win, .int .i64 r.fin, .int .u64 r.work] 26) = x := ⟨_, rfl⟩; obtain ⟨B, hB⟩ : ∃ x, w.heap.size = x := ⟨_, rfl⟩; rw [hW, hB] at HF; rw [hW, hB]; have HFW := HF; clear HF hW
 go_wp2_with (refine wpList_load_row rfl _ _ rfl B rfl _ _ _ _ (HFW.out.box i0) Tryz.underlying26 rfl (by kernel_rfl) ?_)
 refine (rules_any r.mode r.depth r.bl r.bu r.qu r.rew r.win r.fin r.work W).mono ?_
 rintro e w1 ⟨rfl, hb1⟩; rw [HE.out]; have HF1 := Lib.hid (HFW.out.keepB hb1); clear hb1 HFW
 -- MARK1
 go_wp2_with fail; go_ret2
 exact ⟨rfl, HF1.out.below⟩
set_option maxHeartbeats 4000000 in
theorem scNew_args (hf : Fr (O := O) [] (fun _ => False) w w) (op : Nat) (ideal : Bool) (st : Int) (ho : OrAt ideal st op w) (r : RuM) (hru : ruleE r = 0) (nodes seed : Int) (hbad : ¬ (r.mode == 3) = ideal ∨ nodes < 1 ∨ 8 < nodes) :
   Calls Tryz.prog 7 #[.pointer (some ⟨op, 0, none⟩), .agg #[.int .i64 r.mode, .int .i64 r.depth, .int .i64 r.bl, .int .i64 r.bu, .int .i64 r.qu, .int .u64 r.rew, .int .i64 r.win, .int .i64 r.fin, .int .u64 r.work], .int .i64 nodes, .int .u64 seed] w fun e w' => e = .returned (.tuple #[.pointer none, .int .i64 1]) ∧ Below w.heap.size w w' := by
 have HF := Lib.hid (hf.alloc #[.int .i64 r.mode, .int .i64 r.depth, .int .i64 r.bl, .int .i64 r.bu, .int .i64 r.qu, .int .u64 r.rew, .int .i64 r.win, .int .i64 r.fin, .int .u64 r.work] 26); have HO := Lib.hid ho; have HRU := Lib.hid hru
 have HB : Hid ((ideal != (r.mode == 3) || decide (nodes < 1) || decide (8 < nodes)) = true) := by
   show _ = _
   simp only [Bool.or_eq_true, decide_eq_true_eq, bne_iff_ne]
   rcases hbad with h | h | h
   · exact .inl (.inl fun k => h k.symm)
   · exact .inl (.inr h)
   · exact .inr h
 clear hf ho hru hbad
 go_enter Tryz.func7, Tryz.ntmps7
 go_upto_region 1 with (fail)
 obtain ⟨W, hW⟩ : ∃ x, w.alloc (.cells #[.int .i64 r.mode, .int .i64 r.depth, .int .i64 r.bl, .int .i64 r.bu, .int .i64 r.qu, .int .u64 r.rew, .int .i64 r.win, .int .i64 r.fin, .int .u64 r.work] 26) = x := ⟨_, rfl⟩; obtain ⟨B, hB⟩ : ∃ x, w.heap.size = x := ⟨_, rfl⟩; rw [hW, hB] at HF; rw [hW, hB]; have HFW := HF; clear HF hW
 go_wp2_with (refine wpList_load_row rfl _ _ rfl B rfl _ _ _ _ (HFW.out.box i0) Tryz.underlying26 rfl (by kernel_rfl) ?_)
 refine (rules_any r.mode r.depth r.bl r.bu r.qu r.rew r.win r.fin r.work W).mono ?_
 rintro e w1 ⟨rfl, hb1⟩; rw [show rulesE r.mode r.depth r.bl r.bu r.qu r.rew r.win r.fin r.work = 0 from HRU.out]; have HF1 := Lib.hid (HFW.out.keepB hb1); clear hb1 HFW
 have hc : ∀ (d : Nat) (os : Array Obj), Calls Tryz.prog 21 #[.pointer (some ⟨op, 0, none⟩)] (grow (redrawn w1 d) os) fun e w' => e = .returned (.bool ideal) ∧ Below (grow (redrawn w1 d) os).heap.size (grow (redrawn w1 d) os) w' := fun d os =>
   (isIdeal_any _ op _ st ((HO.out.keepB HF1.out.below).keepB (below_regrown w1 d os))).mono fun _ _ h => ⟨h.1, by rw [← h.2]; exact Below.refl _ _⟩
 have x0 := box_regrown (HF1.out.box i0); generalize hd1 : decide (nodes < 1) = b1 at *; generalize hd2 : decide (8 < nodes) = b2 at *; generalize hd3 : (r.mode == 3) = b3 at *; have e2 := HB.out
 cases ideal <;> cases b1 <;> cases b2 <;> cases b3 <;> first
   | (exact absurd e2 (by decide))
   | (go_wp2_with fail
      refine wp_region_quiet_below (by kernel_rfl) (by kernel_rfl) ?_
      repeat (first | go_big_quiet_step (exact Calls.regrown_of (hc _ _)) | quiet_step (exact Calls.regrown_of (hc _ _)))
      refine wpQuiet_nil ?_
      intro w2 hw'
      obtain ⟨⟨dq, osq⟩, hw''⟩ := hw'; have hbw2 := below_regrown w1 dq osq; rw [← hw''] at hbw2; clear hw''; go_wp2_with fail; go_ret2
      exact ⟨rfl, (HF1.out.keepB hbw2).below⟩)
end
section
variable {O : Nat → Prop} {p op n : Nat} {r : RuM} {seed : Int} {F : Nat → Prop}
theorem walLeaves_any (w : World) (h : (walA (O := O) p op r seed n).rel F w) (hd : 1 ≤ r.depth ∧ r.depth ≤ 12) :
   Calls Tryz.prog 31 #[.pointer (some ⟨p, 0, none⟩)] w fun e w' => ∃ (a : Option Addr) (c : Nat), e = .returned (.slice a 0 c) ∧ numsR.rel (fun _ => True) w' [.slice a 0 c] [] ∧ Below w.heap.size w w' := by
 obtain ⟨lp, c, a, hb, G, ht⟩ := wal_parts h; obtain ⟨x0, x1⟩ := box_cells hb
 have HT : Hid (∀ (w' : World), Below w.heap.size w w' → (tlA (O := O) lp r.depth.toNat).rel (fun k => G k ∨ k < w.heap.size) w') := fun w' hb' => (tlA lp r.depth.toNat).keep ((tlA lp r.depth.toNat).mono ht fun k _ h => .inl h) (Kept.of_below hb')
 have HX : Hid (∀ (w' : World), Below w.heap.size w w' → w'.heap[p]? = some (.cells (walC op r seed lp (.slice a n c)) 92 (0, 0))) := fun w' hb' => box_after hb' hb
 have h1 : 1 ≤ r.depth.toNat := by omega
 have h2 : r.depth.toNat ≤ 12 := by omega
 clear h hb ht
 go_enter Tryz.func31, Tryz.ntmps31
 go_wp2_with fail
 refine (tlCount_any w (HT.out w (Below.refl _ _)) h1 h2).mono ?_
 rintro e w1 ⟨rfl, hb1⟩; have HB1 := Lib.hid hb1; clear hb1 x0 x1
 go_wp2_with (at_make; refine wpList_make_rel rfl _ _ rfl u64R 0 Tryz.etyNums (n := 0) rfl rfl rfl (by omega) (by unfold maxLen; omega) (Nat.zero_le _) ?_; intro w2 ho hb2; obtain ⟨x0, x1⟩ := box_cells (HX.out w2 (bnext HB1.out hb2)))
 have HO := Lib.hid ho; have HB2 : Hid (Below w.heap.size w w2) := bnext HB1.out hb2; clear ho hb2 HB1
 -- MARK2
 go_wp2_with fail
 refine (tlCount_any w2 (HT.out w2 HB2.out) h1 h2).mono ?_
 rintro e w3 ⟨rfl, hb3⟩; have HB3 : Hid (Below w.heap.size w w3) := bnext HB2.out hb3; have HO3 := Lib.hid (HO.out.keepB hb3); clear hb3 HB2 HO x0 x1; go_wp2_with fail
 refine wp_loop_rounds 1 ?_
 rw [rounds_succ]; go_wp2_with fail; go_ret
 exact ⟨_, _, rfl, numsR.mono (Own.slice HO3.out) fun _ _ _ => trivial, HB3.out⟩
def wal0B : List Int := ([] ++ digs 4 0 ++ digs 4 0 ++ digsAll []) ++ digs 4 0
theorem walEncode_any (w : World) (h : (walA (O := O) p op r seed 0).rel F w) (hd : 1 ≤ r.depth ∧ r.depth ≤ 12) :
   Calls Tryz.prog 13 #[.pointer (some ⟨p, 0, none⟩)] w (GivesB wal0B w) := by
 have HW : Hid (∀ (w' : World), Below w.heap.size w w' → ∃ F, (walA (O := O) p op r seed 0).rel F w') := fun w' hb' => ⟨fun k => F k ∨ k < w.heap.size, (walA p op r seed 0).keep ((walA p op r seed 0).mono h fun k _ h => .inl h) (Kept.of_below hb')⟩
 obtain ⟨lp, c, a, hb, G, ht⟩ := wal_parts h
 have HX : Hid (∀ (w' : World), Below w.heap.size w w' → w'.heap[p]? = some (.cells (walC op r seed lp (.slice a 0 c)) 92 (0, 0))) := fun w' hb' => box_after hb' hb
 obtain ⟨x0, x1⟩ := box_cells hb; clear h hb ht
 go_enter Tryz.func13, Tryz.ntmps13
 go_wp2_with fail
 -- MARK3
 refine (Int_any (fun _ => True) w none 0 [] sliceR.nil 0 (by omega) (by simp)).mono ?_
 rintro e w1 ⟨a1, c1, rfl, hv1, hb1⟩; have HV1 := Lib.hid hv1; have HB1 := Lib.hid hb1; clear hv1 hb1 x0 x1; go_wp2_with fail; obtain ⟨F1, hw1⟩ := HW.out w1 HB1.out
 refine (walLeaves_any w1 hw1 hd).mono ?_
 rintro e w2 ⟨a2, c2, rfl, hl2, hb2⟩; have HL2 := Lib.hid hl2; have HV2 := Lib.hid (bytesR.keepB HV1.out hb2); have HB2 : Hid (Below w.heap.size w w2) := bnext HB1.out hb2; clear hl2 hb2 HV1 HB1 hw1; go_wp2_with fail
 -- MARK4
 refine (List_any (fun _ => True) (fun _ => True) w2 a1 c1 _ HV2.out a2 c2 [] HL2.out (by rw [List.nil_append, digs_len]; omega) (by simp)).mono ?_
 rintro e w3 ⟨a3, c3, rfl, hv3, hb3⟩; have HV3 := Lib.hid hv3; have HB3 : Hid (Below w.heap.size w w3) := bnext HB2.out hb3; clear hv3 hb3 HL2 HV2 HB2; obtain ⟨x0, x1⟩ := box_cells (HX.out w3 HB3.out); go_wp2_with fail
 -- MARK5
 refine (Int_any (fun _ => True) w3 a3 c3 _ HV3.out 0 (by omega) (by simp [digs_len, digsAll])).mono ?_
 rintro e w4 ⟨a4, c4, rfl, hv4, hb4⟩; have HV4 := Lib.hid hv4; have HB4 : Hid (Below w.heap.size w w4) := bnext HB3.out hb4; clear hv4 hb4 HV3 HB3 x0 x1; obtain ⟨x0, x1⟩ := box_cells (HX.out w4 HB4.out); go_wp2_with fail
 refine wp_loop_rounds 1 ?_
 rw [rounds_succ]; go_wp2_with fail; go_ret
 exact ⟨_, _, rfl, HV4.out, HB4.out⟩
end
end Go.Proofs.YtphacfkcifpobaaGreatDoor
