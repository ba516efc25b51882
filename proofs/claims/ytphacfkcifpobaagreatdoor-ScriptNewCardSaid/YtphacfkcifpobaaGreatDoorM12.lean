/- Blocks of the program: representation; Valid. -/
import Derived.Test.YtphacfkcifpobaaGreatDoorM11
import Derived.Test.YtphacfkcifpobaaGreatDoorM08
import Derived.Test.YtphacfkcifpobaaGreatDoorM03
import Derived.BigQuiet
import Derived.Test.YtphacfkcifpobaaGreatDoorM06
import Derived.Maps.OwnSet
import Derived.Maps.OwnOps
import Derived.Maps.RangeWalk
set_option maxRecDepth 100000
namespace Go.Proofs.YtphacfkcifpobaaGreatDoor
open Go.ChangeShapes Go.WideShapes Go.ChangeAt Go.RowKit Go.Sort
structure BlkM where
 parent : Int
 height : Int
 miner : Int
 work : Int
 nonce : Int
 txs : List TxM
abbrev txsR : Rep (List TxM) := sliceR txR
theorem txs_at {S : Nat → Prop} {w : World} {a : Option Addr} {len cap : Nat} {l : List TxM} (h : txsR.rel S w [.slice a len cap] l) (k : Nat) (hk : k < l.length) :
   ∃ b off ma oa pa mc oc pc, a = some ⟨b, off, none⟩ ∧ b < w.heap.size ∧ TxIn S w l[k] ma oa pa mc oc pc ∧ w.cell? ⟨b, off + k * 10, none⟩ = some (.int .u64 l[k].anchor) ∧ w.cell? ⟨b, off + k * 10 + 1, none⟩ = some (.slice ma l[k].marks.length mc) ∧ w.cell? ⟨b, off + k * 10 + 2, none⟩ = some (.slice oa l[k].outs.length oc) ∧ w.cell? ⟨b, off + k * 10 + 3, none⟩ = some (.int .u64 l[k].dep) ∧ w.cell? ⟨b, off + k * 10 + 4, none⟩ = some (.int .u64 l[k].wd) ∧ w.cell? ⟨b, off + k * 10 + 5, none⟩ = some (.int .u64 l[k].fee) ∧ w.cell? ⟨b, off + k * 10 + 6, none⟩ = some (.int .u64 l[k].acc) ∧ w.cell? ⟨b, off + k * 10 + 7, none⟩ = some (.int .u64 l[k].nonce) ∧ w.cell? ⟨b, off + k * 10 + 8, none⟩ = some (.int .i64 l[k].exp) ∧ w.cell? ⟨b, off + k * 10 + 9, none⟩ = some (.slice pa l[k].proof.length pc) := by
 obtain ⟨b, off, es, rfl, hb, hbl, hrel, hca⟩ := sliceR.at h k hk; obtain ⟨ma, oa, pa, mc, oc, pc, rfl, ht⟩ := txR.inv hrel; rw [txR.n] at hca
 exact ⟨b, off, ma, oa, pa, mc, oc, pc, rfl, hbl, ht, hca 0 _ rfl, hca 1 _ rfl, hca 2 _ rfl, hca 3 _ rfl, hca 4 _ rfl, hca 5 _ rfl, hca 6 _ rfl, hca 7 _ rfl, hca 8 _ rfl, hca 9 _ rfl⟩
structure BlkIn (S : Nat → Prop) (w : World) (b : BlkM) (xa : Option Addr) (xc : Nat) : Prop where
 parent : okU b.parent
 height : okI b.height
 miner : okU b.miner
 work : okU b.work
 nonce : okU b.nonce
 txs : txsR.rel S w [.slice xa b.txs.length xc] b.txs
theorem BlkIn.keep {S : Nat → Prop} {w w' : World} {b : BlkM} {xa : Option Addr} {xc : Nat} (h : BlkIn S w b xa xc) (hk : Kept S w w') : BlkIn S w' b xa xc := ⟨h.parent, h.height, h.miner, h.work, h.nonce, txsR.keep h.txs hk⟩
theorem BlkIn.keepB {S : Nat → Prop} {w w' : World} {b : BlkM} {xa : Option Addr} {xc : Nat} (h : BlkIn S w b xa xc) (hb : Below w.heap.size w w') : BlkIn S w' b xa xc := h.keep (Kept.of_below hb)
theorem BlkIn.mono {S S' : Nat → Prop} {w : World} {b : BlkM} {xa : Option Addr} {xc : Nat} (h : BlkIn S w b xa xc) (hS : ∀ k, k < w.heap.size → S k → S' k) : BlkIn S' w b xa xc := ⟨h.parent, h.height, h.miner, h.work, h.nonce, txsR.mono h.txs hS⟩
def blkHead (b : BlkM) : Bool := decide (1 ≤ b.height ∧ b.height ≤ 1048576 ∧ 1 ≤ b.work ∧ b.work ≤ 65536 ∧ b.parent < 18446744069414584321 ∧ b.miner < 18446744069414584321 ∧ b.txs.length ≤ 64)
def weightS : List TxM → Nat
 | [] => 0
 | t :: l => (encT t).length + weightS l
theorem weightS_app : ∀ (l m : List TxM), weightS (l ++ m) = weightS l + weightS m
 | [], m => by simp [weightS]
 | t :: l, m => by simp [weightS, weightS_app l m]; omega
theorem weightS_snoc (l : List TxM) (k : Nat) (h : k < l.length) : weightS (l.take (k + 1)) = weightS (l.take k) + (encT l[k]).length := by
 rw [List.take_succ_eq_append_getElem h, weightS_app]; simp [weightS]
def blkE (b : BlkM) : Int := if blkHead b = true then (if b.txs.all (fun t => validE t == 0) = true then (if weightS b.txs ≤ 2097152 then 0 else 3) else 1) else 1
set_option maxHeartbeats 4000000 in
theorem blkValid_any (S : Nat → Prop) (w : World) (b : BlkM) (xa : Option Addr) (xc : Nat) (h : BlkIn S w b xa xc) :
   Calls Tryz.prog 133 #[.agg #[.int .u64 b.parent, .int .i64 b.height, .int .u64 b.miner, .int .u64 b.work, .int .u64 b.nonce, .slice xa b.txs.length xc]] w fun e w' => e = .returned (.int .i64 (blkE b)) ∧ Below w.heap.size w w' := by
 have hbA := bnew (Below.refl w.heap.size w) (.cells #[.int .u64 b.parent, .int .i64 b.height, .int .u64 b.miner, .int .u64 b.work, .int .u64 b.nonce, .slice xa b.txs.length xc] 177); have HX := Lib.hid (box_new w (.cells #[.int .u64 b.parent, .int .i64 b.height, .int .u64 b.miner, .int .u64 b.work, .int .u64 b.nonce, .slice xa b.txs.length xc] 177)); have H := Lib.hid (h.keepB hbA); have HB := Lib.hid hbA; clear hbA h
 go_enter Tryz.func133, Tryz.ntmps133
 go_upto_region 1 with (fail)
 generalize w.alloc (.cells #[.int .u64 b.parent, .int .i64 b.height, .int .u64 b.miner, .int .u64 b.work, .int .u64 b.nonce, .slice xa b.txs.length xc] 177) = W at *; obtain ⟨x0, x1⟩ := box_cells HX.out
 by_cases hc0 : b.height < 1
 · have HF : Hid (blkE b = 1) := by show _ = _; unfold blkE; rw [if_neg (by unfold blkHead; rw [decide_eq_true_eq]; omega)]
   go_wp2_with fail; go_ret
   exact ⟨ret_int HF.out.symm, HB.out⟩
 · skip
   by_cases hc1 : 1048576 < b.height
   · have HF : Hid (blkE b = 1) := by show _ = _; unfold blkE; rw [if_neg (by unfold blkHead; rw [decide_eq_true_eq]; omega)]
     go_wp2_with fail; go_ret
     exact ⟨ret_int HF.out.symm, HB.out⟩
   · skip
     by_cases hc2 : b.work < 1
     · have HF : Hid (blkE b = 1) := by show _ = _; unfold blkE; rw [if_neg (by unfold blkHead; rw [decide_eq_true_eq]; omega)]
       go_wp2_with fail; go_ret
       exact ⟨ret_int HF.out.symm, HB.out⟩
     · skip
       by_cases hc3 : 65536 < b.work
       · have HF : Hid (blkE b = 1) := by show _ = _; unfold blkE; rw [if_neg (by unfold blkHead; rw [decide_eq_true_eq]; omega)]
         go_wp2_with fail; go_ret
         exact ⟨ret_int HF.out.symm, HB.out⟩
       · skip
         by_cases hc4 : 18446744069414584321 ≤ b.parent
         · have HF : Hid (blkE b = 1) := by show _ = _; unfold blkE; rw [if_neg (by unfold blkHead; rw [decide_eq_true_eq]; omega)]
           go_wp2_with fail; go_ret
           exact ⟨ret_int HF.out.symm, HB.out⟩
         · skip
           by_cases hc5 : 18446744069414584321 ≤ b.miner
           · have HF : Hid (blkE b = 1) := by show _ = _; unfold blkE; rw [if_neg (by unfold blkHead; rw [decide_eq_true_eq]; omega)]
             go_wp2_with fail; go_ret
             exact ⟨ret_int HF.out.symm, HB.out⟩
           · skip
             by_cases hc6 : 64 < (b.txs.length : Int)
             · have HF : Hid (blkE b = 1) := by show _ = _; unfold blkE; rw [if_neg (by unfold blkHead; rw [decide_eq_true_eq]; omega)]
               go_wp2_with fail; go_ret
               exact ⟨ret_int HF.out.symm, HB.out⟩
             · skip
               have HH : Hid (blkHead b = true) := by show _ = _; unfold blkHead; rw [decide_eq_true_eq]; omega
               have hx64 : b.txs.length ≤ 64 := by omega
               go_wp2_with fail; clear x0 x1
               go_loopw [3, 38] (fun vn vi wr => ∃ k : Nat, k ≤ b.txs.length ∧ vi = .int .i64 k ∧ vn = .int .i64 (weightS (b.txs.take k)) ∧ Hid (weightS (b.txs.take k) ≤ 1100000 * k) ∧ Hid ((b.txs.take k).all (fun t => validE t == 0) = true) ∧ Below W.heap.size W wr) (fun _ vi _ => b.txs.length - (intOf vi).toNat)
               case atStart => exact ⟨0, Nat.zero_le _, rfl, rfl, by show _ ≤ _; simp [weightS], by show _ = _; simp, Below.refl _ _⟩
               case round =>
                 obtain ⟨k, hk, rfl, rfl, hwl, hall, hbr⟩ := hrel
                 by_cases hlt : k < b.txs.length
                 · obtain ⟨bb, off, ma, oa, pa, mc, oc, pc, rfl, hbl, ht, c0, c1, c2, c3, c4, c5, c6, c7, c8, c9⟩ := txs_at (txsR.keepB H.out.txs hbr) k hlt
                   have HT := Lib.hid (weightS_snoc b.txs k hlt)
                   have HAL := Lib.hid (all_take_succ (fun t => validE t == 0) b.txs k hlt)
                   have HBD : Hid (validE b.txs[k] ≠ 0 → b.txs.all (fun t => validE t == 0) = false) := fun hv => all_false _ b.txs k hlt (by simpa using hv)
                   generalize b.txs[k] = t at *; have hbn := bnew (Below.refl wr.heap.size wr) (.cells #[.int .u64 t.anchor, .slice ma t.marks.length mc, .slice oa t.outs.length oc, .int .u64 t.dep, .int .u64 t.wd, .int .u64 t.fee, .int .u64 t.acc, .int .u64 t.nonce, .int .i64 t.exp, .slice pa t.proof.length pc] 181); have HT2 := Lib.hid (ht.keepB hbn); have HIN := Lib.hid (box_new wr (.cells #[.int .u64 t.anchor, .slice ma t.marks.length mc, .slice oa t.outs.length oc, .int .u64 t.dep, .int .u64 t.wd, .int .u64 t.fee, .int .u64 t.acc, .int .u64 t.nonce, .int .i64 t.exp, .slice pa t.proof.length pc] 181)); have hbrn := bnext hbr hbn; clear ht hbn; have hwl2 := hwl.out; generalize hWS : weightS (b.txs.take k) = ws at *; clear hWS
                   go_upto_region 10 with (fail)
                   clear c0 c1 c2 c3 c4 c5 c6 c7 c8 c9; generalize wr.alloc (.cells #[.int .u64 t.anchor, .slice ma t.marks.length mc, .slice oa t.outs.length oc, .int .u64 t.dep, .int .u64 t.wd, .int .u64 t.fee, .int .u64 t.acc, .int .u64 t.nonce, .int .i64 t.exp, .slice pa t.proof.length pc] 181) = wn at *; obtain ⟨x0, x1⟩ := box_cells HIN.out; go_wp2_with fail
                   refine (txValid_any _ wn t ma oa pa mc oc pc HT2.out).mono ?_
                   rintro e w3 ⟨rfl, hb3⟩; clear x0 x1
                   by_cases hv : validE t = 0
                   · have HV := Lib.hid hv
                     rw [hv]; clear hv; obtain ⟨x0, x1⟩ := box_cells (box_after hb3 HIN.out); go_wp2_with fail
                     refine (weight_any _ w3 t ma oa pa mc oc pc (HT2.out.keepB hb3)).mono ?_
                     rintro e w4 ⟨rfl, hle, hb4⟩; clear x0 x1; have HLE := Lib.hid hle
                     have hnn : (ws : Int) + (encT t).length = ((ws + (encT t).length : Nat) : Int) := by omega
                     have HNN := Lib.hid hnn; clear hnn; obtain ⟨m, hm⟩ : ∃ m, (encT t).length = m := ⟨_, rfl⟩; have HM := Lib.hid hm; rw [hm] at hle ⊢; clear hm; go_wp2_with fail
                     go_roundw
                     case rel => exact ⟨k + 1, by omega, by go_num, by rw [HT.out, HM.out]; go_num, by show _ ≤ _; rw [HT.out, HM.out]; omega, by show _ = _; rw [HAL.out, hall.out, HV.out]; rfl, bnext hbrn (bnext hb3 hb4)⟩
                     case measure => simp [intOf]; omega
                   · have HF : Hid (blkE b = 1) := by show _ = _; unfold blkE; rw [if_pos HH.out, if_neg (by rw [HBD.out hv]; simp)]
                     have z1 : (validE t == 0) = false := by rw [beq_eq_false_iff_ne]; exact hv
                     have z2 : (validE t != 0) = true := by rw [bne_iff_ne]; exact hv
                     clear hv; generalize validE t = r at *; go_wp2_with fail; go_ret
                     exact ⟨ret_int HF.out.symm, bnext HB.out (bnext hbrn hb3)⟩
                 · obtain rfl : k = b.txs.length := by omega
                   rw [List.take_length] at hwl hall ⊢
                   by_cases hws : 2097152 < (weightS b.txs : Int)
                   · have HF : Hid (blkE b = 3) := by show _ = _; unfold blkE; rw [if_pos HH.out, if_pos hall.out, if_neg (by omega)]
                     go_wp2_with fail; go_ret
                     exact ⟨ret_int HF.out.symm, bnext HB.out hbr⟩
                   · have HF : Hid (blkE b = 0) := by show _ = _; unfold blkE; rw [if_pos HH.out, if_pos hall.out, if_pos (by omega)]
                     go_wp2_with fail; go_ret
                     exact ⟨ret_int HF.out.symm, bnext HB.out hbr⟩
end Go.Proofs.YtphacfkcifpobaaGreatDoor
/- Blocks of the program: header, identifiers, identifier, ID, Check. -/
namespace Go.Proofs.YtphacfkcifpobaaGreatDoor
open Go.ChangeShapes Go.WideShapes Go.ChangeAt Go.RowKit Go.Sort
def headS (b : BlkM) : List Int := digs 8 b.parent ++ digs 4 b.height ++ digs 8 b.miner ++ digs 8 b.work ++ digs 8 b.nonce ++ digs 4 b.txs.length
def idsT (l : List TxM) : List Int := l.map idT
def headB (b : BlkM) (ids : List Int) : List Int := headS b ++ digsAll ids
def idB (b : BlkM) : Int := hashS 15 (packS (headB b (idsT b.txs)))
def blkID (b : BlkM) : Int := if blkE b = 0 then idB b else 0
def blkCheck (wk : Int) (b : BlkM) : Int := if blkE b = 0 then (if b.work = wk ∧ idB b % b.work = 0 then 0 else 17) else blkE b
theorem blkE_head {b : BlkM} (h : blkE b = 0) : 1 ≤ b.height ∧ b.height ≤ 1048576 ∧ 1 ≤ b.work ∧ b.work ≤ 65536 ∧ b.parent < 18446744069414584321 ∧ b.miner < 18446744069414584321 ∧ b.txs.length ≤ 64 := by
 unfold blkE at h
 split at h
 · rename_i hh; unfold blkHead at hh; rw [decide_eq_true_eq] at hh; exact hh
 · omega
theorem idB_in (b : BlkM) : 0 ≤ idB b ∧ idB b < 18446744069414584321 := hashS_in _ _
theorem IntZ (N : Nat) (w : World) (a : Option Addr) (cap : Nat) (xs : List Int) (h : bytesR.rel (fun _ => True) w [.slice a xs.length cap] xs) (hx : xs.length ≤ N) (hN : N ≤ 100000) (n : Int) (h0 : 0 ≤ n) (hn : n ≤ 4294967295) :
   Calls Tryz.prog 29 #[.slice a xs.length cap, .int .i64 n] w (SomeX (xs ++ digs 4 n) (N + 4) w) := by
 obtain ⟨m, rfl⟩ := Int.eq_ofNat_of_zero_le h0
 exact IntX N w a cap xs h hx hN m (by omega)
set_option maxHeartbeats 4000000 in
theorem header_any (S : Nat → Prop) (w : World) (b : BlkM) (xa : Option Addr) (xc : Nat) (h : BlkIn S w b xa xc) (hh : 1 ≤ b.height) (hh2 : b.height ≤ 1048576) (hl : b.txs.length ≤ 64) :
   Calls Tryz.prog 141 #[.agg #[.int .u64 b.parent, .int .i64 b.height, .int .u64 b.miner, .int .u64 b.work, .int .u64 b.nonce, .slice xa b.txs.length xc]] w (SomeX (headS b) 40 w) := by
 have hbA := bnew (Below.refl w.heap.size w) (.cells #[.int .u64 b.parent, .int .i64 b.height, .int .u64 b.miner, .int .u64 b.work, .int .u64 b.nonce, .slice xa b.txs.length xc] 177); have HX := Lib.hid (box_new w (.cells #[.int .u64 b.parent, .int .i64 b.height, .int .u64 b.miner, .int .u64 b.work, .int .u64 b.nonce, .slice xa b.txs.length xc] 177)); have H := Lib.hid (h.keepB hbA); have HB := Lib.hid hbA; clear hbA h
 go_enter Tryz.func141, Tryz.ntmps141
 go_upto_region 1 with (fail)
 generalize w.alloc (.cells #[.int .u64 b.parent, .int .i64 b.height, .int .u64 b.miner, .int .u64 b.work, .int .u64 b.nonce, .slice xa b.txs.length xc] 177) = W at *; obtain ⟨x0, x1⟩ := box_cells HX.out; go_wp2_with fail
 refine (UintX 0 W none 0 [] sliceR.nil (Nat.le_refl _) (by omega) b.parent H.out.parent).mono ?_
 rintro e w1 ⟨y1, a1, c1, Ey1, l1, rfl, h1, hb1⟩; clear x0 x1; obtain ⟨x0, x1⟩ := box_cells (box_after hb1 HX.out); go_wp2_with fail
 refine (IntZ 8 w1 a1 c1 y1 h1 (by omega) (by omega) b.height (by omega) (by omega)).mono ?_
 rintro e w2 ⟨y2, a2, c2, Ey2, l2, rfl, h2, hb2⟩; have hk2 := bnext hb1 hb2; clear x0 x1; obtain ⟨x0, x1⟩ := box_cells (box_after hk2 HX.out); go_wp2_with fail
 refine (UintX 12 w2 a2 c2 y2 h2 (by omega) (by omega) b.miner H.out.miner).mono ?_
 rintro e w3 ⟨y3, a3, c3, Ey3, l3, rfl, h3, hb3⟩; have hk3 := bnext hk2 hb3; clear x0 x1; obtain ⟨x0, x1⟩ := box_cells (box_after hk3 HX.out); go_wp2_with fail
 refine (UintX 20 w3 a3 c3 y3 h3 (by omega) (by omega) b.work H.out.work).mono ?_
 rintro e w4 ⟨y4, a4, c4, Ey4, l4, rfl, h4, hb4⟩; have hk4 := bnext hk3 hb4; clear x0 x1; obtain ⟨x0, x1⟩ := box_cells (box_after hk4 HX.out); go_wp2_with fail
 refine (UintX 28 w4 a4 c4 y4 h4 (by omega) (by omega) b.nonce H.out.nonce).mono ?_
 rintro e w5 ⟨y5, a5, c5, Ey5, l5, rfl, h5, hb5⟩; have hk5 := bnext hk4 hb5; clear x0 x1; obtain ⟨x0, x1⟩ := box_cells (box_after hk5 HX.out); go_wp2_with fail
 refine (IntX 36 w5 a5 c5 y5 h5 (by omega) (by omega) b.txs.length (by omega)).mono ?_
 rintro e w6 ⟨y6, a6, c6, Ey6, l6, rfl, h6, hb6⟩; have hk6 := bnext hk5 hb6
 have HE : Hid (y6 = headS b) := by
   show _ = _
   rw [Ey6.out, Ey5.out, Ey4.out, Ey3.out, Ey2.out, Ey1.out]; rfl
 have HR := Lib.hid h6; clear x0 x1 h1 h2 h3 h4 h5 h6; go_wp2_with fail; go_ret
 exact ⟨y6, a6, c6, HE, by omega, rfl, HR.out, bnext HB.out hk6⟩
abbrev BkK (A : Array Value) (g : Nat) (w1 w' : World) : Prop := Below w1.heap.size w1 w' ∧ (∀ o, w'.cell? ⟨g, o, none⟩ = A[o]?)
theorem BkK.of {A : Array Value} {g : Nat} {t : TypeId} {w1 w' : World} (h : w1.heap[g]? = some (.cells A t (0, 0))) (hb : Below w1.heap.size w1 w') : BkK A g w1 w' := ⟨hb, (box_cells (box_after hb h)).1⟩
theorem BkK.drew {A : Array Value} {g : Nat} {w1 w' : World} (h : BkK A g w1 w') : BkK A g w1 w'.drew := ⟨h.1.drew, h.2⟩
abbrev BkK2 (A X : Array Value) (g k : Nat) (w1 w' : World) : Prop := Below w1.heap.size w1 w' ∧ (∀ o, w'.cell? ⟨g, o, none⟩ = A[o]?) ∧ (∀ o, w'.cell? ⟨k, o, none⟩ = X[o]?)
theorem BkK2.of {A X : Array Value} {g k : Nat} {t u : TypeId} {w1 w' : World} (h : w1.heap[g]? = some (.cells A t (0, 0))) (h2 : w1.heap[k]? = some (.cells X u (0, 0))) (hb : Below w1.heap.size w1 w') : BkK2 A X g k w1 w' := ⟨hb, (box_cells (box_after hb h)).1, (box_cells (box_after hb h2)).1⟩
theorem BkK2.drew {A X : Array Value} {g k : Nat} {w1 w' : World} (h : BkK2 A X g k w1 w') : BkK2 A X g k w1 w'.drew := ⟨h.1.drew, h.2.1, h.2.2⟩
def NumsOut (l : List Int) (w : World) (e : Ending) (w' : World) : Prop := ∃ (ys : List Int) (a : Option Addr) (cap : Nat), Hid (ys = l) ∧ e = .returned (.slice a ys.length cap) ∧ numsR.rel (fun _ => True) w' [.slice a ys.length cap] ys ∧ Below w.heap.size w w'
set_option maxHeartbeats 4000000 in
theorem identifiers_any (S : Nat → Prop) (w : World) (b : BlkM) (xa : Option Addr) (xc : Nat) (h : BlkIn S w b xa xc) (hl : b.txs.length ≤ 64) :
   Calls Tryz.prog 136 #[.agg #[.int .u64 b.parent, .int .i64 b.height, .int .u64 b.miner, .int .u64 b.work, .int .u64 b.nonce, .slice xa b.txs.length xc]] w (NumsOut (idsT b.txs) w) := by
 have hbA := bnew (Below.refl w.heap.size w) (.cells #[.int .u64 b.parent, .int .i64 b.height, .int .u64 b.miner, .int .u64 b.work, .int .u64 b.nonce, .slice xa b.txs.length xc] 177); have HX := Lib.hid (box_new w (.cells #[.int .u64 b.parent, .int .i64 b.height, .int .u64 b.miner, .int .u64 b.work, .int .u64 b.nonce, .slice xa b.txs.length xc] 177)); have H := Lib.hid (h.keepB hbA); have HB := Lib.hid hbA; clear hbA h
 go_enter Tryz.func136, Tryz.ntmps136
 go_upto_region 1 with (fail)
 generalize w.alloc (.cells #[.int .u64 b.parent, .int .i64 b.height, .int .u64 b.miner, .int .u64 b.work, .int .u64 b.nonce, .slice xa b.txs.length xc] 177) = W at *; obtain ⟨x0, x1⟩ := box_cells HX.out
 go_wp2_with (at_make; refine wpList_make_lc rfl _ _ rfl Tryz.etyNums (n := 0) (m := b.txs.length) rfl rfl ?_ ?_ ?_ ?_ ?_ ?_)
 · rfl
 · rfl
 · omega
 · omega
 · unfold maxLen; omega
 intro cur hcur W1 hg hb1 hsz
 have hO : Own u64R W.heap.size 24 (fun x => False ∨ W.heap.size ≤ x) W1 (.slice (some ⟨W.heap.size, 0, none⟩) 0 b.txs.length) [] := own_ints (cur := cur) hg hcur rfl (fun x hx => by simp at hx) (Nat.zero_le _) (by unfold maxLen; omega) (Nat.le_refl _)
 obtain ⟨v0, hv0⟩ : ∃ v, Value.slice (some ⟨W.heap.size, 0, none⟩) 0 b.txs.length = v := ⟨_, rfl⟩; rw [hv0] at hO ⊢; have HO := Lib.hid hO; have HB1 := Lib.hid hb1; clear hO hg hsz hcur hv0 x0 x1; obtain ⟨x0, x1⟩ := box_cells (box_after hb1 HX.out); clear hb1; go_wp2_with fail; clear x0 x1
 go_loopw [3, 13] (fun vv vi wr => ∃ k : Nat, k ≤ b.txs.length ∧ vi = .int .i64 k ∧ Hid (Own u64R W.heap.size 24 (fun x => False ∨ W.heap.size ≤ x) wr vv (idsT (b.txs.take k))) ∧ Below W.heap.size W wr) (fun _ vi _ => b.txs.length - (intOf vi).toNat)
 case atStart => exact ⟨0, Nat.zero_le _, rfl, by show Own _ _ _ _ _ _ _; simpa [idsT] using HO.out, HB1.out⟩
 case round =>
   obtain ⟨k, hk, rfl, HOK, hbr⟩ := hrel
   by_cases hlt : k < b.txs.length
   · obtain ⟨bb, off, ma, oa, pa, mc, oc, pc, rfl, hbl, ht, c0, c1, c2, c3, c4, c5, c6, c7, c8, c9⟩ := txs_at (txsR.keepB H.out.txs hbr) k hlt
     have HT : Hid (idsT (b.txs.take (k + 1)) = idsT (b.txs.take k) ++ [idT b.txs[k]]) := by show _ = _; unfold idsT; rw [List.take_succ_eq_append_getElem hlt, List.map_append]; rfl
     have HLN : Hid ((idsT (b.txs.take k)).length = k) := by show _ = _; simp [idsT]; omega
     generalize b.txs[k] = t at *; have hbn := bnew (Below.refl wr.heap.size wr) (.cells #[.int .u64 t.anchor, .slice ma t.marks.length mc, .slice oa t.outs.length oc, .int .u64 t.dep, .int .u64 t.wd, .int .u64 t.fee, .int .u64 t.acc, .int .u64 t.nonce, .int .i64 t.exp, .slice pa t.proof.length pc] 181); have HT2 := Lib.hid (ht.keepB hbn); have HIN := Lib.hid (box_new wr (.cells #[.int .u64 t.anchor, .slice ma t.marks.length mc, .slice oa t.outs.length oc, .int .u64 t.dep, .int .u64 t.wd, .int .u64 t.fee, .int .u64 t.acc, .int .u64 t.nonce, .int .i64 t.exp, .slice pa t.proof.length pc] 181)); have hbrn := bnext hbr hbn; have HOK2 := Lib.hid (HOK.out.keepB hbn); clear ht hbn hbr HOK; have HBRN := Lib.hid hbrn; clear hbrn
     go_upto_region 5 with (fail)
     clear c0 c1 c2 c3 c4 c5 c6 c7 c8 c9; generalize wr.alloc (.cells #[.int .u64 t.anchor, .slice ma t.marks.length mc, .slice oa t.outs.length oc, .int .u64 t.dep, .int .u64 t.wd, .int .u64 t.fee, .int .u64 t.acc, .int .u64 t.nonce, .int .i64 t.exp, .slice pa t.proof.length pc] 181) = wn at *; obtain ⟨x0, x1⟩ := box_cells HIN.out; go_wp2_with fail
     refine (txID_any _ wn t ma oa pa mc oc pc HT2.out).mono ?_
     rintro e w3 ⟨rfl, hb3⟩; clear x0 x1; have hbw := bnext HBRN.out hb3; have hBw := hbw.size; have HOR := Lib.hid (HOK2.out.keepB hb3)
     have HC : Hid (u64R.rel (fun _ => False) w3 [.int .u64 (idT t)] (idT t)) := ⟨rfl, okU_of (idT_in t).1 (by have := (idT_in t).2; omega)⟩
     obtain ⟨I, hI⟩ : ∃ I, idT t = I := ⟨_, rfl⟩; rw [hI] at HC HT ⊢; obtain ⟨l0, hl0⟩ : ∃ l, idsT (b.txs.take k) = l := ⟨_, rfl⟩; rw [hl0] at HOR HT HLN; have HBW := Lib.hid hbw; clear hI hl0 hbw hb3 HOK2
     go_wp2_with (at_builtin; go_loud (refine wpList_push (r := u64R) (v := u3) (wr := w3) (es := [.int .u64 I]) (w0 := W) (B := W.heap.size) rfl _ _ rfl Tryz.etyNums rfl rfl HBW.out hBw HOR.out HC.out (fun x hx => hx.elim) (by unfold maxLen; have := HLN.out; omega) (by have := HLN.out; omega) ?_))
     intro v1 w4 ho hb
     have HO1 : Hid (Own u64R W.heap.size 24 (fun x => False ∨ W.heap.size ≤ x) w4 v1 (l0 ++ [I])) := Own.mono ho fun x _ h => by first | exact h | exact .inr h
     have HB4 := Lib.hid hb; clear ho hb hBw; go_wp2_with fail
     go_roundw
     case rel => exact ⟨k + 1, by omega, by go_num, by rw [HT.out]; exact HO1, HB4.out⟩
     case measure => simp [intOf]; omega
   · obtain rfl : k = b.txs.length := by omega
     rw [List.take_length] at HOK; obtain ⟨va, vc, rfl, -, -⟩ := sliceR.form HOK.out.slice
     have HR := Lib.hid (numsR.mono HOK.out.slice (S' := fun _ => True) fun _ _ _ => trivial)
     have HBR := Lib.hid hbr; clear HOK hbr; generalize hys : idsT b.txs = ys at *; have HYS := Lib.hid hys.symm; clear hys; go_wp2_with fail; go_ret
     exact ⟨ys, va, vc, by show _ = _; rw [HYS.out], rfl, HR.out, bnext HB.out HBR.out⟩
set_option maxHeartbeats 4000000 in
theorem identifier_any (S S' : Nat → Prop) (w : World) (b : BlkM) (xa ia : Option Addr) (xc ic : Nat) (ids : List Int) (h : BlkIn S w b xa xc) (hh : 1 ≤ b.height) (hh2 : b.height ≤ 1048576) (hl : b.txs.length ≤ 64) (hi : numsR.rel S' w [.slice ia ids.length ic] ids) (hil : ids.length ≤ 64) :
   Calls Tryz.prog 137 #[.agg #[.int .u64 b.parent, .int .i64 b.height, .int .u64 b.miner, .int .u64 b.work, .int .u64 b.nonce, .slice xa b.txs.length xc], .slice ia ids.length ic] w fun e w' => e = .returned (.int .u64 (hashS 15 (packS (headB b ids)))) ∧ Below w.heap.size w w' := by
 have hbA := bnew (Below.refl w.heap.size w) (.cells #[.int .u64 b.parent, .int .i64 b.height, .int .u64 b.miner, .int .u64 b.work, .int .u64 b.nonce, .slice xa b.txs.length xc] 177); have HX := Lib.hid (box_new w (.cells #[.int .u64 b.parent, .int .i64 b.height, .int .u64 b.miner, .int .u64 b.work, .int .u64 b.nonce, .slice xa b.txs.length xc] 177)); have H := Lib.hid (h.keepB hbA); have HB := Lib.hid hbA; have HI := Lib.hid (numsR.keepB hi hbA); clear hi; clear hbA h
 go_enter Tryz.func137, Tryz.ntmps137
 go_upto_region 1 with (fail)
 generalize w.alloc (.cells #[.int .u64 b.parent, .int .i64 b.height, .int .u64 b.miner, .int .u64 b.work, .int .u64 b.nonce, .slice xa b.txs.length xc] 177) = W at *; obtain ⟨x0, x1⟩ := box_cells HX.out; go_wp2_with fail
 refine (header_any S W b xa xc H.out hh hh2 hl).mono ?_
 rintro e w1 ⟨y1, a1, c1, Ey1, l1, rfl, h1, hb1⟩; clear x0 x1; go_wp2_with fail
 go_loopw [5, 12] (fun vb vi wr => ∃ (k : Nat) (ys : List Int) (a : Option Addr) (c : Nat), k ≤ ids.length ∧ vi = .int .i64 k ∧ vb = .slice a ys.length c ∧ Hid (ys = headB b (ids.take k)) ∧ ys.length ≤ 40 + 8 * k ∧ bytesR.rel (fun _ => True) wr [.slice a ys.length c] ys ∧ Below W.heap.size W wr) (fun _ vi _ => ids.length - (intOf vi).toNat)
 case atStart => exact ⟨0, y1, a1, c1, Nat.zero_le _, rfl, rfl, by show _ = _; rw [Ey1.out]; simp [headB, digsAll], by omega, h1, hb1⟩
 case round =>
   obtain ⟨k, ys, a, c, hk, rfl, rfl, hye, hyl, hys, hbr⟩ := hrel
   by_cases hlt : k < ids.length
   · obtain ⟨bb, off, rfl, hbl, hcc⟩ := nums_at (numsR.keepB HI.out hbr) k hlt
     have HT : Hid (headB b (ids.take (k + 1)) = headB b (ids.take k) ++ digs 8 ids[k]) := by show _ = _; unfold headB; rw [List.take_succ_eq_append_getElem hlt, digsAll_snoc, List.append_assoc]
     have HOKI := Lib.hid (ints_wf HI.out ids[k] (List.getElem_mem hlt)); generalize ids[k] = I at *; have HYS := Lib.hid hys; have HBR := Lib.hid hbr; clear hys hbr; go_wp2_with fail; clear hcc
     refine (UintX (40 + 8 * k) wr a c ys HYS.out hyl (by omega) I HOKI.out).mono ?_
     rintro e w4 ⟨y4, a4, c4, Ey4, l4, rfl, h4, hb4⟩; have HY4 := Lib.hid h4; clear h4; go_wp2_with fail
     go_roundw
     case rel => exact ⟨k + 1, y4, a4, c4, by omega, by go_num, rfl, by show _ = _; rw [Ey4.out, HT.out, hye.out], by omega, HY4.out, bnext HBR.out hb4⟩
     case measure => simp [intOf]; omega
   · obtain rfl : k = ids.length := by omega
     rw [List.take_length] at hye; have HYS := Lib.hid hys; have HBR := Lib.hid hbr; clear hys hbr; go_wp2_with fail
     refine (hashBytesX_any _ wr 15 (by omega) a ys.length c ys rfl HYS.out (by omega)).mono ?_
     rintro e w5 ⟨rfl, hb5⟩; rw [hye.out]; go_wp2_with fail; go_ret
     exact ⟨rfl, bnext HB.out (bnext HBR.out hb5)⟩
set_option maxHeartbeats 4000000 in
theorem blkID_any (S : Nat → Prop) (w : World) (b : BlkM) (xa : Option Addr) (xc : Nat) (h : BlkIn S w b xa xc) :
   Calls Tryz.prog 197 #[.agg #[.int .u64 b.parent, .int .i64 b.height, .int .u64 b.miner, .int .u64 b.work, .int .u64 b.nonce, .slice xa b.txs.length xc]] w fun e w' => e = .returned (.int .u64 (blkID b)) ∧ Below w.heap.size w w' := by
 have hbA := bnew (Below.refl w.heap.size w) (.cells #[.int .u64 b.parent, .int .i64 b.height, .int .u64 b.miner, .int .u64 b.work, .int .u64 b.nonce, .slice xa b.txs.length xc] 177); have HX := Lib.hid (box_new w (.cells #[.int .u64 b.parent, .int .i64 b.height, .int .u64 b.miner, .int .u64 b.work, .int .u64 b.nonce, .slice xa b.txs.length xc] 177)); have H := Lib.hid (h.keepB hbA); have HB := Lib.hid hbA; clear hbA h
 go_enter Tryz.func197, Tryz.ntmps197
 go_upto_region 1 with (fail)
 generalize w.alloc (.cells #[.int .u64 b.parent, .int .i64 b.height, .int .u64 b.miner, .int .u64 b.work, .int .u64 b.nonce, .slice xa b.txs.length xc] 177) = W at *; obtain ⟨x0, x1⟩ := box_cells HX.out; go_wp2_with fail
 refine (blkValid_any S W b xa xc H.out).mono ?_
 rintro e w1 ⟨rfl, hb1⟩; clear x0 x1
 by_cases hv : blkE b = 0
 · have HF : Hid (blkID b = idB b) := by show _ = _; unfold blkID; rw [if_pos hv]
   obtain ⟨f1, f2, f3, f4, f5, f6, f7⟩ := blkE_head hv; rw [hv]; clear hv; have HX1 := Lib.hid (box_after hb1 HX.out); have H1 := Lib.hid (H.out.keepB hb1); go_wp2_with fail
   go_region_held3 (fun w' => Below w1.heap.size w1 w' ∧ (∀ o, w'.cell? ⟨w.heap.size, o, none⟩ = (#[.int .u64 b.parent, .int .i64 b.height, .int .u64 b.miner, .int .u64 b.work, .int .u64 b.nonce, .slice xa b.txs.length xc] : Array Value)[o]?))
     (first
       | with_reducible exact BkK.drew (BkK.of HX1.out (Below.refl _ _))
       | with_reducible exact HK1.out
       | with_reducible exact HK2.out)
     (first
       | (go_at_call 136; refine (identifiers_any S _ b xa xc (H1.out.keepB (‹Below w1.heap.size w1 _ ∧ _›).1) f7).mono ?_; rintro e w4 ⟨ys, ia, ic, hys, rfl, hnr, hb4⟩
          have HN := Lib.hid hnr; have HK1 := Lib.hid (BkK.of HX1.out (bnext (‹Below w1.heap.size w1 _ ∧ _›).1 hb4)); have HYL : Hid (ys.length ≤ 64) := (by show _ ≤ _; rw [hys.out]; simp [idsT]; omega); clear hnr)
       | (go_at_call 137; refine (identifier_any S _ _ b xa ia xc ic ys (H1.out.keepB HK1.out.1) f1 f2 f7 HN.out HYL.out).mono ?_; rintro e w5 ⟨rfl, hb5⟩
          have HK2 := Lib.hid (BkK.of HX1.out (bnext HK1.out.1 hb5)); rw [show hashS 15 (packS (headB b ys)) = idB b from by rw [hys.out]; rfl]))
   go_wp2_with fail; go_ret
   exact ⟨ret_int HF.out.symm, bnext HB.out (bnext hb1 HK2.out.1)⟩
 · have HF : Hid (blkID b = 0) := by show _ = _; unfold blkID; rw [if_neg hv]
   have z1 : (blkE b == 0) = false := by rw [beq_eq_false_iff_ne]; exact hv
   have z2 : (blkE b != 0) = true := by rw [bne_iff_ne]; exact hv
   obtain ⟨r, hr⟩ : ∃ r, blkE b = r := ⟨_, rfl⟩; rw [hr] at z1 z2 ⊢; clear hr hv; go_wp2_with fail; go_ret
   exact ⟨ret_int HF.out.symm, bnext HB.out hb1⟩
set_option maxHeartbeats 4000000 in
theorem blkCheck_any (S : Nat → Prop) (w : World) (md d bl bu qu rew win fin wk : Int) (b : BlkM) (xa : Option Addr) (xc : Nat) (h : BlkIn S w b xa xc) :
   Calls Tryz.prog 196 #[.agg #[.int .i64 md, .int .i64 d, .int .i64 bl, .int .i64 bu, .int .i64 qu, .int .u64 rew, .int .i64 win, .int .i64 fin, .int .u64 wk], .agg #[.int .u64 b.parent, .int .i64 b.height, .int .u64 b.miner, .int .u64 b.work, .int .u64 b.nonce, .slice xa b.txs.length xc]] w fun e w' => e = .returned (.int .i64 (blkCheck wk b)) ∧ Below w.heap.size w w' := by
 have hbA := bnew (bnew (Below.refl w.heap.size w) (.cells #[.int .i64 md, .int .i64 d, .int .i64 bl, .int .i64 bu, .int .i64 qu, .int .u64 rew, .int .i64 win, .int .i64 fin, .int .u64 wk] 26)) (.cells #[.int .u64 b.parent, .int .i64 b.height, .int .u64 b.miner, .int .u64 b.work, .int .u64 b.nonce, .slice xa b.txs.length xc] 177); have HA := Lib.hid (two_new w (.cells #[.int .i64 md, .int .i64 d, .int .i64 bl, .int .i64 bu, .int .i64 qu, .int .u64 rew, .int .i64 win, .int .i64 fin, .int .u64 wk] 26) (.cells #[.int .u64 b.parent, .int .i64 b.height, .int .u64 b.miner, .int .u64 b.work, .int .u64 b.nonce, .slice xa b.txs.length xc] 177)).2; have HX := Lib.hid (two_new w (.cells #[.int .i64 md, .int .i64 d, .int .i64 bl, .int .i64 bu, .int .i64 qu, .int .u64 rew, .int .i64 win, .int .i64 fin, .int .u64 wk] 26) (.cells #[.int .u64 b.parent, .int .i64 b.height, .int .u64 b.miner, .int .u64 b.work, .int .u64 b.nonce, .slice xa b.txs.length xc] 177)).1; have H := Lib.hid (h.keepB hbA); have HB := Lib.hid hbA; clear hbA h
 go_enter Tryz.func196, Tryz.ntmps196
 go_upto_region 1 with (fail)
 generalize (w.alloc (.cells #[.int .i64 md, .int .i64 d, .int .i64 bl, .int .i64 bu, .int .i64 qu, .int .u64 rew, .int .i64 win, .int .i64 fin, .int .u64 wk] 26)).alloc (.cells #[.int .u64 b.parent, .int .i64 b.height, .int .u64 b.miner, .int .u64 b.work, .int .u64 b.nonce, .slice xa b.txs.length xc] 177) = W at *; obtain ⟨x0, x1⟩ := box_cells HX.out; obtain ⟨y0, y1⟩ := box_cells HA.out; go_wp2_with fail
 refine (blkValid_any S W b xa xc H.out).mono ?_
 rintro e w1 ⟨rfl, hb1⟩; clear x0 x1 y0 y1
 by_cases hv : blkE b = 0
 · have HU : Hid (blkCheck wk b = if b.work = wk ∧ idB b % b.work = 0 then 0 else 17) := by show _ = _; unfold blkCheck; rw [if_pos hv]
   obtain ⟨f1, f2, f3, f4, f5, f6, f7⟩ := blkE_head hv; rw [hv]; clear hv; have HX1 := Lib.hid (box_after hb1 HX.out); have HA1 := Lib.hid (box_after hb1 HA.out); have H1 := Lib.hid (H.out.keepB hb1)
   by_cases hwk : b.work = wk
   · have z1 : (b.work == wk) = true := by rw [beq_iff_eq]; exact hwk
     have z2 : (b.work != wk) = false := by rw [bne_eq_false_iff_eq]; exact hwk
     have HWK := Lib.hid hwk
     have hw0 : b.work ≠ 0 := by omega
     clear hwk; go_wp2_with fail
     go_region_held3 (fun w' => Below w1.heap.size w1 w' ∧ (∀ o, w'.cell? ⟨w.heap.size, o, none⟩ = (#[.int .i64 md, .int .i64 d, .int .i64 bl, .int .i64 bu, .int .i64 qu, .int .u64 rew, .int .i64 win, .int .i64 fin, .int .u64 wk] : Array Value)[o]?) ∧ (∀ o, w'.cell? ⟨w.heap.size + 1, o, none⟩ = (#[.int .u64 b.parent, .int .i64 b.height, .int .u64 b.miner, .int .u64 b.work, .int .u64 b.nonce, .slice xa b.txs.length xc] : Array Value)[o]?))
       (first
         | with_reducible exact BkK2.drew (BkK2.of HA1.out HX1.out (Below.refl _ _))
         | with_reducible exact HK1.out
         | with_reducible exact HK2.out)
       (first
         | (go_at_call 136; refine (identifiers_any S _ b xa xc (H1.out.keepB (‹Below w1.heap.size w1 _ ∧ _›).1) f7).mono ?_; rintro e w4 ⟨ys, ia, ic, hys, rfl, hnr, hb4⟩
            have HN := Lib.hid hnr; have HK1 := Lib.hid (BkK2.of HA1.out HX1.out (bnext (‹Below w1.heap.size w1 _ ∧ _›).1 hb4)); have HYL : Hid (ys.length ≤ 64) := (by show _ ≤ _; rw [hys.out]; simp [idsT]; omega); clear hnr)
         | (go_at_call 137; refine (identifier_any S _ _ b xa ia xc ic ys (H1.out.keepB HK1.out.1) f1 f2 f7 HN.out HYL.out).mono ?_; rintro e w5 ⟨rfl, hb5⟩
            have HK2 := Lib.hid (BkK2.of HA1.out HX1.out (bnext HK1.out.1 hb5)); rw [show hashS 15 (packS (headB b ys)) = idB b from by rw [hys.out]; rfl]))
     have hfin := bnext HB.out (bnext hb1 HK2.out.1); have htm : (idB b).tmod b.work = idB b % b.work := Int.tmod_eq_emod_of_nonneg (idB_in b).1
     by_cases hm : idB b % b.work = 0
     · have HF : Hid (blkCheck wk b = 0) := by show _ = _; rw [HU.out, if_pos ⟨HWK.out, hm⟩]
       have z3 : ((idB b).tmod b.work != 0) = false := by rw [htm, hm]; rfl
       clear htm hm; go_wp2_with fail; go_ret
       exact ⟨ret_int HF.out.symm, hfin⟩
     · have HF : Hid (blkCheck wk b = 17) := by show _ = _; rw [HU.out, if_neg fun h => hm h.2]
       have z3 : ((idB b).tmod b.work != 0) = true := by rw [htm, bne_iff_ne]; exact hm
       clear htm hm; go_wp2_with fail; go_ret
       exact ⟨ret_int HF.out.symm, hfin⟩
   · have HF : Hid (blkCheck wk b = 17) := by show _ = _; rw [HU.out, if_neg fun h => hwk h.1]
     have z1 : (b.work == wk) = false := by rw [beq_eq_false_iff_ne]; exact hwk
     have z2 : (b.work != wk) = true := by rw [bne_iff_ne]; exact hwk
     have x0 := box_regrown HX1.out; have y0 := box_regrown HA1.out; go_wp2_with fail
     refine wp_region_quiet_below (by kernel_rfl) (by kernel_rfl) ?_
     repeat (first | go_big_quiet_step (fail) | quiet_step (fail))
     refine wpQuiet_nil ?_
     intro w2 hw'
     obtain ⟨⟨dq, osq⟩, hw''⟩ := hw'; have hbw2 := below_regrown w1 dq osq; rw [← hw''] at hbw2; clear hw'' x0 y0; go_wp2_with fail; go_ret
     exact ⟨ret_int HF.out.symm, bnext HB.out (bnext hb1 hbw2)⟩
 · have HF : Hid (blkCheck wk b = blkE b) := by show _ = _; unfold blkCheck; rw [if_neg hv]
   have z1 : (blkE b == 0) = false := by rw [beq_eq_false_iff_ne]; exact hv
   have z2 : (blkE b != 0) = true := by rw [bne_iff_ne]; exact hv
   obtain ⟨r, hr⟩ : ∃ r, blkE b = r := ⟨_, rfl⟩; have HR := Lib.hid hr; rw [hr] at z1 z2 ⊢; clear hr hv; go_wp2_with fail; go_ret
   exact ⟨ret_int (by rw [HF.out, HR.out]), bnext HB.out hb1⟩
end Go.Proofs.YtphacfkcifpobaaGreatDoor
/- The key of numbers, exact; the map of issued proofs, which has no entry or one. -/
namespace Go.Proofs.YtphacfkcifpobaaGreatDoor
open Go.ChangeShapes Go.WideShapes Go.ChangeAt Go.RowKit
theorem zero_bool (w : World) : (zeroValue 4).run Tryz.prog w = .ok (.bool false) w := by
 have h0 : (Tryz.prog.info? 4).map (·.zero) = some (some (.bool false)) := by kernel_rfl
 obtain ⟨i, hi, hz⟩ := Option.map_eq_some_iff.1 h0
 simp [zeroValue, typeInfo, hi, hz]
end Go.Proofs.YtphacfkcifpobaaGreatDoor
/- Maps whose keys are numbers: what a block holds, as a list of pairs; look-up, store, delete, length. -/
namespace Go.Proofs.YtphacfkcifpobaaGreatDoor
open Go.ChangeShapes Go.WideShapes Go.ChangeAt Go.RowKit Go.Sort Go.Maps
def heldR (v : Value) : Option (DataW Value × List MemPlace) := some (.held v, [])
theorem lawU : Keyed Tryz.prog 24 := int_keyed Tryz.underlying24
abbrev NMap := List (Int × Value)
def encM (m : NMap) : DataW Value := .map (m.map fun p => (.int .u64 p.1, .held p.2))
def getM (m : NMap) (x : Int) : Option Value := (m.find? fun p => p.1 == x).map (·.2)
def insM (p : Int × Value) : NMap → NMap
 | [] => [p]
 | q :: r => if p.1 < q.1 then p :: q :: r else q :: insM p r
def delM (m : NMap) (x : Int) : NMap := m.filter fun p => p.1 != x
def putM (m : NMap) (x : Int) (v : Value) : NMap := insM (x, v) (delM m x)
theorem sameKey_u64 (a b : Int) : (Lit.int .u64 a).sameKey (.int .u64 b) = (a == b) := by
 simp only [Lit.sameKey, true_and]
 by_cases h : a = b <;> simp [h]
theorem enc_ins (p : Int × Value) : ∀ m : NMap, DataW.insert (Lit.int .u64 p.1, DataW.held p.2) (m.map fun p => (Lit.int .u64 p.1, DataW.held p.2)) = (insM p m).map fun p => (Lit.int .u64 p.1, DataW.held p.2)
 | [] => rfl
 | q :: r => by
   have e : (Lit.int IntKind.u64 p.1).before (.int IntKind.u64 q.1) = decide (p.1 < q.1) := rfl
   by_cases h : p.1 < q.1
   · simp [DataW.insert, insM, e, h]
   · simp [DataW.insert, insM, e, h, enc_ins p r]
theorem enc_del (m : NMap) (x : Int) : (encM m).del (.int .u64 x) = encM (delM m x) := by
 unfold encM delM
 show DataW.map (List.filter _ _) = _
 rw [List.filter_map]
 congr 2
 refine List.filter_congr fun p _ => ?_
 show (!(Lit.int IntKind.u64 p.1).sameKey (.int .u64 x)) = (p.1 != x)
 rw [sameKey_u64]; rfl
theorem enc_put (m : NMap) (x : Int) (v : Value) : (encM m).put (.int .u64 x) (.held v) = encM (putM m x v) := by
 have h := enc_del m x; unfold encM at h; unfold encM putM; rw [← enc_ins (x, v) (delM m x)]
 show DataW.map (DataW.insert (Lit.int .u64 x, DataW.held v) (List.filter _ _)) = _
 have h' : (List.map (fun p : Int × Value => (Lit.int IntKind.u64 p.1, (DataW.held p.2 : DataW Value))) m).filter (fun p => !p.1.sameKey (.int .u64 x)) = (delM m x).map fun p => (Lit.int .u64 p.1, DataW.held p.2) := DataW.map.inj h
 rw [h']
theorem enc_at (m : NMap) (x : Int) (z : Value) : (encM m).atKey (.int .u64 x) (.held z) = .held ((getM m x).getD z) := by
 unfold encM getM
 simp only [DataW.atKey]
 rw [List.find?_map]
 have e : ((fun p : Lit × DataW Value => p.1.sameKey (.int .u64 x)) ∘ fun p : Int × Value => (Lit.int IntKind.u64 p.1, DataW.held p.2)) = fun p => p.1 == x := by funext p; exact sameKey_u64 p.1 x
 rw [e]
 cases m.find? fun p => p.1 == x <;> rfl
theorem enc_has (m : NMap) (x : Int) : Maps.has (encM m) (.int .u64 x) = (getM m x).isSome := by
 unfold encM getM; rw [has_eq, List.any_map, Option.isSome_map]
 have e : ((fun p : Lit × DataW Value => p.1.sameKey (.int .u64 x)) ∘ fun p : Int × Value => (Lit.int IntKind.u64 p.1, DataW.held p.2)) = fun p => p.1 == x := by funext p; exact sameKey_u64 p.1 x
 rw [e]
 induction m with
 | nil => rfl
 | cons q r ih =>
   rw [List.any_cons, List.find?_cons, ih]
   cases q.1 == x <;> rfl
theorem enc_size (m : NMap) : Maps.size (encM m) = m.length := by
 unfold encM; rw [size_eq, List.length_map]
theorem insM_len (p : Int × Value) : ∀ m : NMap, (insM p m).length = m.length + 1
 | [] => rfl
 | q :: r => by
   unfold insM
   split
   · rfl
   · simp [insM_len p r]
theorem delM_len (m : NMap) (x : Int) : (delM m x).length ≤ m.length := List.length_filter_le _ _
theorem putM_len (m : NMap) (x : Int) (v : Value) : (putM m x v).length ≤ m.length + 1 := by
 unfold putM; rw [insM_len]; have := delM_len m x; omega
theorem get_ins_hit (x : Int) (v : Value) : ∀ m : NMap, (∀ p ∈ m, p.1 ≠ x) → getM (insM (x, v) m) x = some v
 | [], _ => by simp [insM, getM]
 | q :: r, h => by
   have hq : (q.1 == x) = false := by rw [beq_eq_false_iff_ne]; exact h q (by simp)
   have ih := get_ins_hit x v r fun p hp => h p (by simp [hp])
   unfold insM
   split
   · simp [getM]
   · unfold getM at ih ⊢; rw [List.find?_cons, hq]; exact ih
theorem get_ins_miss (x y : Int) (v : Value) (hxy : y ≠ x) : ∀ m : NMap, getM (insM (x, v) m) y = getM m y
 | [] => by simp [insM, getM, Ne.symm hxy]
 | q :: r => by
   have ih := get_ins_miss x y v hxy r
   have e : ((x == y) = false) := by rw [beq_eq_false_iff_ne]; exact Ne.symm hxy
   unfold insM
   split
   · unfold getM; rw [List.find?_cons]; simp only [e]
   · unfold getM at ih ⊢
     rw [List.find?_cons, List.find?_cons]
     cases q.1 == y
     · exact ih
     · rfl
theorem get_del_other (m : NMap) (x y : Int) (h : y ≠ x) : getM (delM m x) y = getM m y := by
 induction m with
 | nil => rfl
 | cons q r ih =>
   unfold getM delM at ih ⊢; rw [List.filter_cons]
   conv => rhs; rw [List.find?_cons]
   by_cases hq : q.1 = y
   · have e1 : (q.1 != x) = true := by rw [bne_iff_ne, hq]; exact h
     have e2 : (q.1 == y) = true := by rw [beq_iff_eq]; exact hq
     rw [if_pos e1, List.find?_cons, e2]
   · have e2 : (q.1 == y) = false := by rw [beq_eq_false_iff_ne]; exact hq
     rw [e2]
     split
     · rw [List.find?_cons, e2]; exact ih
     · exact ih
theorem get_put_same (m : NMap) (x : Int) (v : Value) : getM (putM m x v) x = some v :=
 get_ins_hit x v _ fun p hp => by have := (List.mem_filter.1 hp).2; simpa using this
theorem get_put_other (m : NMap) (x y : Int) (v : Value) (h : y ≠ x) : getM (putM m x v) y = getM m y := by
 unfold putM; rw [get_ins_miss x y v h, get_del_other m x y h]
def MapAt (w : World) (b : Nat) (m : NMap) : Prop := w.ownsMap Tryz.prog 24 heldR b m.length (encM m)
theorem MapAt.of {w : World} {b n : Nat} {m : NMap} (h : w.ownsMap Tryz.prog 24 heldR b n (encM m)) : MapAt w b m := by
 obtain ⟨es, clock, hb, F, _, hD⟩ := h
 refine ⟨es, clock, hb, F, ?_, hD⟩
 have := congrArg Maps.size hD; rw [enc_size] at this
 simp [Maps.size, length_sorted] at this
 omega
theorem MapAt.lt {w : World} {b : Nat} {m : NMap} (h : MapAt w b m) : b < w.heap.size := World.ownsMap.lt h
theorem MapAt.at' {w w' : World} {b : Nat} {m : NMap} (h : MapAt w b m) (hb : w'.heap[b]? = w.heap[b]?) : MapAt w' b m := by
 obtain ⟨es, clock, h1, h2⟩ := h
 exact ⟨es, clock, hb.trans h1, h2⟩
theorem MapAt.keep {S : Nat → Prop} {w w' : World} {b : Nat} {m : NMap} (h : MapAt w b m) (hk : Kept S w w') (hS : S b) : MapAt w' b m := h.at' (hk.block b h.lt hS)
theorem MapAt.keepB {w w' : World} {b : Nat} {m : NMap} (h : MapAt w b m) (hk : Below w.heap.size w w') : MapAt w' b m := h.keep (S := fun k => k < w.heap.size) (Kept.of_below hk) h.lt
theorem mapAt_made (w : World) : MapAt (w.alloc (.map #[] 0)) w.heap.size [] := World.ownsMap_made w _ _ _
theorem MapAt.look {w : World} {b : Nat} {m : NMap} (h : MapAt w b m) {t e : TypeId} (ht : Tryz.prog.underlying t = some (.map 24 e)) {z : Value} (hz : (zeroValue e).run Tryz.prog w = .ok z w) (x : Int) (hx : okU x) :
   (Instr.lookup t (.map (some b)) (.int .u64 x) false).run Tryz.prog w = .ok ((getM m x).getD z) w := by
 obtain ⟨v, ps, hrun, hv⟩ := World.ownsMap.lookup h lawU ht hz (zd := .held z) (zp := []) rfl (key := .int .u64 x) (kl := .int .u64 x) (keyOf_int_mk Tryz.underlying24 hx); rw [enc_at] at hv
 obtain rfl : v = (getM m x).getD z := by simpa [heldR] using congrArg (Option.map Prod.fst) hv
 exact hrun
theorem MapAt.look_ok {w : World} {b : Nat} {m : NMap} (h : MapAt w b m) {t e : TypeId} (ht : Tryz.prog.underlying t = some (.map 24 e)) {z : Value} (hz : (zeroValue e).run Tryz.prog w = .ok z w) (x : Int) (hx : okU x) :
   (Instr.lookup t (.map (some b)) (.int .u64 x) true).run Tryz.prog w = .ok (.tuple #[(getM m x).getD z, .bool (getM m x).isSome]) w := by
 obtain ⟨v, ps, hrun, hv⟩ := World.ownsMap.look_ok h lawU ht hz (zd := .held z) (zp := []) rfl (key := .int .u64 x) (kl := .int .u64 x) (keyOf_int_mk Tryz.underlying24 hx); rw [enc_at] at hv; rw [enc_has] at hrun
 obtain rfl : v = (getM m x).getD z := by simpa [heldR] using congrArg (Option.map Prod.fst) hv
 exact hrun
theorem MapAt.len {w : World} {b : Nat} {m : NMap} (h : MapAt w b m) {t e : TypeId} (ht : Tryz.prog.underlying t = some (.map 24 e)) (ty : TypeId) : (Builtin.len_ #[t] ty #[.map (some b)]).run Tryz.prog w = .ok (.int .i64 m.length) w := by
 have := World.ownsMap.len h ht ty; rwa [enc_size] at this
def OnlyAt (b : Nat) (w w' : World) : Prop := Kept (fun k => k ≠ b) w w'
theorem only_of_turned {w w' : World} {b : Nat} (h : w.mapTurned w' b) : OnlyAt b w w' ∧ w'.heap.size = w.heap.size := by
 have hg := h.grown
 refine ⟨⟨hg.os, hg.tape, hg.output, hg.size, fun k hk hne => hg.block k hk fun e => hne (Option.some.inj e)⟩, ?_⟩
 obtain ⟨es, clock, es', clock', _, rfl⟩ := h
 simp [ChangeMaps.setBlock]
theorem wpList_putM {P : Program} (hP : P = Tryz.prog) (w : World) {ops : Array Oper} {rest : List Oper} {o : Oper} {a : Act} {Q : Exit → Act → World → Prop}
   (hg : o.guard = none) (m x v : Operand) (t : TypeId) (hop : o.op = Op.mapUpdate t m x v) (e : TypeId) (ht : Tryz.prog.underlying t = some (.map 24 e)) (b : Nat) (l : NMap)
   (hm : a.eval m = .map (some b)) (hown : MapAt w b l) (hn : l.length < maxLen) (k : Int) (val : Value) (hx : a.eval x = .int .u64 k) (hk : okU k) (hv : a.eval v = val)
   (hK : ∀ w', MapAt w' b (putM l k val) → OnlyAt b w w' → w'.heap.size = w.heap.size → wpList P ops Q rest (a.put o.dst undef) w') :
   wpList P ops Q (o :: rest) a w := by
 subst hP
 refine wpList_mapUpdate_in w hg m x v t hop 24 e lawU ht heldR b l.length (encM l) hm hown hn (.int .u64 k) val (.int .u64 k) hx hv (keyOf_int_mk Tryz.underlying24 hk) (.held val) [] rfl fun w' h1 h2 => ?_
 rw [enc_put] at h1
 exact hK w' (MapAt.of h1) (only_of_turned h2).1 (only_of_turned h2).2
theorem wpList_delM {P : Program} (hP : P = Tryz.prog) (w : World) {ops : Array Oper} {rest : List Oper} {o : Oper} {a : Act} {Q : Exit → Act → World → Prop}
   (hg : o.guard = none) (m x : Operand) (t : TypeId) (hop : o.op = Op.call { callee := Callee.builtin Builtin.delete, args := #[m, x], argTypes := #[t, 24] }) (e : TypeId) (ht : Tryz.prog.underlying t = some (.map 24 e)) (b : Nat) (l : NMap)
   (hm : a.eval m = .map (some b)) (hown : MapAt w b l) (k : Int) (hx : a.eval x = .int .u64 k) (hk : okU k)
   (hK : ∀ w', MapAt w' b (delM l k) → OnlyAt b w w' → w'.heap.size = w.heap.size → wpList P ops Q rest (a.put o.dst (.tuple #[])) w') :
   wpList P ops Q (o :: rest) a w := by
 subst hP
 refine wpList_delete_own w hg m x t 24 hop e lawU ht heldR b l.length (encM l) hm hown (.int .u64 k) (.int .u64 k) hx (keyOf_int_mk Tryz.underlying24 hk) fun w' h1 h2 => ?_
 rw [enc_del] at h1
 exact hK w' (MapAt.of h1) (only_of_turned h2).1 (only_of_turned h2).2
end Go.Proofs.YtphacfkcifpobaaGreatDoor
