/- The laws of chains: clash. -/
import Derived.Test.YtcnhicijimiegaaGreatDoorMSam
import Derived.Test.YtcnhicijimiegaaGreatDoorR47
import Derived.Test.YtcnhicijimiegaaGreatDoorOrdP
import Derived.Test.YtcnhicijimiegaaGreatDoorMKit
set_option maxRecDepth 100000
namespace Go.Proofs.YtcnhicijimiegaaGreatDoor
open Go.ChangeShapes Go.WideShapes Go.ChangeAt Go.RowKit Go.Sort
def clB (b b' : BlkM) : Bool := blkID b == blkID b' && (!eqB b b' && (blkE b == 0 && blkE b' == 0))
def noClB (l : List BlkM) (i : Nat) : Prop := ∀ p q (hp : p < l.length) (hq : q < l.length), p < i → q < p → clB l[p] l[q] = false
theorem noClash_of {l : List BlkM} (h : noClB l l.length) : NoClash l := by
 have hh : ∀ p q (hp : p < l.length) (hq : q < l.length), q < p → blkID l[p] = blkID l[q] → blkE l[p] = 0 → blkE l[q] = 0 → l[p] = l[q] := fun p q hp hq hqp h1 h2 h3 => by
   have := h p q hp hq hp hqp; unfold clB at this; rw [h1, h2, h3] at this
   simp at this
   exact (eqB_iff _ _).1 this
 intro b hb b' hb' h1 h2 h3
 obtain ⟨p, hp, rfl⟩ := List.getElem_of_mem hb; obtain ⟨q, hq, rfl⟩ := List.getElem_of_mem hb'
 rcases Nat.lt_trichotomy p q with h | h | h
 · exact (hh q p hq hp h h1.symm h3 h2).symm
 · subst h; rfl
 · exact hh p q hp hq h h1 h2 h3
def ClaOut (l : List BlkM) (w : World) (e : Ending) (w' : World) : Prop := ∃ c : Bool, e = .returned (.bool c) ∧ (c = false → NoClash l) ∧ Below w.heap.size w w'
set_option maxHeartbeats 8000000 in
theorem clash_any (S : Nat → Prop) (w : World) (l : List BlkM) (la : Option Addr) (lc : Nat) (h : blksR.rel S w [.slice la l.length lc] l) (hl : l.length ≤ 100) (hs : ∀ b ∈ l, smallBk b = true) :
   Calls Tryz.prog 6 #[.slice la l.length lc] w (ClaOut l w) := by
 have H := Lib.hid h
 have HM : Hid (∀ b ∈ l, (∀ t ∈ b.txs, ModT t) ∧ b.txs.length ≤ 1000) := fun b hb => by
   have h1 := hs b hb; have h2 := smallBk_of h1
   refine ⟨fun t ht => ?_, by omega⟩
   obtain ⟨a1, a2, a3, a4⟩ := h2.2 t ht
   exact ⟨by omega, by omega, fun o ho => by have := a4 o ho; omega, by omega⟩
 clear h hs
 go_enter Tryz.func6, Tryz.ntmps6
 go_wp2_with fail
 go_loopw [7] (fun vi wr => ∃ i : Nat, i ≤ l.length ∧ vi = .int .i64 i ∧ Hid (noClB l i) ∧ Hid (Below w.heap.size w wr)) (fun vi _ => l.length - (intOf vi).toNat)
 case atStart => exact ⟨0, Nat.zero_le _, rfl, fun p q _ _ h => absurd h (Nat.not_lt_zero _), Below.refl _ _⟩
 case round =>
   obtain ⟨i, hi, rfl, HN, HBR⟩ := hrel; obtain ⟨wo, hwo⟩ : ∃ x, x = wr := ⟨_, rfl⟩; subst hwo
   by_cases hlt : i < l.length
   · go_wp2_with fail
     go_loopw [11] (fun vk wr => ∃ k : Nat, k ≤ i ∧ vk = .int .i64 k ∧ Hid (∀ q (hq : q < l.length), q < k → clB l[i] l[q] = false) ∧ Hid (Below w.heap.size w wr)) (fun vk _ => i - (intOf vk).toNat)
     case atStart => exact ⟨0, Nat.zero_le _, rfl, fun q _ h => absurd h (Nat.not_lt_zero _), HBR⟩
     case round =>
       clear HBR; obtain ⟨k, hk, rfl, HQ, HBR⟩ := hrel
       by_cases hki : k < i
       · have hkl : k < l.length := by omega
         obtain ⟨b1, o1, xa, xc, ha1, -, hb, c0, c1, c2, c3, c4, c5⟩ := blks_at (blksR.keepB H.out HBR.out) i hlt; obtain ⟨b2, o2, xa', xc', ha2, -, hb', e0, e1, e2, e3, e4, e5⟩ := blks_at (blksR.keepB H.out HBR.out) k hkl
         have hbb : b2 = b1 ∧ o2 = o1 := by
           rw [ha1] at ha2
           simp only [Option.some.injEq, Addr.mk.injEq] at ha2
           exact ⟨ha2.1.symm, ha2.2.1.symm⟩
         obtain ⟨rfl, rfl⟩ := hbb; subst ha1; have HMB := Lib.hid (HM.out _ (List.getElem_mem hlt)); have HMB' := Lib.hid (HM.out _ (List.getElem_mem hkl))
         have HNX : Hid (clB l[i] l[k] = false → ∀ q (hq : q < l.length), q < k + 1 → clB l[i] l[q] = false) := fun h q hq hqk => by
           by_cases e : q = k
           · subst e; exact h
           · exact HQ.out q hq (by omega)
         generalize l[i] = b at *; generalize l[k] = b' at *; have HI := Lib.hid hb; have HI' := Lib.hid hb'; clear hb hb' ha2 HQ
         go_upto_region 7 with (fail)
         go_cut [52] from 14 to 52 (fun v52 wc => v52 = .bool (clB b b') ∧ Hid (Below wr.heap.size wr wc))
         case first =>
           have HCL : Hid (clB b b' = (blkID b == blkID b' && (!eqB b b' && (blkE b == 0 && blkE b' == 0)))) := rfl; have HR1 := Lib.hid (range6 c0 c1 c2 c3 c4 c5); have HR2 := Lib.hid (range6 e0 e1 e2 e3 e4 e5)
           have i0 : (0 : Int) ≤ (i : Int) := by omega
           have i1 : (i : Int) < (l.length : Int) := by omega
           have k0 : (0 : Int) ≤ (k : Int) := by omega
           have k1 : (k : Int) < (l.length : Int) := by omega
           clear c0 c1 c2 c3 c4 c5 e0 e1 e2 e3 e4 e5
           refine wp_region_held_drew (S := (RngS wr b2 (o2 + i * 6) [.int .u64 b.parent, .int .i64 b.height, .int .u64 b.miner, .int .u64 b.work, .int .u64 b.nonce, .slice xa b.txs.length xc] b2 (o2 + k * 6) [.int .u64 b'.parent, .int .i64 b'.height, .int .u64 b'.miner, .int .u64 b'.work, .int .u64 b'.nonce, .slice xa' b'.txs.length xc'])) (by kernel_rfl) (RngS.of HR1.out HR2.out (Below.refl _ _).drew) (fun hHeld => ?_)
           refine wpAnyH_take (i := 0) (v := ?_) rfl (by kernel_rfl) (by kernel_rfl) (by kernel_rfl) (fun _ _ _ h => h) (Or.inl ⟨by rfl, ?_⟩) (by assumption) ?_
           rotate_left
           · intro wz hSz
             go_simp
             all_goals with_reducible rfl
           go_simp
           refine wpAnyH_take (i := 1) (v := ?_) rfl (by kernel_rfl) (by kernel_rfl) (by kernel_rfl) (fun _ _ _ h => h) (Or.inl ⟨by rfl, ?_⟩) (by assumption) ?_
           rotate_left
           · intro wz hSz
             go_simp
             all_goals with_reducible rfl
           go_simp
           refine wpAnyH_take (i := 2) (v := ?_) rfl (by kernel_rfl) (by kernel_rfl) (by kernel_rfl) (fun _ _ _ h => h) (Or.inl ⟨by rfl, ?_⟩) (by assumption) ?_
           rotate_left
           · intro wz hSz
             go_simp
             all_goals with_reducible rfl
           go_simp
           refine wpAnyH_take (i := 3) (v := .agg (List.toArray [.int .u64 b.parent, .int .i64 b.height, .int .u64 b.miner, .int .u64 b.work, .int .u64 b.nonce, .slice xa b.txs.length xc])) rfl (by kernel_rfl) (by kernel_rfl) (by kernel_rfl) (fun _ _ _ h => h) (yieldsIf_load_mid (by rfl) _ _ rfl (b2) (o2 + i * 6) rfl [.int .u64 b.parent, .int .i64 b.height, .int .u64 b.miner, .int .u64 b.work, .int .u64 b.nonce, .slice xa b.txs.length xc] _ (fun wz hSz => hSz.r1) Tryz.underlying34 rfl (by kernel_rfl)) (by assumption) ?_
           go_simp
           refine wpAnyH_take (i := 5) (v := ?_) rfl (by kernel_rfl) (by kernel_rfl) (by kernel_rfl) (fun _ _ _ h => h) (Or.inl ⟨by rfl, ?_⟩) (by assumption) ?_
           rotate_left
           · intro wz hSz
             go_simp
             all_goals with_reducible rfl
           go_simp
           refine wpAnyH_take (i := 6) (v := ?_) rfl (by kernel_rfl) (by kernel_rfl) (by kernel_rfl) (fun _ _ _ h => h) (Or.inl ⟨by rfl, ?_⟩) (by assumption) ?_
           rotate_left
           · intro wz hSz
             go_simp
             all_goals with_reducible rfl
           go_simp
           refine wpAnyH_take (i := 7) (v := ?_) rfl (by kernel_rfl) (by kernel_rfl) (by kernel_rfl) (fun _ _ _ h => h) (Or.inl ⟨by rfl, ?_⟩) (by assumption) ?_
           rotate_left
           · intro wz hSz
             go_simp
             all_goals with_reducible rfl
           go_simp
           refine wpAnyH_take (i := 8) (v := .agg (List.toArray [.int .u64 b'.parent, .int .i64 b'.height, .int .u64 b'.miner, .int .u64 b'.work, .int .u64 b'.nonce, .slice xa' b'.txs.length xc'])) rfl (by kernel_rfl) (by kernel_rfl) (by kernel_rfl) (fun _ _ _ h => h) (yieldsIf_load_mid (by rfl) _ _ rfl (b2) (o2 + k * 6) rfl [.int .u64 b'.parent, .int .i64 b'.height, .int .u64 b'.miner, .int .u64 b'.work, .int .u64 b'.nonce, .slice xa' b'.txs.length xc'] _ (fun wz hSz => hSz.r2) Tryz.underlying34 rfl (by kernel_rfl)) (by assumption) ?_
           go_simp
           refine wpAnyH_ready (rs := [4]) (by kernel_rfl) (by simp) ?_
           refine AllReadyH.cons rfl (fun K hK => ?_) AllReadyH.nil
           go_simp
           go_at_call 16
           refine (rblkID_any _ _ b xa xc (HI.out.keepB hHeld.bel)).mono ?_
           rintro e wa ⟨rfl, hba⟩; have HBN := Lib.hid (bnext hHeld.bel hba); clear hba
           (try go_wp2_with fail)
           clear hHeld
           refine hK.out _ _ (RngS.of HR1.out HR2.out HBN.out) (fun hHeld => ?_)
           clear hK K
           go_simp
           refine wpAnyH_ready (rs := [9]) (by kernel_rfl) (by simp) ?_
           refine AllReadyH.cons rfl (fun K hK => ?_) AllReadyH.nil
           go_simp
           go_at_call 16
           refine (rblkID_any _ _ b' xa' xc' (HI'.out.keepB hHeld.bel)).mono ?_
           rintro e wa ⟨rfl, hba⟩; clear HBN; have HBN := Lib.hid (bnext hHeld.bel hba); clear hba
           (try go_wp2_with fail)
           clear hHeld
           refine hK.out _ _ (RngS.of HR1.out HR2.out HBN.out) (fun hHeld => ?_)
           clear hK K
           go_simp
           obtain ⟨id1, hid1⟩ : ∃ x, blkID b = x := ⟨_, rfl⟩; obtain ⟨id2, hid2⟩ : ∃ x, blkID b' = x := ⟨_, rfl⟩; obtain ⟨v1, hv1⟩ : ∃ x, blkE b = x := ⟨_, rfl⟩; obtain ⟨v2, hv2⟩ : ∃ x, blkE b' = x := ⟨_, rfl⟩; obtain ⟨sm, hsm⟩ : ∃ x, eqB b b' = x := ⟨_, rfl⟩; rw [hid1, hid2, hv1, hv2, hsm] at HCL; have HV1 := Lib.hid hv1; have HV2 := Lib.hid hv2; have HSM := Lib.hid hsm; rw [hid1, hid2]; clear hid1 hid2 hv1 hv2 hsm
           by_cases g1 : id1 = id2
           rotate_left
           · have z1 : (id1 == id2) = false := by rw [beq_eq_false_iff_ne]; exact g1
             have HF : Hid (clB b b' = false) := by show _ = _; rw [HCL.out, z1]; rfl
             clear g1
             refine wpAnyH_take (i := 10) (v := ?_) rfl (by kernel_rfl) (by kernel_rfl) (by kernel_rfl) (fun _ _ _ h => h) (Or.inl ⟨by rfl, ?_⟩) (by assumption) ?_
             rotate_left
             · intro wz hSz
               go_simp
               all_goals with_reducible rfl
             go_simp
             refine wpAnyH_take (i := 11) (v := ?_) rfl (by kernel_rfl) (by kernel_rfl) (by kernel_rfl) (fun _ _ _ h => h) (Or.inl ⟨by rfl, ?_⟩) (by assumption) ?_
             rotate_left
             · intro wz hSz
               go_simp
               all_goals with_reducible rfl
             go_simp
             refine wpAnyH_take (i := 12) (v := _) rfl (by kernel_rfl) (by kernel_rfl) (by kernel_rfl) (fun _ _ _ h => h) (Or.inr ⟨by rfl, rfl⟩) (by assumption) ?_
             go_simp
             refine wpAnyH_take (i := 13) (v := _) rfl (by kernel_rfl) (by kernel_rfl) (by kernel_rfl) (fun _ _ _ h => h) (Or.inr ⟨by rfl, rfl⟩) (by assumption) ?_
             go_simp
             refine wpAnyH_take (i := 14) (v := _) rfl (by kernel_rfl) (by kernel_rfl) (by kernel_rfl) (fun _ _ _ h => h) (Or.inr ⟨by rfl, rfl⟩) (by assumption) ?_
             go_simp
             refine wpAnyH_take (i := 15) (v := _) rfl (by kernel_rfl) (by kernel_rfl) (by kernel_rfl) (fun _ _ _ h => h) (Or.inr ⟨by rfl, rfl⟩) (by assumption) ?_
             go_simp
             refine wpAnyH_take (i := 16) (v := _) rfl (by kernel_rfl) (by kernel_rfl) (by kernel_rfl) (fun _ _ _ h => h) (Or.inr ⟨by rfl, rfl⟩) (by assumption) ?_
             go_simp
             refine wpAnyH_take (i := 17) (v := _) rfl (by kernel_rfl) (by kernel_rfl) (by kernel_rfl) (fun _ _ _ h => h) (Or.inr ⟨by rfl, rfl⟩) (by assumption) ?_
             go_simp
             refine wpAnyH_take (i := 18) (v := _) rfl (by kernel_rfl) (by kernel_rfl) (by kernel_rfl) (fun _ _ _ h => h) (Or.inr ⟨by rfl, rfl⟩) (by assumption) ?_
             go_simp
             refine wpAnyH_take (i := 19) (v := _) rfl (by kernel_rfl) (by kernel_rfl) (by kernel_rfl) (fun _ _ _ h => h) (Or.inr ⟨by rfl, rfl⟩) (by assumption) ?_
             go_simp
             refine wpAnyH_take (i := 20) (v := _) rfl (by kernel_rfl) (by kernel_rfl) (by kernel_rfl) (fun _ _ _ h => h) (Or.inr ⟨by rfl, rfl⟩) (by assumption) ?_
             go_simp
             refine wpAnyH_take (i := 21) (v := _) rfl (by kernel_rfl) (by kernel_rfl) (by kernel_rfl) (fun _ _ _ h => h) (Or.inr ⟨by rfl, rfl⟩) (by assumption) ?_
             go_simp
             refine wpAnyH_take (i := 22) (v := ?_) rfl (by kernel_rfl) (by kernel_rfl) (by kernel_rfl) (fun _ _ _ h => h) (Or.inl ⟨by rfl, ?_⟩) (by assumption) ?_
             rotate_left
             · intro wz hSz
               go_simp
               all_goals with_reducible rfl
             go_simp
             refine wpAnyH_take (i := 23) (v := ?_) rfl (by kernel_rfl) (by kernel_rfl) (by kernel_rfl) (fun _ _ _ h => h) (Or.inl ⟨by rfl, ?_⟩) (by assumption) ?_
             rotate_left
             · intro wz hSz
               go_simp
               all_goals with_reducible rfl
             go_simp
             refine wpAnyH_take (i := 24) (v := _) rfl (by kernel_rfl) (by kernel_rfl) (by kernel_rfl) (fun _ _ _ h => h) (Or.inr ⟨by rfl, rfl⟩) (by assumption) ?_
             go_simp
             refine wpAnyH_take (i := 25) (v := _) rfl (by kernel_rfl) (by kernel_rfl) (by kernel_rfl) (fun _ _ _ h => h) (Or.inr ⟨by rfl, rfl⟩) (by assumption) ?_
             go_simp
             refine wpAnyH_take (i := 26) (v := _) rfl (by kernel_rfl) (by kernel_rfl) (by kernel_rfl) (fun _ _ _ h => h) (Or.inr ⟨by rfl, rfl⟩) (by assumption) ?_
             go_simp
             refine wpAnyH_take (i := 27) (v := _) rfl (by kernel_rfl) (by kernel_rfl) (by kernel_rfl) (fun _ _ _ h => h) (Or.inr ⟨by rfl, rfl⟩) (by assumption) ?_
             go_simp
             refine wpAnyH_take (i := 28) (v := _) rfl (by kernel_rfl) (by kernel_rfl) (by kernel_rfl) (fun _ _ _ h => h) (Or.inr ⟨by rfl, rfl⟩) (by assumption) ?_
             go_simp
             refine wpAnyH_take (i := 29) (v := _) rfl (by kernel_rfl) (by kernel_rfl) (by kernel_rfl) (fun _ _ _ h => h) (Or.inr ⟨by rfl, rfl⟩) (by assumption) ?_
             go_simp
             refine wpAnyH_take (i := 30) (v := ?_) rfl (by kernel_rfl) (by kernel_rfl) (by kernel_rfl) (fun _ _ _ h => h) (Or.inl ⟨by rfl, ?_⟩) (by assumption) ?_
             rotate_left
             · intro wz hSz
               go_simp
               all_goals with_reducible rfl
             go_simp
             refine wpAnyH_take (i := 31) (v := ?_) rfl (by kernel_rfl) (by kernel_rfl) (by kernel_rfl) (fun _ _ _ h => h) (Or.inl ⟨by rfl, ?_⟩) (by assumption) ?_
             rotate_left
             · intro wz hSz
               go_simp
               all_goals with_reducible rfl
             go_simp
             refine wpAnyH_take (i := 32) (v := _) rfl (by kernel_rfl) (by kernel_rfl) (by kernel_rfl) (fun _ _ _ h => h) (Or.inr ⟨by rfl, rfl⟩) (by assumption) ?_
             go_simp
             refine wpAnyH_take (i := 33) (v := _) rfl (by kernel_rfl) (by kernel_rfl) (by kernel_rfl) (fun _ _ _ h => h) (Or.inr ⟨by rfl, rfl⟩) (by assumption) ?_
             go_simp
             refine wpAnyH_take (i := 34) (v := _) rfl (by kernel_rfl) (by kernel_rfl) (by kernel_rfl) (fun _ _ _ h => h) (Or.inr ⟨by rfl, rfl⟩) (by assumption) ?_
             go_simp
             refine wpAnyH_take (i := 35) (v := _) rfl (by kernel_rfl) (by kernel_rfl) (by kernel_rfl) (fun _ _ _ h => h) (Or.inr ⟨by rfl, rfl⟩) (by assumption) ?_
             go_simp
             refine wpAnyH_take (i := 36) (v := _) rfl (by kernel_rfl) (by kernel_rfl) (by kernel_rfl) (fun _ _ _ h => h) (Or.inr ⟨by rfl, rfl⟩) (by assumption) ?_
             go_simp
             refine wpAnyH_take (i := 37) (v := _) rfl (by kernel_rfl) (by kernel_rfl) (by kernel_rfl) (fun _ _ _ h => h) (Or.inr ⟨by rfl, rfl⟩) (by assumption) ?_
             go_simp
             refine wpAnyH_take (i := 38) (v := ?_) rfl (by kernel_rfl) (by kernel_rfl) (by kernel_rfl) (fun _ _ _ h => h) (Or.inl ⟨by rfl, ?_⟩) (by assumption) ?_
             rotate_left
             · intro wz hSz
               go_simp
               all_goals with_reducible rfl
             go_simp
             refine wpAnyH_done (by kernel_rfl) ?_ _
             go_wp2_with fail
             go_meet
             case rel => exact ⟨by rw [HF.out], hHeld.bel⟩
           have z1 : (id1 == id2) = true := by rw [beq_iff_eq]; exact g1
           have HCL1 : Hid (clB b b' = (!sm && (v1 == 0 && v2 == 0))) := by show _ = _; rw [HCL.out, z1]; rfl
           clear g1 HCL
           refine wpAnyH_take (i := 10) (v := ?_) rfl (by kernel_rfl) (by kernel_rfl) (by kernel_rfl) (fun _ _ _ h => h) (Or.inl ⟨by rfl, ?_⟩) (by assumption) ?_
           rotate_left
           · intro wz hSz
             go_simp
             all_goals with_reducible rfl
           go_simp
           refine wpAnyH_take (i := 11) (v := ?_) rfl (by kernel_rfl) (by kernel_rfl) (by kernel_rfl) (fun _ _ _ h => h) (Or.inl ⟨by rfl, ?_⟩) (by assumption) ?_
           rotate_left
           · intro wz hSz
             go_simp
             all_goals with_reducible rfl
           go_simp
           refine wpAnyH_take (i := 12) (v := ?_) rfl (by kernel_rfl) (by kernel_rfl) (by kernel_rfl) (fun _ _ _ h => h) (Or.inl ⟨by rfl, ?_⟩) (by assumption) ?_
           rotate_left
           · intro wz hSz
             go_simp
             all_goals with_reducible rfl
           go_simp
           refine wpAnyH_take (i := 13) (v := ?_) rfl (by kernel_rfl) (by kernel_rfl) (by kernel_rfl) (fun _ _ _ h => h) (Or.inl ⟨by rfl, ?_⟩) (by assumption) ?_
           rotate_left
           · intro wz hSz
             go_simp
             all_goals with_reducible rfl
           go_simp
           refine wpAnyH_take (i := 14) (v := ?_) rfl (by kernel_rfl) (by kernel_rfl) (by kernel_rfl) (fun _ _ _ h => h) (Or.inl ⟨by rfl, ?_⟩) (by assumption) ?_
           rotate_left
           · intro wz hSz
             go_simp
             all_goals with_reducible rfl
           go_simp
           refine wpAnyH_take (i := 15) (v := .agg (List.toArray [.int .u64 b.parent, .int .i64 b.height, .int .u64 b.miner, .int .u64 b.work, .int .u64 b.nonce, .slice xa b.txs.length xc])) rfl (by kernel_rfl) (by kernel_rfl) (by kernel_rfl) (fun _ _ _ h => h) (yieldsIf_load_mid (by rfl) _ _ rfl (b2) (o2 + i * 6) rfl [.int .u64 b.parent, .int .i64 b.height, .int .u64 b.miner, .int .u64 b.work, .int .u64 b.nonce, .slice xa b.txs.length xc] _ (fun wz hSz => hSz.r1) Tryz.underlying34 rfl (by kernel_rfl)) (by assumption) ?_
           go_simp
           refine wpAnyH_take (i := 16) (v := ?_) rfl (by kernel_rfl) (by kernel_rfl) (by kernel_rfl) (fun _ _ _ h => h) (Or.inl ⟨by rfl, ?_⟩) (by assumption) ?_
           rotate_left
           · intro wz hSz
             go_simp
             all_goals with_reducible rfl
           go_simp
           refine wpAnyH_take (i := 17) (v := ?_) rfl (by kernel_rfl) (by kernel_rfl) (by kernel_rfl) (fun _ _ _ h => h) (Or.inl ⟨by rfl, ?_⟩) (by assumption) ?_
           rotate_left
           · intro wz hSz
             go_simp
             all_goals with_reducible rfl
           go_simp
           refine wpAnyH_take (i := 18) (v := ?_) rfl (by kernel_rfl) (by kernel_rfl) (by kernel_rfl) (fun _ _ _ h => h) (Or.inl ⟨by rfl, ?_⟩) (by assumption) ?_
           rotate_left
           · intro wz hSz
             go_simp
             all_goals with_reducible rfl
           go_simp
           refine wpAnyH_take (i := 19) (v := .agg (List.toArray [.int .u64 b'.parent, .int .i64 b'.height, .int .u64 b'.miner, .int .u64 b'.work, .int .u64 b'.nonce, .slice xa' b'.txs.length xc'])) rfl (by kernel_rfl) (by kernel_rfl) (by kernel_rfl) (fun _ _ _ h => h) (yieldsIf_load_mid (by rfl) _ _ rfl (b2) (o2 + k * 6) rfl [.int .u64 b'.parent, .int .i64 b'.height, .int .u64 b'.miner, .int .u64 b'.work, .int .u64 b'.nonce, .slice xa' b'.txs.length xc'] _ (fun wz hSz => hSz.r2) Tryz.underlying34 rfl (by kernel_rfl)) (by assumption) ?_
           go_simp
           refine wpAnyH_ready (rs := [20]) (by kernel_rfl) (by simp) ?_
           refine AllReadyH.cons rfl (fun K hK => ?_) AllReadyH.nil
           go_simp
           go_at_call 22
           refine (sameBlk_any _ _ _ b b' xa xa' xc xc' (HI.out.keepB hHeld.bel) (HI'.out.keepB hHeld.bel) HMB.out.1 HMB'.out.1 HMB.out.2).mono ?_
           rintro e wa ⟨rfl, hba⟩; clear HBN; have HBN := Lib.hid (bnext hHeld.bel hba); clear hba
           (try go_wp2_with fail)
           clear hHeld
           refine hK.out _ _ (RngS.of HR1.out HR2.out HBN.out) (fun hHeld => ?_)
           clear hK K
           go_simp
           rw [HSM.out]
           cases sm with
           | true =>
             have HF : Hid (clB b b' = false) := by show _ = _; rw [HCL1.out]; rfl
             refine wpAnyH_take (i := 21) (v := ?_) rfl (by kernel_rfl) (by kernel_rfl) (by kernel_rfl) (fun _ _ _ h => h) (Or.inl ⟨by rfl, ?_⟩) (by assumption) ?_
             rotate_left
             · intro wz hSz
               go_simp
               all_goals with_reducible rfl
             go_simp
             refine wpAnyH_take (i := 22) (v := ?_) rfl (by kernel_rfl) (by kernel_rfl) (by kernel_rfl) (fun _ _ _ h => h) (Or.inl ⟨by rfl, ?_⟩) (by assumption) ?_
             rotate_left
             · intro wz hSz
               go_simp
               all_goals with_reducible rfl
             go_simp
             refine wpAnyH_take (i := 23) (v := ?_) rfl (by kernel_rfl) (by kernel_rfl) (by kernel_rfl) (fun _ _ _ h => h) (Or.inl ⟨by rfl, ?_⟩) (by assumption) ?_
             rotate_left
             · intro wz hSz
               go_simp
               all_goals with_reducible rfl
             go_simp
             refine wpAnyH_take (i := 24) (v := _) rfl (by kernel_rfl) (by kernel_rfl) (by kernel_rfl) (fun _ _ _ h => h) (Or.inr ⟨by rfl, rfl⟩) (by assumption) ?_
             go_simp
             refine wpAnyH_take (i := 25) (v := _) rfl (by kernel_rfl) (by kernel_rfl) (by kernel_rfl) (fun _ _ _ h => h) (Or.inr ⟨by rfl, rfl⟩) (by assumption) ?_
             go_simp
             refine wpAnyH_take (i := 26) (v := _) rfl (by kernel_rfl) (by kernel_rfl) (by kernel_rfl) (fun _ _ _ h => h) (Or.inr ⟨by rfl, rfl⟩) (by assumption) ?_
             go_simp
             refine wpAnyH_take (i := 27) (v := _) rfl (by kernel_rfl) (by kernel_rfl) (by kernel_rfl) (fun _ _ _ h => h) (Or.inr ⟨by rfl, rfl⟩) (by assumption) ?_
             go_simp
             refine wpAnyH_take (i := 28) (v := _) rfl (by kernel_rfl) (by kernel_rfl) (by kernel_rfl) (fun _ _ _ h => h) (Or.inr ⟨by rfl, rfl⟩) (by assumption) ?_
             go_simp
             refine wpAnyH_take (i := 29) (v := _) rfl (by kernel_rfl) (by kernel_rfl) (by kernel_rfl) (fun _ _ _ h => h) (Or.inr ⟨by rfl, rfl⟩) (by assumption) ?_
             go_simp
             refine wpAnyH_take (i := 30) (v := ?_) rfl (by kernel_rfl) (by kernel_rfl) (by kernel_rfl) (fun _ _ _ h => h) (Or.inl ⟨by rfl, ?_⟩) (by assumption) ?_
             rotate_left
             · intro wz hSz
               go_simp
               all_goals with_reducible rfl
             go_simp
             refine wpAnyH_take (i := 31) (v := ?_) rfl (by kernel_rfl) (by kernel_rfl) (by kernel_rfl) (fun _ _ _ h => h) (Or.inl ⟨by rfl, ?_⟩) (by assumption) ?_
             rotate_left
             · intro wz hSz
               go_simp
               all_goals with_reducible rfl
             go_simp
             refine wpAnyH_take (i := 32) (v := _) rfl (by kernel_rfl) (by kernel_rfl) (by kernel_rfl) (fun _ _ _ h => h) (Or.inr ⟨by rfl, rfl⟩) (by assumption) ?_
             go_simp
             refine wpAnyH_take (i := 33) (v := _) rfl (by kernel_rfl) (by kernel_rfl) (by kernel_rfl) (fun _ _ _ h => h) (Or.inr ⟨by rfl, rfl⟩) (by assumption) ?_
             go_simp
             refine wpAnyH_take (i := 34) (v := _) rfl (by kernel_rfl) (by kernel_rfl) (by kernel_rfl) (fun _ _ _ h => h) (Or.inr ⟨by rfl, rfl⟩) (by assumption) ?_
             go_simp
             refine wpAnyH_take (i := 35) (v := _) rfl (by kernel_rfl) (by kernel_rfl) (by kernel_rfl) (fun _ _ _ h => h) (Or.inr ⟨by rfl, rfl⟩) (by assumption) ?_
             go_simp
             refine wpAnyH_take (i := 36) (v := _) rfl (by kernel_rfl) (by kernel_rfl) (by kernel_rfl) (fun _ _ _ h => h) (Or.inr ⟨by rfl, rfl⟩) (by assumption) ?_
             go_simp
             refine wpAnyH_take (i := 37) (v := _) rfl (by kernel_rfl) (by kernel_rfl) (by kernel_rfl) (fun _ _ _ h => h) (Or.inr ⟨by rfl, rfl⟩) (by assumption) ?_
             go_simp
             refine wpAnyH_take (i := 38) (v := ?_) rfl (by kernel_rfl) (by kernel_rfl) (by kernel_rfl) (fun _ _ _ h => h) (Or.inl ⟨by rfl, ?_⟩) (by assumption) ?_
             rotate_left
             · intro wz hSz
               go_simp
               all_goals with_reducible rfl
             go_simp
             refine wpAnyH_done (by kernel_rfl) ?_ _
             go_wp2_with fail
             go_meet
             case rel => exact ⟨by rw [HF.out], hHeld.bel⟩
           | false =>
             refine wpAnyH_take (i := 21) (v := ?_) rfl (by kernel_rfl) (by kernel_rfl) (by kernel_rfl) (fun _ _ _ h => h) (Or.inl ⟨by rfl, ?_⟩) (by assumption) ?_
             rotate_left
             · intro wz hSz
               go_simp
               all_goals with_reducible rfl
             go_simp
             refine wpAnyH_take (i := 22) (v := ?_) rfl (by kernel_rfl) (by kernel_rfl) (by kernel_rfl) (fun _ _ _ h => h) (Or.inl ⟨by rfl, ?_⟩) (by assumption) ?_
             rotate_left
             · intro wz hSz
               go_simp
               all_goals with_reducible rfl
             go_simp
             refine wpAnyH_take (i := 23) (v := ?_) rfl (by kernel_rfl) (by kernel_rfl) (by kernel_rfl) (fun _ _ _ h => h) (Or.inl ⟨by rfl, ?_⟩) (by assumption) ?_
             rotate_left
             · intro wz hSz
               go_simp
               all_goals with_reducible rfl
             go_simp
             refine wpAnyH_take (i := 24) (v := ?_) rfl (by kernel_rfl) (by kernel_rfl) (by kernel_rfl) (fun _ _ _ h => h) (Or.inl ⟨by rfl, ?_⟩) (by assumption) ?_
             rotate_left
             · intro wz hSz
               go_simp
               all_goals with_reducible rfl
             go_simp
             refine wpAnyH_take (i := 25) (v := ?_) rfl (by kernel_rfl) (by kernel_rfl) (by kernel_rfl) (fun _ _ _ h => h) (Or.inl ⟨by rfl, ?_⟩) (by assumption) ?_
             rotate_left
             · intro wz hSz
               go_simp
               all_goals with_reducible rfl
             go_simp
             refine wpAnyH_take (i := 26) (v := ?_) rfl (by kernel_rfl) (by kernel_rfl) (by kernel_rfl) (fun _ _ _ h => h) (Or.inl ⟨by rfl, ?_⟩) (by assumption) ?_
             rotate_left
             · intro wz hSz
               go_simp
               all_goals with_reducible rfl
             go_simp
             refine wpAnyH_take (i := 27) (v := .agg (List.toArray [.int .u64 b.parent, .int .i64 b.height, .int .u64 b.miner, .int .u64 b.work, .int .u64 b.nonce, .slice xa b.txs.length xc])) rfl (by kernel_rfl) (by kernel_rfl) (by kernel_rfl) (fun _ _ _ h => h) (yieldsIf_load_mid (by rfl) _ _ rfl (b2) (o2 + i * 6) rfl [.int .u64 b.parent, .int .i64 b.height, .int .u64 b.miner, .int .u64 b.work, .int .u64 b.nonce, .slice xa b.txs.length xc] _ (fun wz hSz => hSz.r1) Tryz.underlying34 rfl (by kernel_rfl)) (by assumption) ?_
             go_simp
             refine wpAnyH_ready (rs := [28]) (by kernel_rfl) (by simp) ?_
             refine AllReadyH.cons rfl (fun K hK => ?_) AllReadyH.nil
             go_simp
             go_at_call 23
             refine (rblkValid_any _ _ b xa xc (HI.out.keepB hHeld.bel)).mono ?_
             rintro e wa ⟨rfl, hba⟩; clear HBN; have HBN := Lib.hid (bnext hHeld.bel hba); clear hba
             (try go_wp2_with fail)
             clear hHeld
             refine hK.out _ _ (RngS.of HR1.out HR2.out HBN.out) (fun hHeld => ?_)
             clear hK K
             go_simp
             rw [HV1.out]
             by_cases g2 : v1 = 0
             rotate_left
             · have z2 : (v1 == 0) = false := by rw [beq_eq_false_iff_ne]; exact g2
               have HF : Hid (clB b b' = false) := by show _ = _; rw [HCL1.out, z2]; rfl
               clear g2
               refine wpAnyH_take (i := 29) (v := ?_) rfl (by kernel_rfl) (by kernel_rfl) (by kernel_rfl) (fun _ _ _ h => h) (Or.inl ⟨by rfl, ?_⟩) (by assumption) ?_
               rotate_left
               · intro wz hSz
                 go_simp
                 all_goals with_reducible rfl
               go_simp
               refine wpAnyH_take (i := 30) (v := ?_) rfl (by kernel_rfl) (by kernel_rfl) (by kernel_rfl) (fun _ _ _ h => h) (Or.inl ⟨by rfl, ?_⟩) (by assumption) ?_
               rotate_left
               · intro wz hSz
                 go_simp
                 all_goals with_reducible rfl
               go_simp
               refine wpAnyH_take (i := 31) (v := ?_) rfl (by kernel_rfl) (by kernel_rfl) (by kernel_rfl) (fun _ _ _ h => h) (Or.inl ⟨by rfl, ?_⟩) (by assumption) ?_
               rotate_left
               · intro wz hSz
                 go_simp
                 all_goals with_reducible rfl
               go_simp
               refine wpAnyH_take (i := 32) (v := _) rfl (by kernel_rfl) (by kernel_rfl) (by kernel_rfl) (fun _ _ _ h => h) (Or.inr ⟨by rfl, rfl⟩) (by assumption) ?_
               go_simp
               refine wpAnyH_take (i := 33) (v := _) rfl (by kernel_rfl) (by kernel_rfl) (by kernel_rfl) (fun _ _ _ h => h) (Or.inr ⟨by rfl, rfl⟩) (by assumption) ?_
               go_simp
               refine wpAnyH_take (i := 34) (v := _) rfl (by kernel_rfl) (by kernel_rfl) (by kernel_rfl) (fun _ _ _ h => h) (Or.inr ⟨by rfl, rfl⟩) (by assumption) ?_
               go_simp
               refine wpAnyH_take (i := 35) (v := _) rfl (by kernel_rfl) (by kernel_rfl) (by kernel_rfl) (fun _ _ _ h => h) (Or.inr ⟨by rfl, rfl⟩) (by assumption) ?_
               go_simp
               refine wpAnyH_take (i := 36) (v := _) rfl (by kernel_rfl) (by kernel_rfl) (by kernel_rfl) (fun _ _ _ h => h) (Or.inr ⟨by rfl, rfl⟩) (by assumption) ?_
               go_simp
               refine wpAnyH_take (i := 37) (v := _) rfl (by kernel_rfl) (by kernel_rfl) (by kernel_rfl) (fun _ _ _ h => h) (Or.inr ⟨by rfl, rfl⟩) (by assumption) ?_
               go_simp
               refine wpAnyH_take (i := 38) (v := ?_) rfl (by kernel_rfl) (by kernel_rfl) (by kernel_rfl) (fun _ _ _ h => h) (Or.inl ⟨by rfl, ?_⟩) (by assumption) ?_
               rotate_left
               · intro wz hSz
                 go_simp
                 all_goals with_reducible rfl
               go_simp
               refine wpAnyH_done (by kernel_rfl) ?_ _
               go_wp2_with fail
               go_meet
               case rel => exact ⟨by rw [HF.out], hHeld.bel⟩
             have z2 : (v1 == 0) = true := by rw [beq_iff_eq]; exact g2
             have HF : Hid (clB b b' = (v2 == 0)) := by show _ = _; rw [HCL1.out, z2]; rfl
             clear g2
             refine wpAnyH_take (i := 29) (v := ?_) rfl (by kernel_rfl) (by kernel_rfl) (by kernel_rfl) (fun _ _ _ h => h) (Or.inl ⟨by rfl, ?_⟩) (by assumption) ?_
             rotate_left
             · intro wz hSz
               go_simp
               all_goals with_reducible rfl
             go_simp
             refine wpAnyH_take (i := 30) (v := ?_) rfl (by kernel_rfl) (by kernel_rfl) (by kernel_rfl) (fun _ _ _ h => h) (Or.inl ⟨by rfl, ?_⟩) (by assumption) ?_
             rotate_left
             · intro wz hSz
               go_simp
               all_goals with_reducible rfl
             go_simp
             refine wpAnyH_take (i := 31) (v := ?_) rfl (by kernel_rfl) (by kernel_rfl) (by kernel_rfl) (fun _ _ _ h => h) (Or.inl ⟨by rfl, ?_⟩) (by assumption) ?_
             rotate_left
             · intro wz hSz
               go_simp
               all_goals with_reducible rfl
             go_simp
             refine wpAnyH_take (i := 32) (v := ?_) rfl (by kernel_rfl) (by kernel_rfl) (by kernel_rfl) (fun _ _ _ h => h) (Or.inl ⟨by rfl, ?_⟩) (by assumption) ?_
             rotate_left
             · intro wz hSz
               go_simp
               all_goals with_reducible rfl
             go_simp
             refine wpAnyH_take (i := 33) (v := ?_) rfl (by kernel_rfl) (by kernel_rfl) (by kernel_rfl) (fun _ _ _ h => h) (Or.inl ⟨by rfl, ?_⟩) (by assumption) ?_
             rotate_left
             · intro wz hSz
               go_simp
               all_goals with_reducible rfl
             go_simp
             refine wpAnyH_take (i := 34) (v := ?_) rfl (by kernel_rfl) (by kernel_rfl) (by kernel_rfl) (fun _ _ _ h => h) (Or.inl ⟨by rfl, ?_⟩) (by assumption) ?_
             rotate_left
             · intro wz hSz
               go_simp
               all_goals with_reducible rfl
             go_simp
             refine wpAnyH_take (i := 35) (v := .agg (List.toArray [.int .u64 b'.parent, .int .i64 b'.height, .int .u64 b'.miner, .int .u64 b'.work, .int .u64 b'.nonce, .slice xa' b'.txs.length xc'])) rfl (by kernel_rfl) (by kernel_rfl) (by kernel_rfl) (fun _ _ _ h => h) (yieldsIf_load_mid (by rfl) _ _ rfl (b2) (o2 + k * 6) rfl [.int .u64 b'.parent, .int .i64 b'.height, .int .u64 b'.miner, .int .u64 b'.work, .int .u64 b'.nonce, .slice xa' b'.txs.length xc'] _ (fun wz hSz => hSz.r2) Tryz.underlying34 rfl (by kernel_rfl)) (by assumption) ?_
             go_simp
             refine wpAnyH_ready (rs := [36]) (by kernel_rfl) (by simp) ?_
             refine AllReadyH.cons rfl (fun K hK => ?_) AllReadyH.nil
             go_simp
             go_at_call 23
             refine (rblkValid_any _ _ b' xa' xc' (HI'.out.keepB hHeld.bel)).mono ?_
             rintro e wa ⟨rfl, hba⟩; clear HBN; have HBN := Lib.hid (bnext hHeld.bel hba); clear hba
             (try go_wp2_with fail)
             clear hHeld
             refine hK.out _ _ (RngS.of HR1.out HR2.out HBN.out) (fun hHeld => ?_)
             clear hK K
             go_simp
             rw [HV2.out]
             refine wpAnyH_take (i := 37) (v := ?_) rfl (by kernel_rfl) (by kernel_rfl) (by kernel_rfl) (fun _ _ _ h => h) (Or.inl ⟨by rfl, ?_⟩) (by assumption) ?_
             rotate_left
             · intro wz hSz
               go_simp
               all_goals with_reducible rfl
             go_simp
             refine wpAnyH_take (i := 38) (v := ?_) rfl (by kernel_rfl) (by kernel_rfl) (by kernel_rfl) (fun _ _ _ h => h) (Or.inl ⟨by rfl, ?_⟩) (by assumption) ?_
             rotate_left
             · intro wz hSz
               go_simp
               all_goals with_reducible rfl
             go_simp
             refine wpAnyH_done (by kernel_rfl) ?_ _
             go_wp2_with fail
             go_meet
             case rel => exact ⟨by rw [HF.out], hHeld.bel⟩
         case rest =>
           obtain ⟨rfl, HBC⟩ := hcut; have HB2 := Lib.hid (bnext HBR.out HBC.out); clear HBC HBR c0 c1 c2 c3 c4 c5 e0 e1 e2 e3 e4 e5
           cases hc : clB b b' with
           | true =>
             go_wp2_with fail; go_ret
             exact ⟨true, rfl, fun h => by simp at h, HB2.out⟩
           | false =>
             have HQ2 := Lib.hid (HNX.out hc); clear hc; go_wp2_with fail
             go_roundw
             case rel => exact ⟨k + 1, by omega, by go_num, HQ2, HB2⟩
             case measure => simp [intOf]; omega
       · obtain rfl : k = i := by omega
         have HN2 : Hid (noClB l (k + 1)) := fun p q hp hq h1 h2 => by
           by_cases e : p = k
           · subst e; exact HQ.out q hq h2
           · exact HN.out p q hp hq (by omega) h2
         go_wp2_with fail
         go_roundw
         case rel => exact ⟨k + 1, by omega, by go_num, HN2, HBR⟩
         case measure => simp [intOf]; omega
   · obtain rfl : i = l.length := by omega
     go_wp2_with fail; go_ret
     exact ⟨false, rfl, fun _ => noClash_of HN.out, HBR.out⟩
end Go.Proofs.YtcnhicijimiegaaGreatDoor
