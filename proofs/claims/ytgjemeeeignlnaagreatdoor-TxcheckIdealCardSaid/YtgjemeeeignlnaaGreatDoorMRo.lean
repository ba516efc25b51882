/- The reference's ideal oracle: draws, and what it has proved. -/
import Derived.Test.YtgjemeeeignlnaaGreatDoorMOr
import Derived.Test.YtgjemeeeignlnaaGreatDoorMKit
import Derived.Test.YtgjemeeeignlnaaGreatDoorMRef
import Derived.Test.YtgjemeeeignlnaaGreatDoorMTxR
namespace Go.Proofs.YtgjemeeeignlnaaGreatDoor
open Go.ChangeShapes Go.WideShapes Go.ChangeAt Go.RowKit

/-- An oracle of the reference, as a struct. -/
abbrev moV (st n : Int) (pa : Option Addr) (pl pc : Nat) : Array Value := #[.int .u64 st, .int .i64 n, .slice none 0 0, .slice none 0 0, .slice pa pl pc]
set_option maxRecDepth 100000 in
set_option maxHeartbeats 2000000 in
theorem rdraw_any (w : World) (st n : Int) (n0 : 0 ≤ n) (n1 : n < 1000000) (pa : Option Addr) (pl pc : Nat) :
    Calls Tryz.prog 47 #[.agg #[.int .u64 st, .int .i64 n, .slice none 0 0, .slice none 0 0, .slice pa pl pc]] w fun e w' =>
      e = .returned (.tuple #[.int .u64 (drawZ (nextS st)), .agg #[.int .u64 (nextS st), .int .i64 (n + 1), .slice none 0 0, .slice none 0 0, .slice pa pl pc]]) ∧ Below w.heap.size w w' := by
  go_enter Tryz.func47, Tryz.ntmps47
  go_wp2
  go_region
  go_wp2
  refine bodyPost_ret (v := .tuple #[.int .u64 (drawZ (nextS st)), .agg #[.int .u64 (nextS st), .int .i64 (n + 1), .slice none 0 0, .slice none 0 0, .slice pa pl pc]]) (by simp [results, Tryz.results47, go_sem]; exact ⟨rfl, rfl⟩) rfl ?_
  exact ⟨rfl, (bnew (bnew (Below.refl _ _) _) _).drew⟩
theorem put5 {w : World} {q : Nat} {a b c d e v0 v1 v2 v3 v4 : Value} {t : TypeId} (h : w.heap[q]? = some (.cells #[a, b, c, d, e] t (0, 0))) :
    (((((w.setCell ⟨q, 0, none⟩ v0).setCell ⟨q, 1, none⟩ v1).setCell ⟨q, 2, none⟩ v2).setCell ⟨q, 3, none⟩ v3).setCell ⟨q, 4, none⟩ v4).heap[q]? = some (.cells #[v0, v1, v2, v3, v4] t (0, 0)) :=
  box_set (box_set (box_set (box_set (box_set h))))
theorem drewHeap (w : World) : w.drew.heap = w.heap := rfl
theorem put5d {w : World} {q : Nat} {a b c d e v0 v1 v2 v3 v4 : Value} {t : TypeId} (h : w.heap[q]? = some (.cells #[a, b, c, d, e] t (0, 0))) :
    (((((w.setCell ⟨q, 0, none⟩ v0).setCell ⟨q, 1, none⟩ v1).setCell ⟨q, 2, none⟩ v2).setCell ⟨q, 3, none⟩ v3).setCell ⟨q, 4, none⟩ v4).drew.heap[q]? = some (.cells #[v0, v1, v2, v3, v4] t (0, 0)) := by
  rw [drewHeap]; exact put5 h
theorem kept5 (w : World) {q : Nat} {S : Nat → Prop} (hq : ¬ S q) (v0 v1 v2 v3 v4 : Value) :
    Kept S w (((((w.setCell ⟨q, 0, none⟩ v0).setCell ⟨q, 1, none⟩ v1).setCell ⟨q, 2, none⟩ v2).setCell ⟨q, 3, none⟩ v3).setCell ⟨q, 4, none⟩ v4) :=
  (((((Kept.refl _ _).setCell (fun _ => hq) _).setCell (fun _ => hq) _).setCell (fun _ => hq) _).setCell (fun _ => hq) _).setCell (fun _ => hq) _
set_option maxRecDepth 100000 in
set_option maxHeartbeats 400000 in
theorem rseveral_any (w : World) (st n : Int) (n0 : 0 ≤ n) (n1 : n < 100000) (pa : Option Addr) (pl pc : Nat) (N : Nat) (hN : N ≤ 100000) :
    Calls Tryz.prog 29 #[.agg #[.int .u64 st, .int .i64 n, .slice none 0 0, .slice none 0 0, .slice pa pl pc], .int .i64 N] w fun e w' =>
      ∃ a cap, e = .returned (.tuple #[.slice a N cap, .agg #[.int .u64 (stN st N), .int .i64 (n + N), .slice none 0 0, .slice none 0 0, .slice pa pl pc]]) ∧ numsR.rel (fun k => w.heap.size ≤ k) w' [.slice a N cap] (drawsL st N) ∧ Below w.heap.size w w' := by
  obtain ⟨q2, q1⟩ := two_new w (.cells #[.int .u64 st, .int .i64 n, .slice none 0 0, .slice none 0 0, .slice pa pl pc] 42) (.cells #[.int .u64 0, .int .i64 0, .slice none 0 0, .slice none 0 0, .slice none 0 0] 42)
  have hb := bnew (bnew (Below.refl w.heap.size w) (.cells #[.int .u64 st, .int .i64 n, .slice none 0 0, .slice none 0 0, .slice pa pl pc] 42)) (.cells #[.int .u64 0, .int .i64 0, .slice none 0 0, .slice none 0 0, .slice none 0 0] 42)
  have hsz : w.heap.size + 2 ≤ ((w.alloc (.cells #[.int .u64 st, .int .i64 n, .slice none 0 0, .slice none 0 0, .slice pa pl pc] 42)).alloc (.cells #[.int .u64 0, .int .i64 0, .slice none 0 0, .slice none 0 0, .slice none 0 0] 42)).heap.size := by rw [World.size_alloc, World.size_alloc]; omega
  have Q1 := Lib.hid q1
  have Q2 := Lib.hid q2
  have HB := Lib.hid hb
  have HSZ := Lib.hid hsz
  clear q1 q2 hb hsz
  go_enter Tryz.func29, Tryz.ntmps29
  go_wp2_with fail
  generalize (w.alloc (.cells #[.int .u64 st, .int .i64 n, .slice none 0 0, .slice none 0 0, .slice pa pl pc] 42)).alloc (.cells #[.int .u64 0, .int .i64 0, .slice none 0 0, .slice none 0 0, .slice none 0 0] 42) = W at *
  obtain ⟨G, hG⟩ : ∃ G, w.heap.size = G := ⟨_, rfl⟩
  have HGW := Lib.hid hG
  rw [hG] at Q1 Q2 HSZ ⊢
  clear hG
  go_loopw [6, 7] (fun vo vi wr => ∃ k : Nat, k ≤ N ∧ vi = .int .i64 k ∧ Hid (Own u64R (G + 2) 24 (fun x => False ∨ G + 2 ≤ x) wr vo (drawsL st k)) ∧ wr.heap[G]? = some (.cells #[.int .u64 (stN st k), .int .i64 (n + k), .slice none 0 0, .slice none 0 0, .slice pa pl pc] 42 (0, 0)) ∧
    wr.heap[G + 1]? = some (.cells #[.int .u64 0, .int .i64 0, .slice none 0 0, .slice none 0 0, .slice none 0 0] 42 (0, 0)) ∧ G + 2 ≤ wr.heap.size ∧ Hid (Below w.heap.size w wr)) (fun _ vi _ => N - (intOf vi).toNat)
  case atStart => exact ⟨0, Nat.zero_le _, rfl, Own.nil _ _ _ _ _, by simpa [stN] using Q1.out, Q2.out, HSZ.out, HB.out⟩
  case round =>
    obtain ⟨k, hk, rfl, hor, hm, hr, hs, hbr⟩ := hrel
    have HM := Lib.hid hm
    have HR := Lib.hid hr
    by_cases hks : k < N
    · obtain ⟨x0, x1⟩ := box_cells hm
      have hdr : drawsL st (k + 1) = drawsL st k ++ [drawZ (nextS (stN st k))] := rfl
      have hst : stN st (k + 1) = nextS (stN st k) := rfl
      have hxz := drawZ_in (nextS (stN st k))
      have HD := Lib.hid hdr
      have HST := Lib.hid hst
      have hl := drawsL_len st k
      clear hm hr hdr hst
      go_wp2_with fail
      refine (rdraw_any wr (stN st k) (n + k) (by omega) (by omega) pa pl pc).mono ?_
      rintro e w3 ⟨rfl, hb3⟩
      have hnn : (n : Int) + k + 1 = n + ((k + 1 : Nat) : Int) := by omega
      obtain ⟨x, hxe⟩ : ∃ x, drawZ (nextS (stN st k)) = x := ⟨_, rfl⟩
      rw [hxe] at HD hxz ⊢
      rw [hnn, ← HST.out]
      obtain ⟨n', hn'⟩ : ∃ n', n + ((k + 1 : Nat) : Int) = n' := ⟨_, rfl⟩
      have HN' := Lib.hid hn'
      rw [hn']
      obtain ⟨s', hs'⟩ : ∃ s', stN st (k + 1) = s' := ⟨_, rfl⟩
      have HS' := Lib.hid hs'
      rw [hs']
      clear hn' hs'
      have HXZ : Hid (u64R.rel (fun _ => False) w3 [.int .u64 x] x) := ⟨rfl, okU_of hxz.1 (by omega)⟩
      clear hxe hxz x0 x1 hnn
      have hm3 := box_after hb3 HM.out
      have hm4 := put5 (v0 := .int .u64 s') (v1 := .int .i64 n') (v2 := .slice none 0 0) (v3 := .slice none 0 0) (v4 := .slice pa pl pc) hm3
      have hk4 := fun (S : Nat → Prop) (hq : ¬ S G) => kept5 w3 hq (.int .u64 s') (.int .i64 n') (.slice none 0 0) (.slice none 0 0) (.slice pa pl pc)
      obtain ⟨y0, y1⟩ := box_cells hm3
      have HM4 := Lib.hid hm4
      have HK4 := Lib.hid hk4
      have HR3 := Lib.hid (box_after hb3 HR.out)
      have HO3 := Lib.hid (Own.keepB hor.out hb3)
      have hs3 : G + 2 ≤ w3.heap.size := Nat.le_trans hs hb3.size
      have HB3 := Lib.hid (hb3)
      have HL := Lib.hid hl
      have HS4 := Lib.hid (show G + 2 ≤ (((((w3.setCell ⟨G, 0, none⟩ (.int .u64 s')).setCell ⟨G, 1, none⟩ (.int .i64 n')).setCell ⟨G, 2, none⟩ (.slice none 0 0)).setCell ⟨G, 3, none⟩ (.slice none 0 0)).setCell ⟨G, 4, none⟩ (.slice pa pl pc)).heap.size from Nat.le_trans hs3 (hk4 (fun _ => False) id).size)
      have HO4 := Lib.hid (HO3.out.keep (hk4 (fun x => False ∨ G + 2 ≤ x) (fun h => by rcases (show False ∨ G + 2 ≤ G from h) with h | h; exact h; omega)))
      have HR4 := Lib.hid (box_kept (hk4 (fun x => x = G + 1) (fun h => by have h' : G = G + 1 := h; omega)) HR3.out rfl)
      have HXZ4 := Lib.hid (u64R.keep HXZ.out (hk4 (fun _ => False) id))
      have HB4 := Lib.hid (Kept.behind (bnext hbr.out hb3) (hk4 (fun x => x < w.heap.size) (fun h => by have h' : G < w.heap.size := h; have := HGW.out; omega)) (Nat.le_trans hbr.out.size hb3.size) (fun _ h => h))
      clear hm3 hm4 hk4 hb3 HM HR hl hs3 HO3 HR3 HXZ HB3
      go_upto_region 7 with (fail)
      generalize ((((w3.setCell ⟨G, 0, none⟩ (.int .u64 s')).setCell ⟨G, 1, none⟩ (.int .i64 n')).setCell ⟨G, 2, none⟩ (.slice none 0 0)).setCell ⟨G, 3, none⟩ (.slice none 0 0)).setCell ⟨G, 4, none⟩ (.slice pa pl pc) = wx at *
      go_wp2_with (at_builtin; refine wpList_push (r := u64R) (wr := wx) (es := [.int .u64 x]) (v := u6) (w0 := wx) (B := G + 2) rfl _ _ rfl Tryz.etyNums rfl rfl (Below.refl _ _) HS4.out HO4.out HXZ4.out (fun x hx => hx.elim) (by unfold maxLen; have := HL.out; omega) (by have := HL.out; omega) ?_)
      intro v2 w4 ho4 hb4
      have ho5 : Own u64R (G + 2) 24 (fun x => False ∨ G + 2 ≤ x) w4 v2 (drawsL st k ++ [x]) := Own.mono ho4 fun x _ h => by first | exact h | exact .inr h
      rw [← HD.out] at ho5
      have HO5 := Lib.hid ho5
      have HM5 := Lib.hid ((hb4.block G (by omega)).trans HM4.out)
      have HR5 := Lib.hid ((hb4.block (G + 1) (by omega)).trans HR4.out)
      have HB5 : Hid (Below w.heap.size w w4) := HB4.out.trans (hb4.mono (by have := HGW.out; omega))
      have HS5 := Lib.hid (Nat.le_trans HS4.out hb4.size)
      clear ho4 ho5
      go_wp2_with fail
      go_roundw
      case rel => exact ⟨k + 1, by omega, by go_num, HO5.out, by rw [HS'.out, HN'.out]; exact HM5.out, HR5.out, HS5.out, HB5.out⟩
      case measure => simp [intOf]; omega
    · obtain rfl : k = N := by omega
      have hl := drawsL_len st k
      obtain ⟨oa, oc, rfl, -, -⟩ := sliceR.form hor.out.slice
      have HSL := Lib.hid hor.out.slice
      rw [hl] at HSL ⊢
      obtain ⟨x0, x1⟩ := box_cells hm
      obtain ⟨y0, y1⟩ := box_cells hr
      have hr5 : (((((wr.setCell ⟨G + 1, 0, none⟩ (.int .u64 (stN st k))).setCell ⟨G + 1, 1, none⟩ (.int .i64 (n + k))).setCell ⟨G + 1, 2, none⟩ (.slice none 0 0)).setCell ⟨G + 1, 3, none⟩ (.slice none 0 0)).setCell ⟨G + 1, 4, none⟩ (.slice pa pl pc)).drew.heap[G + 1]? = some (.cells #[.int .u64 (stN st k), .int .i64 (n + k), .slice none 0 0, .slice none 0 0, .slice pa pl pc] 42 (0, 0)) := put5d (v0 := .int .u64 (stN st k)) (v1 := .int .i64 (n + k)) (v2 := .slice none 0 0) (v3 := .slice none 0 0) (v4 := .slice pa pl pc) hr
      have hk5 : ∀ (S : Nat → Prop) (hq : ¬ S (G + 1)), Kept S wr (((((wr.setCell ⟨G + 1, 0, none⟩ (.int .u64 (stN st k))).setCell ⟨G + 1, 1, none⟩ (.int .i64 (n + k))).setCell ⟨G + 1, 2, none⟩ (.slice none 0 0)).setCell ⟨G + 1, 3, none⟩ (.slice none 0 0)).setCell ⟨G + 1, 4, none⟩ (.slice pa pl pc)).drew := fun S hq => (kept5 wr hq (.int .u64 (stN st k)) (.int .i64 (n + k)) (.slice none 0 0) (.slice none 0 0) (.slice pa pl pc)).drew
      have HR5 := Lib.hid hr5
      have HK5 := Lib.hid hk5
      clear hl hm hr hr5 hk5
      go_wp2
      go_region
      generalize (((((wr.setCell ⟨G + 1, 0, none⟩ (.int .u64 (stN st k))).setCell ⟨G + 1, 1, none⟩ (.int .i64 (n + k))).setCell ⟨G + 1, 2, none⟩ (.slice none 0 0)).setCell ⟨G + 1, 3, none⟩ (.slice none 0 0)).setCell ⟨G + 1, 4, none⟩ (.slice pa pl pc)).drew = wx at *
      obtain ⟨z0, z1⟩ := box_cells HR5.out
      go_wp2
      refine bodyPost_ret (v := .tuple #[.slice oa k oc, .agg #[.int .u64 (stN st k), .int .i64 (n + k), .slice none 0 0, .slice none 0 0, .slice pa pl pc]]) (by simp [results, Tryz.results29, go_sem, z0]) rfl ?_
      refine ⟨_, _, rfl, ?_, ?_⟩
      · exact numsR.mono (numsR.keep HSL.out (HK5.out (fun x => False ∨ G + 2 ≤ x) (fun h => by rcases (show False ∨ G + 2 ≤ G + 1 from h) with h | h; exact h; omega))) fun i _ h => by rcases (show False ∨ G + 2 ≤ i from h) with h | h; exact h.elim; have := HGW.out; omega
      · exact Kept.behind hbr.out (HK5.out (fun x => x < w.heap.size) (fun h => by have h' : G + 1 < w.heap.size := h; have := HGW.out; omega)) hbr.out.size (fun _ h => h)
end Go.Proofs.YtgjemeeeignlnaaGreatDoor
/- The reference's ideal oracle: equal lists, Prove, Proved. -/
namespace Go.Proofs.YtgjemeeeignlnaaGreatDoor
open Go.ChangeShapes Go.WideShapes Go.ChangeAt Go.RowKit Go.Sort

theorem nums_cell {S : Nat → Prop} {w : World} {a : Option Addr} {len cap : Nat} {l : List Int} (h : numsR.rel S w [.slice a len cap] l) (k : Nat) (hk : k < l.length) : ∃ b off, a = some ⟨b, off, none⟩ ∧ w.cell? ⟨b, off + k, none⟩ = some (.int .u64 l[k]) := by
  obtain ⟨b, off, h1, -, -, -, hc⟩ := nums_at h k hk
  exact ⟨b, off, h1, hc⟩
def sameTo (l m : List Int) (k : Nat) : Prop := ∀ j, j < k → l.getD j 0 = m.getD j 0
theorem same_of {l m : List Int} (h : l.length = m.length) (hs : sameTo l m l.length) : l = m := by
  apply List.ext_getElem h
  intro j h1 h2
  have := hs j h1
  rwa [getD_at l 0 j h1, getD_at m 0 j h2] at this
set_option maxRecDepth 100000 in
set_option maxHeartbeats 2000000 in
theorem rsame_any (S S' : Nat → Prop) (w : World) (a b : Option Addr) (la lb ca cb : Nat) (l m : List Int) (hla : l.length = la) (hlb : m.length = lb) (h : numsR.rel S w [.slice a la ca] l) (h' : numsR.rel S' w [.slice b lb cb] m) (hm : la ≤ 1000000) :
    Calls Tryz.prog 12 #[.slice a la ca, .slice b lb cb] w fun e w' => e = .returned (.bool (decide (l = m))) ∧ Below w.heap.size w w' := by
  have H := Lib.hid h
  have H' := Lib.hid h'
  have HA := Lib.hid hla
  have HB := Lib.hid hlb
  clear h h'
  by_cases hll : la = lb
  · have z1 : ((la : Int) == (lb : Int)) = true := by rw [beq_iff_eq]; omega
    have z2 : ((la : Int) != (lb : Int)) = false := by rw [bne_eq_false_iff_eq]; omega
    have HLL := Lib.hid hll
    clear hla hlb hll
    go_enter Tryz.func12, Tryz.ntmps12
    go_wp2_with fail
    go_loopw [5] (fun vi wr => ∃ k : Nat, k ≤ la ∧ vi = .int .i64 k ∧ Hid (sameTo l m k) ∧ Below w.heap.size w wr) (fun vi _ => la - (intOf vi).toNat)
    case atStart => exact ⟨0, Nat.zero_le _, rfl, fun j h => absurd h (Nat.not_lt_zero _), Below.refl _ _⟩
    case round =>
      obtain ⟨k, hk, rfl, hs, hbr⟩ := hrel
      by_cases hlt : k < la
      · obtain ⟨b1, o1, rfl, c1⟩ := nums_cell (numsR.keepB H.out hbr) k (by have := HA.out; omega)
        obtain ⟨b2, o2, rfl, c2⟩ := nums_cell (numsR.keepB H'.out hbr) k (by have := HB.out; have := HLL.out; omega)
        have HX : Hid (l.getD k 0 = l[k]'(by have := HA.out; omega)) := getD_at l 0 k _
        have HY : Hid (m.getD k 0 = m[k]'(by have := HB.out; have := HLL.out; omega)) := getD_at m 0 k _
        generalize l[k]'(by have := HA.out; omega) = x at *
        generalize m[k]'(by have := HB.out; have := HLL.out; omega) = y at *
        have x0 := cell_in c1
        have y0 := cell_in c2
        have hkb : k < lb := by have := HLL.out; omega
        have i0 : (0 : Int) ≤ (k : Int) := by omega
        have i1 : (k : Int) < (la : Int) := by omega
        have i2 : (k : Int) < (lb : Int) := by omega
        clear c1 c2
        go_wp2_with fail
        refine wp_region_quiet_below (by kernel_rfl) (by kernel_rfl) ?_
        repeat (first | go_big_quiet_step (fail) | quiet_step (fail))
        refine wpQuiet_nil ?_
        intro wq hw'
        obtain ⟨⟨dq, osq⟩, hw''⟩ := hw'
        have hbwq := below_regrown wr dq osq
        rw [← hw''] at hbwq
        clear hw'' x0 y0
        by_cases hxy : x = y
        · have z1 : (x == y) = true := by simpa using hxy
          have z2 : (x != y) = false := by simpa using hxy
          have HS2 : Hid (sameTo l m (k + 1)) := fun j hj => by
            rcases Nat.lt_or_ge j k with h | h
            · exact hs.out j h
            · obtain rfl : j = k := by omega
              rw [HX.out, HY.out, hxy]
          clear hxy
          go_wp2_with fail
          go_roundw
          case rel => exact ⟨k + 1, by omega, by go_num, HS2, bnext hbr hbwq⟩
          case measure => simp [intOf]; omega
        · have z1 : (x == y) = false := by simpa using hxy
          have z2 : (x != y) = true := by simpa using hxy
          have HF : Hid (decide (l = m) = false) := decide_eq_false fun e => hxy (by rw [← HX.out, ← HY.out, e])
          clear hxy
          go_wp2_with fail
          go_ret
          exact ⟨ret_bool HF.out.symm, bnext hbr hbwq⟩
      · obtain rfl : k = la := by omega
        have HF : Hid (decide (l = m) = true) := decide_eq_true (same_of (by have := HA.out; have := HB.out; have := HLL.out; omega) (by rw [HA.out]; exact hs.out))
        go_wp2_with fail
        go_ret
        exact ⟨ret_bool HF.out.symm, hbr⟩
  · have z1 : ((la : Int) == (lb : Int)) = false := by rw [beq_eq_false_iff_ne]; omega
    have z2 : ((la : Int) != (lb : Int)) = true := by rw [bne_iff_ne]; omega
    have HF : Hid (decide (l = m) = false) := decide_eq_false fun e => hll (by rw [← hla, ← hlb, e])
    clear hla hlb hll
    go_enter Tryz.func12, Tryz.ntmps12
    go_wp2_with fail
    go_ret
    exact ⟨ret_bool HF.out.symm, Below.refl _ _⟩

/-- A proof of the reference: its statement, two cells that are not used, its elements. -/
def storedR : Rep (Int × Int × List Int × List Int) := pairR u64R (pairR u64R (pairR numsR numsR))
abbrev storedsR : Rep (List (Int × Int × List Int × List Int)) := sliceR storedR
theorem Tryz.etyStored : ElemTy Tryz.prog 40 80 4 64 := ElemTy.of Tryz.underlying40 (z := .agg #[.int .u64 0, .int .u64 0, .slice none 0 0, .slice none 0 0]) (by kernel_rfl) rfl (by omega)
theorem storedR.mk {S : Nat → Prop} {w : World} {dg : Int} {a : Option Addr} {len cap : Nat} {L : List Int} (hd : okU dg) (h : numsR.rel S w [.slice a len cap] L) : storedR.rel S w [.int .u64 dg, .int .u64 0, .slice none 0 0, .slice a len cap] (dg, 0, [], L) :=
  ⟨[_], [_, _, _], rfl, ⟨rfl, hd⟩, [_], [_, _], rfl, ⟨rfl, (okU_of (x := 0) (by omega) (by omega) : okU 0)⟩, [_], [_], rfl, sliceR.nil, h⟩
theorem storedR.inv {S : Nat → Prop} {w : World} {cs : List Value} {x : Int × Int × List Int × List Int} (h : storedR.rel S w cs x) : ∃ a c a2 c2, cs = [.int .u64 x.1, .int .u64 x.2.1, .slice a x.2.2.1.length c, .slice a2 x.2.2.2.length c2] ∧ okU x.1 ∧ numsR.rel S w [.slice a2 x.2.2.2.length c2] x.2.2.2 := by
  obtain ⟨_, _, rfl, ⟨rfl, w1⟩, _, _, rfl, ⟨rfl, w2⟩, _, _, rfl, h3, h4⟩ := h
  obtain ⟨a, c, rfl⟩ := one_form h3
  obtain ⟨a2, c2, rfl⟩ := one_form h4
  exact ⟨a, c, a2, c2, rfl, w1, h4⟩
set_option maxRecDepth 100000 in
set_option maxHeartbeats 2000000 in
theorem rprove_any (w : World) (st : Int) (dg : Int) (hd : okU dg) (N : Nat) (hN : N ≤ 1000) :
    Calls Tryz.prog 11 #[.agg #[.int .u64 st, .int .i64 0, .slice none 0 0, .slice none 0 0, .slice none 0 0], .int .u64 dg, .int .i64 N] w fun e w' =>
      ∃ a cap pa pc, e = .returned (.tuple #[.slice a N cap, .agg #[.int .u64 (stN st N), .int .i64 N, .slice none 0 0, .slice none 0 0, .slice pa 1 pc]]) ∧ numsR.rel (fun k => w.heap.size ≤ k) w' [.slice a N cap] (drawsL st N) ∧
        storedsR.rel (fun k => w.heap.size ≤ k) w' [.slice pa 1 pc] [(dg, 0, [], drawsL st N)] ∧ Below w.heap.size w w' := by
  obtain ⟨q2, q1⟩ := two_new w (.cells #[.int .u64 st, .int .i64 0, .slice none 0 0, .slice none 0 0, .slice none 0 0] 42) (.cells #[.int .u64 0, .int .i64 0, .slice none 0 0, .slice none 0 0, .slice none 0 0] 42)
  have hb := bnew (bnew (Below.refl w.heap.size w) (.cells #[.int .u64 st, .int .i64 0, .slice none 0 0, .slice none 0 0, .slice none 0 0] 42)) (.cells #[.int .u64 0, .int .i64 0, .slice none 0 0, .slice none 0 0, .slice none 0 0] 42)
  have hsz : w.heap.size + 2 ≤ ((w.alloc (.cells #[.int .u64 st, .int .i64 0, .slice none 0 0, .slice none 0 0, .slice none 0 0] 42)).alloc (.cells #[.int .u64 0, .int .i64 0, .slice none 0 0, .slice none 0 0, .slice none 0 0] 42)).heap.size := by rw [World.size_alloc, World.size_alloc]; omega
  have Q1 := Lib.hid q1
  have Q2 := Lib.hid q2
  have HB := Lib.hid hb
  have HSZ := Lib.hid hsz
  clear q2 hb hsz
  go_enter Tryz.func11, Tryz.ntmps11
  go_wp2_with fail
  generalize (w.alloc (.cells #[.int .u64 st, .int .i64 0, .slice none 0 0, .slice none 0 0, .slice none 0 0] 42)).alloc (.cells #[.int .u64 0, .int .i64 0, .slice none 0 0, .slice none 0 0, .slice none 0 0] 42) = W at *
  obtain ⟨G, hG⟩ : ∃ G, w.heap.size = G := ⟨_, rfl⟩
  have HGW := Lib.hid hG
  rw [hG] at Q1 Q2 HSZ q1 ⊢
  clear hG
  obtain ⟨x0, x1⟩ := box_cells q1
  clear q1
  go_wp2_with fail
  refine (rseveral_any W st 0 (by omega) (by omega) none 0 0 N (by omega)).mono ?_
  rintro e w3 ⟨a1, c1, rfl, hr1, hb3⟩
  have e0 : (0 : Int) + N = N := by omega
  rw [e0]
  obtain ⟨L, hLe⟩ : ∃ L, drawsL st N = L := ⟨_, rfl⟩
  obtain ⟨s', hSe⟩ : ∃ s, stN st N = s := ⟨_, rfl⟩
  have HLE := Lib.hid hLe
  have HSE := Lib.hid hSe
  rw [hLe] at hr1
  rw [hSe]
  clear hLe hSe e0 x0 x1
  have hm3 := box_after hb3 Q1.out
  have hm4 := put5 (v0 := .int .u64 s') (v1 := .int .i64 N) (v2 := .slice none 0 0) (v3 := .slice none 0 0) (v4 := .slice none 0 0) hm3
  have hk4 := fun (S : Nat → Prop) (hq : ¬ S G) => kept5 w3 hq (.int .u64 s') (.int .i64 N) (.slice none 0 0) (.slice none 0 0) (.slice none 0 0)
  obtain ⟨y0, y1⟩ := box_cells hm3
  have HM4 := Lib.hid hm4
  have HK4 := Lib.hid hk4
  have HS4 := Lib.hid (show G + 2 ≤ (((((w3.setCell ⟨G, 0, none⟩ (.int .u64 s')).setCell ⟨G, 1, none⟩ (.int .i64 N)).setCell ⟨G, 2, none⟩ (.slice none 0 0)).setCell ⟨G, 3, none⟩ (.slice none 0 0)).setCell ⟨G, 4, none⟩ (.slice none 0 0)).heap.size from Nat.le_trans (Nat.le_trans HSZ.out hb3.size) (hk4 (fun _ => False) id).size)
  have HR4 := Lib.hid (box_kept (hk4 (fun x => x = G + 1) (fun h => by have h' : G = G + 1 := h; omega)) (box_after hb3 Q2.out) rfl)
  have HN4 := Lib.hid (numsR.keep hr1 (hk4 (fun x => W.heap.size ≤ x) (fun h => by have h' : W.heap.size ≤ G := h; have := HSZ.out; omega)))
  have HB4 := Lib.hid (Kept.behind (bnext HB.out hb3) (hk4 (fun x => x < w.heap.size) (fun h => by have h' : G < w.heap.size := h; have := HGW.out; omega)) (Nat.le_trans HB.out.size hb3.size) (fun _ h => h))
  clear hm3 hm4 hk4 hr1 hb3
  go_upto_region 4 with (fail)
  generalize (((((w3.setCell ⟨G, 0, none⟩ (.int .u64 s')).setCell ⟨G, 1, none⟩ (.int .i64 N)).setCell ⟨G, 2, none⟩ (.slice none 0 0)).setCell ⟨G, 3, none⟩ (.slice none 0 0)).setCell ⟨G, 4, none⟩ (.slice none 0 0)) = wx at *
  clear y0 y1
  obtain ⟨y0, y1⟩ := box_cells (box_old (o' := .cells #[] 80) HM4.out)
  have hbe := bnew (Below.refl wx.heap.size wx) (.cells #[] 80)
  have HBE := Lib.hid hbe
  have HOE := Lib.hid (Own.mono (Own.empty storedR wx.heap.size 80 (box_new wx (.cells #[] 80)) (Nat.le_refl _)) (F' := fun k => G + 2 ≤ k) (fun k _ h => by have h' : k = wx.heap.size := h; have := HS4.out; omega))
  have HLN := Lib.hid (numsR.bound HN4.out)
  clear hbe
  have hb5 := HBE.out
  have HO5 := HOE
  have HW5 := Lib.hid (show wx.heap.size ≤ (wx.alloc (.cells #[] 80)).heap.size by rw [World.size_alloc]; omega)
  have hbn := bnew (Below.refl (wx.alloc (.cells #[] 80)).heap.size (wx.alloc (.cells #[] 80))) (.cells #[.int .u64 dg, .int .u64 0, .slice none 0 0, .slice a1 N c1] 80)
  have HBN := Lib.hid hbn
  have HL5 := Lib.hid (numsR.keepB (numsR.keepB HLN.out hb5) hbn)
  have HO6 := Lib.hid (HO5.out.keepB hbn)
  have hsr := (Src.one (cap := 1) (storedR.mk hd HL5.out) (CellsAt.new (wx.alloc (.cells #[] 80)) [.int .u64 dg, .int .u64 0, .slice none 0 0, .slice a1 N c1] 80))
  rw [World.size_alloc] at hsr
  have HSR := Lib.hid hsr
  have HS5 : Hid (wx.heap.size ≤ ((wx.alloc (.cells #[] 80)).alloc (.cells #[.int .u64 dg, .int .u64 0, .slice none 0 0, .slice a1 N c1] 80)).heap.size) := Nat.le_trans hb5.size hbn.size
  clear hb5 hbn hsr
  go_wp2_with (at_builtin; refine wpList_append_rel (r := storedR) (base := wx.heap.size) (F := fun k => G + 2 ≤ k) (S := fun k => W.heap.size ≤ k ∧ k < wx.heap.size) (xs := []) (ys := [(dg, 0, [], L)]) (v := .slice (some ⟨wx.heap.size, 0, none⟩) 0 0) (u := .slice (some ⟨wx.heap.size + 1, 0, none⟩) 1 1) rfl _ _ rfl Tryz.etyStored rfl rfl HO6.out HSR.out (fun k _ h => by have := HSZ.out; have h' := h.1; omega) (fun k he h => by have := (HO6.out.lt he).2.2; have h' := h.2; omega) (by unfold maxLen; simp) (by simp) HS5.out ?_)
  intro v7 w7 ho7 hk7 hv7
  have hb7 : Below wx.heap.size wx w7 := Kept.behind (HBE.out.trans (HBN.out.mono HW5.out)) hk7 HS5.out (fun k hk he => by have := (HO6.out.lt he).2.2; omega)
  have hGx : G + 1 < wx.heap.size := HS4.out
  have HM7 := Lib.hid ((hb7.block G (by omega)).trans HM4.out)
  have HR7 := Lib.hid ((hb7.block (G + 1) (by omega)).trans HR4.out)
  have HN7 := Lib.hid (numsR.keepB HN4.out hb7)
  have hB7 : Below w.heap.size w w7 := HB4.out.trans (hb7.mono HB4.out.size)
  have HB7 := Lib.hid hB7
  obtain ⟨pa, pc, rfl, -, -⟩ := sliceR.form ho7.slice
  have hp7 := storedsR.mono ho7.slice (S' := fun k => G + 2 ≤ k) (fun k _ h => by
    rcases (show G + 2 ≤ k ∨ wx.heap.size + 1 + 1 ≤ k from h) with h | h
    · exact h
    · omega)
  have e1 : [(dg, (0 : Int), ([] : List Int), L)].length = 1 := rfl
  rw [e1] at hp7 ⊢
  have HP7 := Lib.hid hp7
  clear ho7 hk7 hv7 hb7 hp7 e1 y0 y1 HBE HOE HO5 HBN HL5 HO6 HSR HS5 HW5 hB7
  obtain ⟨y0, y1⟩ := box_cells HM7.out
  have hm8 := box_set (i := 4) (v := .slice pa 1 pc) HM7.out
  have hk8 : ∀ (S : Nat → Prop), ¬ S G → Kept S w7 (w7.setCell ⟨G, 4, none⟩ (.slice pa 1 pc)) := fun S hq => (Kept.refl S w7).setCell (fun _ => hq) _
  have HM8 : Hid ((w7.setCell ⟨G, 4, none⟩ (.slice pa 1 pc)).heap[G]? = some (.cells #[.int .u64 s', .int .i64 N, .slice none 0 0, .slice none 0 0, .slice pa 1 pc] 42 (0, 0))) := hm8
  have HR8 := Lib.hid (box_kept (hk8 (fun x => x = G + 1) (fun h => by have h' : G = G + 1 := h; omega)) HR7.out rfl)
  have HN8 := Lib.hid (numsR.keep HN7.out (hk8 (fun x => W.heap.size ≤ x) (fun h => by have h' : W.heap.size ≤ G := h; have := HSZ.out; omega)))
  have HP8 := Lib.hid (storedsR.keep HP7.out (hk8 (fun x => G + 2 ≤ x) (fun h => by have h' : G + 2 ≤ G := h; omega)))
  have HB8 := Lib.hid (Kept.behind HB7.out (hk8 (fun x => x < w.heap.size) (fun h => by have h' : G < w.heap.size := h; have := HGW.out; omega)) HB7.out.size (fun _ h => h))
  clear hm8 hk8 HM7 HR7 HN7 HP7 HB7
  go_upto_region 5 with (fail)
  generalize w7.setCell ⟨G, 4, none⟩ (.slice pa 1 pc) = w8 at *
  clear y0 y1
  obtain ⟨y0, y1⟩ := box_cells HM8.out
  obtain ⟨z0, z1⟩ := box_cells HR8.out
  have hr5 : (((((w8.setCell ⟨G + 1, 0, none⟩ (.int .u64 s')).setCell ⟨G + 1, 1, none⟩ (.int .i64 N)).setCell ⟨G + 1, 2, none⟩ (.slice none 0 0)).setCell ⟨G + 1, 3, none⟩ (.slice none 0 0)).setCell ⟨G + 1, 4, none⟩ (.slice pa 1 pc)).drew.heap[G + 1]? = some (.cells #[.int .u64 s', .int .i64 N, .slice none 0 0, .slice none 0 0, .slice pa 1 pc] 42 (0, 0)) := put5d (v0 := .int .u64 s') (v1 := .int .i64 N) (v2 := .slice none 0 0) (v3 := .slice none 0 0) (v4 := .slice pa 1 pc) HR8.out
  have hk5 : ∀ (S : Nat → Prop) (hq : ¬ S (G + 1)), Kept S w8 (((((w8.setCell ⟨G + 1, 0, none⟩ (.int .u64 s')).setCell ⟨G + 1, 1, none⟩ (.int .i64 N)).setCell ⟨G + 1, 2, none⟩ (.slice none 0 0)).setCell ⟨G + 1, 3, none⟩ (.slice none 0 0)).setCell ⟨G + 1, 4, none⟩ (.slice pa 1 pc)).drew := fun S hq => (kept5 w8 hq (.int .u64 s') (.int .i64 N) (.slice none 0 0) (.slice none 0 0) (.slice pa 1 pc)).drew
  have HR5 := Lib.hid hr5
  have HK5 := Lib.hid hk5
  clear hr5 hk5
  go_wp2
  go_region
  generalize (((((w8.setCell ⟨G + 1, 0, none⟩ (.int .u64 s')).setCell ⟨G + 1, 1, none⟩ (.int .i64 N)).setCell ⟨G + 1, 2, none⟩ (.slice none 0 0)).setCell ⟨G + 1, 3, none⟩ (.slice none 0 0)).setCell ⟨G + 1, 4, none⟩ (.slice pa 1 pc)).drew = wz at *
  obtain ⟨f0, f1⟩ := box_cells HR5.out
  go_wp2
  refine bodyPost_ret (v := .tuple #[.slice a1 N c1, .agg #[.int .u64 s', .int .i64 N, .slice none 0 0, .slice none 0 0, .slice pa 1 pc]]) (by simp [results, Tryz.results11, go_sem, f0]) rfl ?_
  rw [HSE.out, HLE.out]
  refine ⟨_, _, _, _, rfl, ?_, ?_, ?_⟩
  · exact numsR.mono (numsR.keep HN8.out (HK5.out (fun x => W.heap.size ≤ x) (fun h => by have h' : W.heap.size ≤ G + 1 := h; have := HSZ.out; omega))) fun i _ h => by have h' : W.heap.size ≤ i := h; have := HGW.out; have := HSZ.out; omega
  · exact storedsR.mono (storedsR.keep HP8.out (HK5.out (fun x => G + 2 ≤ x) (fun h => by have h' : G + 2 ≤ G + 1 := h; omega))) fun i _ h => by have h' : G + 2 ≤ i := h; have := HGW.out; omega
  · exact Kept.behind HB8.out (HK5.out (fun x => x < w.heap.size) (fun h => by have h' : G + 1 < w.heap.size := h; have := HGW.out; omega)) HB8.out.size (fun _ h => h)
end Go.Proofs.YtgjemeeeignlnaaGreatDoor
/- Oracles that issue nothing; the reference's Proved. -/
namespace Go.Proofs.YtgjemeeeignlnaaGreatDoor
open Go.ChangeShapes Go.WideShapes Go.ChangeAt Go.RowKit Go.Sort

set_option maxHeartbeats 2000000 in
theorem prove_neg (w : World) (st n : Int) (pr : Option ByteArray) (p mk ms mp : Nat) (h : OrX st n pr p mk ms mp w) (dg N : Int) (hN : N < 0) :
    Calls Tryz.prog 9 #[.pointer (some ⟨p, 0, none⟩), .int .u64 dg, .int .i64 N] w fun e w' => e = .returned (.slice none 0 0) ∧ w = w' := by
  obtain ⟨x0, x1⟩ := box_cells h.1
  have z : decide (N < 0) = true := decide_eq_true hN
  clear h
  go_enter Tryz.func9, Tryz.ntmps9
  go_wp2
  go_ret
  exact ⟨rfl, rfl⟩
set_option maxRecDepth 100000 in
set_option maxHeartbeats 2000000 in
theorem rprove_neg (w : World) (st n dg N : Int) (hN : N < 0) :
    Calls Tryz.prog 11 #[.agg #[.int .u64 st, .int .i64 n, .slice none 0 0, .slice none 0 0, .slice none 0 0], .int .u64 dg, .int .i64 N] w fun e w' => e = .returned (.tuple #[.slice none 0 0, .agg #[.int .u64 st, .int .i64 n, .slice none 0 0, .slice none 0 0, .slice none 0 0]]) ∧ Below w.heap.size w w' := by
  have z : decide (N < 0) = true := decide_eq_true hN
  go_enter Tryz.func11, Tryz.ntmps11
  go_wp2
  go_region
  go_wp2
  refine bodyPost_ret (v := .tuple #[.slice none 0 0, .agg #[.int .u64 st, .int .i64 n, .slice none 0 0, .slice none 0 0, .slice none 0 0]]) (by simp [results, Tryz.results11, go_sem]) rfl ?_
  exact ⟨rfl, (bnew (bnew (Below.refl _ _) _) _).drew⟩
set_option maxRecDepth 100000 in
set_option maxHeartbeats 2000000 in
theorem rproved_nil (w : World) (st n dg : Int) (v : Value) :
    Calls Tryz.prog 65 #[.agg #[.int .u64 st, .int .i64 n, .slice none 0 0, .slice none 0 0, .slice none 0 0], .int .u64 dg, v] w fun e w' => e = .returned (.bool false) ∧ Below w.heap.size w w' := by
  have q1 := box_new w (.cells #[.int .u64 st, .int .i64 n, .slice none 0 0, .slice none 0 0, .slice none 0 0] 42)
  have hb := bnew (Below.refl w.heap.size w) (.cells #[.int .u64 st, .int .i64 n, .slice none 0 0, .slice none 0 0, .slice none 0 0] 42)
  have HB := Lib.hid hb
  obtain ⟨x0, x1⟩ := box_cells q1
  have X0 := Lib.hid x0
  clear q1 hb x0 x1
  go_enter Tryz.func65, Tryz.ntmps65
  go_wp2_with fail
  generalize w.alloc (.cells #[.int .u64 st, .int .i64 n, .slice none 0 0, .slice none 0 0, .slice none 0 0] 42) = W at *
  have x0 := X0.out
  go_loop [7] (fun vi => vi = .int .i64 0) (fun _ => 0)
  case atStart => rfl
  case round =>
    subst hrel
    go_wp2_with fail
    go_ret
    exact ⟨rfl, HB.out⟩
theorem stored_at {S : Nat → Prop} {w : World} {pa : Option Addr} {pc : Nat} {dg : Int} {L : List Int} (h : storedsR.rel S w [.slice pa 1 pc] [(dg, 0, [], L)]) :
    ∃ b off a2 c2, pa = some ⟨b, off, none⟩ ∧ w.cell? ⟨b, off, none⟩ = some (.int .u64 dg) ∧ w.cell? ⟨b, off + 3, none⟩ = some (.slice a2 L.length c2) ∧ numsR.rel S w [.slice a2 L.length c2] L := by
  obtain ⟨b, off, es, rfl, hb, hbl, hrel, hca⟩ := sliceR.at h 0 (by simp)
  obtain ⟨a, c, a2, c2, rfl, -, h3⟩ := storedR.inv hrel
  refine ⟨b, off, a2, c2, rfl, ?_, ?_, h3⟩
  · have := hca 0 _ rfl; simpa using this
  · have := hca 3 _ rfl; simpa using this
set_option maxRecDepth 100000 in
set_option maxHeartbeats 2000000 in
theorem rproved_one (S S' : Nat → Prop) (w : World) (st n dg dg' : Int) (pa : Option Addr) (pc : Nat) (L : List Int) (hp : storedsR.rel S w [.slice pa 1 pc] [(dg, 0, [], L)]) (hL : L.length ≤ 1000000) (a : Option Addr) (len cap : Nat) (l : List Int) (hlen : l.length = len) (hl : numsR.rel S' w [.slice a len cap] l) :
    Calls Tryz.prog 65 #[.agg #[.int .u64 st, .int .i64 n, .slice none 0 0, .slice none 0 0, .slice pa 1 pc], .int .u64 dg', .slice a len cap] w fun e w' => e = .returned (.bool (decide (dg = dg' ∧ L = l))) ∧ Below w.heap.size w w' := by
  have q1 := box_new w (.cells #[.int .u64 st, .int .i64 n, .slice none 0 0, .slice none 0 0, .slice pa 1 pc] 42)
  have hb := bnew (Below.refl w.heap.size w) (.cells #[.int .u64 st, .int .i64 n, .slice none 0 0, .slice none 0 0, .slice pa 1 pc] 42)
  have HB := Lib.hid hb
  have HX := Lib.hid q1
  have HP := Lib.hid (storedsR.keepB hp hb)
  have HL := Lib.hid (numsR.keepB hl hb)
  have HLE := Lib.hid hlen
  clear q1 hb hp hl hlen
  go_enter Tryz.func65, Tryz.ntmps65
  go_wp2_with fail
  generalize w.alloc (.cells #[.int .u64 st, .int .i64 n, .slice none 0 0, .slice none 0 0, .slice pa 1 pc] 42) = W at *
  obtain ⟨G, hG⟩ : ∃ G, w.heap.size = G := ⟨_, rfl⟩
  have HGW := Lib.hid hG
  rw [hG] at HX ⊢
  clear hG
  go_loopw [7] (fun vi wr => ((vi = .int .i64 0) ∨ (vi = .int .i64 1 ∧ Hid (¬ (dg = dg' ∧ L = l)))) ∧ Below W.heap.size W wr) (fun vi _ => 1 - (intOf vi).toNat)
  case atStart => exact ⟨.inl rfl, Below.refl _ _⟩
  case round =>
    obtain ⟨hvi, hbr⟩ := hrel
    obtain ⟨x0, x1⟩ := box_cells (box_after hbr HX.out)
    rcases hvi with rfl | ⟨rfl, hno⟩
    · obtain ⟨b, off, a2, c2, rfl, k0, k3, hr⟩ := stored_at (storedsR.keepB HP.out hbr)
      have HR := Lib.hid hr
      clear hr
      by_cases hd : dg = dg'
      · have z1 : (dg == dg') = true := by simpa using hd
        have HD := Lib.hid hd
        clear hd
        go_wp2_with fail
        refine (rsame_any S S' wr a2 a L.length len c2 cap L l rfl HLE.out HR.out (numsR.keepB HL.out hbr) hL).mono ?_
        rintro e w2 ⟨rfl, hb2⟩
        by_cases hs : L = l
        · have z2 : decide (L = l) = true := decide_eq_true hs
          have HF : Hid (decide (dg = dg' ∧ L = l) = true) := decide_eq_true ⟨HD.out, hs⟩
          rw [z2]
          clear hs z2
          go_wp2_with fail
          go_ret
          exact ⟨ret_bool HF.out.symm, bnext HB.out (bnext hbr hb2)⟩
        · have z2 : decide (L = l) = false := decide_eq_false hs
          have HF : Hid (¬ (dg = dg' ∧ L = l)) := fun h => hs h.2
          rw [z2]
          clear hs z2 x0 x1 k0 k3
          go_wp2_with fail
          go_roundw
          case rel => exact ⟨.inr ⟨by go_num, HF⟩, bnext hbr hb2⟩
          case measure => simp [intOf]
      · have z1 : (dg == dg') = false := by simpa using hd
        have HF : Hid (¬ (dg = dg' ∧ L = l)) := fun h => hd h.1
        clear hd
        go_wp2_with fail
        go_roundw
        case rel => exact ⟨.inr ⟨by go_num, HF⟩, hbr⟩
        case measure => simp [intOf]
    · have HF : Hid (decide (dg = dg' ∧ L = l) = false) := decide_eq_false hno.out
      go_wp2_with fail
      go_ret
      exact ⟨ret_bool HF.out.symm, bnext HB.out hbr⟩
end Go.Proofs.YtgjemeeeignlnaaGreatDoor
/- The reference's bytes of elements, and elements of bytes. -/
namespace Go.Proofs.YtgjemeeeignlnaaGreatDoor
open Go.ChangeShapes Go.WideShapes Go.ChangeAt Go.RowKit Go.Sort

theorem digsAll_take_succ (l : List Int) (k : Nat) (hk : k < l.length) : digsAll (l.take (k + 1)) = digsAll (l.take k) ++ digs 8 l[k] := by rw [List.take_succ_eq_append_getElem hk, digsAll_snoc]
set_option maxRecDepth 100000 in
set_option maxHeartbeats 1000000 in
theorem rbytes42_any (S : Nat → Prop) (w : World) (la : Option Addr) (len lc : Nat) (l : List Int) (hlen : l.length = len) (hl : numsR.rel S w [.slice la len lc] l) (hx : len ≤ 1000000) : Calls Tryz.prog 13 #[.slice la len lc] w (GrewTo w.heap.size w (digsAll l)) := by
  subst hlen
  have H := Lib.hid hl
  clear hl
  go_enter Tryz.func13, Tryz.ntmps13
  go_wp2_with fail
  go_loopw [3, 4] (fun vo vi wr => ∃ (k : Nat), k ≤ l.length ∧ vi = .int .i64 k ∧ Own u8R w.heap.size 5 (fun x => False ∨ w.heap.size ≤ x) wr vo (digsAll (l.take k)) ∧ Below w.heap.size w wr) (fun _ vi _ => l.length - (intOf vi).toNat)
  case atStart => exact ⟨0, Nat.zero_le _, rfl, Own.nil _ _ _ _ _, Below.refl _ _⟩
  case round =>
    obtain ⟨k, hk, rfl, hor, hbr⟩ := hrel
    have HOR := Lib.hid hor
    have hBr := hbr.size
    clear hor
    by_cases hlt : k < l.length
    · obtain ⟨b, off, rfl, hbl, n0, n1, hc⟩ := nums_at (numsR.keepB H.out hbr) k hlt
      have HT := Lib.hid (digsAll_take_succ l k hlt)
      have HLEN : Hid ((digsAll (l.take k)).length + (digs 8 l[k]).length ≤ maxLen ∧ ((digsAll (l.take k)).length + (digs 8 l[k]).length) * 1 ≤ 140737488355328) := by
        have : (l.take k).length ≤ l.length := by simp; omega
        simp only [digs_len, digsAll_len]
        unfold maxLen; constructor <;> omega
      have i0 : (0 : Int) ≤ (k : Int) := by omega
      have i1 : (k : Int) < (l.length : Int) := by omega
      generalize l[k] = m at *
      go_wp2_with fail
      refine (rDigits_any wr m n0 n1 8 (by omega)).mono ?_
      intro e w2 h
      obtain ⟨a2, c2, rfl, -, hr2, hb2⟩ := h.read
      have HR2 := Lib.hid hr2
      have hbw := bnext hbr hb2
      have hBw := hbw.size
      have HO2 := Lib.hid (HOR.out.keepB hb2)
      clear h hr2
      go_wp2_with (at_builtin; go_loud (refine wpList_cat (k := .u8) (v := u3) (u := .slice a2 (digs 8 m).length c2) (w0 := w) (B := w.heap.size) (wr := w2) (ys := digs 8 m) rfl _ _ rfl Tryz.etyBytes rfl rfl hbw hBw HO2.out HR2.out HLEN.out.1 HLEN.out.2 ?_))
      intro v2 w3 ho3 hb3
      have ho4 := Own.mono ho3 (F' := fun x => False ∨ w.heap.size ≤ x) fun x _ h => by first | exact h | exact .inr h
      rw [← HT.out] at ho4
      have HZ := Lib.hid ho4
      clear ho4
      clear ho3
      go_wp2_with fail
      go_roundw
      case rel => exact ⟨k + 1, by omega, by go_num, HZ.out, hb3⟩
      case measure => simp [intOf]; omega
    · obtain rfl : k = l.length := by omega
      rw [List.take_length] at HOR
      go_wp2_with fail
      go_ret
      exact ⟨_, rfl, HOR.out, hbr⟩
/-- The number of eight bytes from place 8 * j on. -/
def word (bs : List Int) (j : Nat) : Int := leN ((bs.drop (8 * j)).take 8)
def wordsTo (bs : List Int) (c : Nat) : List Int := (List.range c).map (word bs)
theorem wordsTo_len (bs : List Int) (c : Nat) : (wordsTo bs c).length = c := by simp [wordsTo]
theorem wordsTo_succ (bs : List Int) (c : Nat) : wordsTo bs (c + 1) = wordsTo bs c ++ [word bs c] := by simp [wordsTo, List.range_succ]
theorem rvalue_len (S : Nat → Prop) (w : World) (a : Option Addr) (len cap : Nat) (l : List Int) (hlen : l.length = len) (h : bytesR.rel S w [.slice a len cap] l) (hl : len ≤ 8) :
    Calls Tryz.prog 113 #[.slice a len cap] w fun e w' => e = .returned (.int .u64 (leN l)) ∧ w = w' := by
  subst hlen
  exact rvalue_any S w a cap l h hl
set_option maxRecDepth 100000 in
set_option maxHeartbeats 1000000 in
theorem relems_any (S : Nat → Prop) (w : World) (pa : Option Addr) (pc : Nat) (bs : List Int) (hp : bytesR.rel S w [.slice pa bs.length pc] bs) (hx : bs.length ≤ 1000000) :
    Calls Tryz.prog 66 #[.slice pa bs.length pc] w fun e w' => ∃ a cap, e = .returned (.slice a (bs.length / 8) cap) ∧ numsR.rel (fun _ => True) w' [.slice a (bs.length / 8) cap] (wordsTo bs (bs.length / 8)) ∧ Below w.heap.size w w' := by
  have H := Lib.hid hp
  have HB := Lib.hid (bytes_in hp)
  have hcap := (sliceR.lens hp).2
  unfold maxLen at hcap
  have hcap1 := hcap.1
  have hcap2 := hcap.2.1
  clear hp
  go_enter Tryz.func66, Tryz.ntmps66
  go_wp2_with fail
  go_loopw [3, 4] (fun vo vi wr => ∃ (k : Nat), 8 * k ≤ bs.length ∧ vi = .int .i64 (8 * k : Nat) ∧ Own u64R w.heap.size 24 (fun x => False ∨ w.heap.size ≤ x) wr vo (wordsTo bs k) ∧ Below w.heap.size w wr) (fun _ vi _ => bs.length + 8 - (intOf vi).toNat)
  case atStart => exact ⟨0, by omega, rfl, Own.nil _ _ _ _ _, Below.refl _ _⟩
  case round =>
    obtain ⟨k, hk, rfl, hor, hbr⟩ := hrel
    have HOR := Lib.hid hor
    have hBr := hbr.size
    clear hor
    obtain ⟨i, hi⟩ : ∃ i, 8 * k = i := ⟨_, rfl⟩
    have HI := Lib.hid hi
    rw [hi] at hk ⊢
    by_cases hlt : i + 8 ≤ bs.length
    · obtain ⟨b, off, rfl, -, -, -, -, -⟩ := bytes_at H.out 0 (by omega)
      have hv := sliceR.takeN (sliceR.dropN (bytesR.keepB H.out hbr) i (by omega)) 8 (by simp; omega)
      rw [show i * (intR IntKind.u8).n = i from Nat.mul_one i] at hv
      have hvl : ((bs.drop i).take 8).length = 8 := by simp; omega
      have hvi := leN_in ((bs.drop i).take 8) fun d hd => HB.out d (List.mem_of_mem_drop (List.mem_of_mem_take hd))
      rw [hvl] at hvi
      have HW : Hid (word bs k = leN ((bs.drop i).take 8)) := by show _ = _; unfold word; rw [HI.out]
      have HS := Lib.hid (wordsTo_succ bs k)
      have HV := Lib.hid hv
      have HVL := Lib.hid hvl
      have HWL := Lib.hid (wordsTo_len bs k)
      have HVI := Lib.hid hvi
      have hk1 : k ≤ 1000000 := by omega
      clear hv hvl hvi hi
      generalize (bs.drop i).take 8 = ys at *
      go_wp2_with fail
      refine (rvalue_len S wr _ 8 _ ys HVL.out HV.out (by omega)).mono ?_
      rintro e w2 ⟨rfl, rfl⟩
      have hvi := HVI.out
      have HY : Hid (u64R.rel (fun _ => False) wr [.int .u64 (leN ys)] (leN ys)) := ⟨rfl, okU_of hvi.1 (by omega)⟩
      rw [HW.out] at HS
      clear hvi HVI HV
      generalize leN ys = n at *
      go_wp2_with (at_builtin; refine wpList_push (r := u64R) (wr := wr) (es := [.int .u64 n]) (v := u3) (w0 := w) (B := w.heap.size) rfl _ _ rfl Tryz.etyNums rfl rfl hbr hBr HOR.out HY.out (fun x hx => hx.elim) (by unfold maxLen; have := HWL.out; omega) (by have := HWL.out; omega) ?_)
      intro v2 w3 ho3 hb3
      have ho4 := Own.mono ho3 (F' := fun x => False ∨ w.heap.size ≤ x) fun x _ h => by first | exact h | exact .inr h
      rw [← HS.out] at ho4
      have HZ := Lib.hid ho4
      clear ho3 ho4
      go_wp2_with fail
      go_roundw
      case rel => exact ⟨k + 1, by have := HI.out; omega, by rw [show 8 * (k + 1) = i + 8 by have := HI.out; omega]; go_num, HZ.out, hb3⟩
      case measure => simp [intOf]; omega
    · have hq : bs.length / 8 = k := by omega
      have HQ := Lib.hid hq
      obtain ⟨oa, oc, rfl, -, -⟩ := sliceR.form HOR.out.slice
      have hsl := numsR.mono HOR.out.slice (S' := fun _ => True) fun _ _ _ => trivial
      rw [wordsTo_len] at hsl ⊢
      have HSL := Lib.hid hsl
      clear hsl hq hi
      go_wp2_with fail
      go_ret
      rw [HQ.out]
      exact ⟨_, _, rfl, HSL.out, hbr⟩
end Go.Proofs.YtgjemeeeignlnaaGreatDoor
/- The reference's digest of a statement, exact. -/
namespace Go.Proofs.YtgjemeeeignlnaaGreatDoor
open Go.ChangeShapes Go.WideShapes Go.ChangeAt Go.RowKit Go.Sort

def redTo (l : List Int) (k : Nat) : List Int := (l.take k).map redP ++ l.drop k
theorem redTo_len (l : List Int) (k : Nat) : (redTo l k).length = l.length := by simp [redTo]; omega
theorem redTo_at (l : List Int) (k : Nat) (hk : k < l.length) : (redTo l k)[k]'(by rw [redTo_len]; exact hk) = l[k] := by
  unfold redTo
  rw [List.getElem_append_right (by simp; omega)]
  simp [Nat.min_eq_left (Nat.le_of_lt hk)]
theorem redTo_set (l : List Int) (k : Nat) (hk : k < l.length) : (redTo l k).set k (redP l[k]) = redTo l (k + 1) := by
  unfold redTo
  rw [List.take_succ_eq_append_getElem hk, List.map_append, List.set_append_right _ _ (by simp; omega), List.append_assoc]
  congr 1
  rw [show k - ((l.take k).map redP).length = 0 by simp; omega, List.drop_eq_getElem_cons hk, List.set_cons_zero]
  rfl
set_option maxRecDepth 100000 in
set_option maxHeartbeats 4000000 in
theorem rdigest_any (S : Nat → Prop) (w : World) (s : StM) (ma ca ra : Option Addr) (mc cc rc : Nat) (hs : StIn S w s ma ca ra mc cc rc) (b1 : s.marks.length ≤ 1000) (b2 : s.commits.length ≤ 1000) (b3 : s.rhos.length ≤ 1000) (hd : s.depth < 9223372036854775808) :
    Calls Tryz.prog 10 #[.agg #[.int .i64 s.depth, .int .u64 s.anchor, .slice ma s.marks.length mc, .slice ca s.commits.length cc, .slice ra s.rhos.length rc, .int .u64 s.dep, .int .u64 s.wd, .int .u64 s.fee, .int .u64 s.acc, .int .u64 s.bind]] w fun e w' => e = .returned (.int .u64 (hashS 24 ((digestL s).map redP))) ∧ Below w.heap.size w w' := by
  have hbA := bnew (Below.refl w.heap.size w) (.cells #[.int .i64 s.depth, .int .u64 s.anchor, .slice ma s.marks.length mc, .slice ca s.commits.length cc, .slice ra s.rhos.length rc, .int .u64 s.dep, .int .u64 s.wd, .int .u64 s.fee, .int .u64 s.acc, .int .u64 s.bind] 46)
  have HX := Lib.hid (box_new w (.cells #[.int .i64 s.depth, .int .u64 s.anchor, .slice ma s.marks.length mc, .slice ca s.commits.length cc, .slice ra s.rhos.length rc, .int .u64 s.dep, .int .u64 s.wd, .int .u64 s.fee, .int .u64 s.acc, .int .u64 s.bind] 46))
  have HS := Lib.hid (hs.keepB hbA)
  have HBA := Lib.hid hbA
  have HOK : Hid (okU s.dep ∧ okU s.wd ∧ okU s.fee ∧ okU s.acc ∧ okU s.bind) := ⟨hs.dep, hs.wd, hs.fee, hs.acc, hs.bind⟩
  have HOA := Lib.hid hs.anchor
  obtain ⟨E, hE⟩ : ∃ E, maxZ s.depth = E := ⟨_, rfl⟩
  have hE0 : 0 ≤ E ∧ E < 9223372036854775808 := by
    rw [← hE]; unfold maxZ; split <;> omega
  have HE := Lib.hid hE
  have HOE : Hid (okU E) := okU_of hE0.1 (by omega)
  have hwE : IntKind.u64.wrap E = E := by rw [IntKind.wrap_u64]; omega
  have hwM : IntKind.u64.wrap (s.marks.length : Int) = s.marks.length := by rw [IntKind.wrap_u64]; omega
  have hwC : IntKind.u64.wrap (s.commits.length : Int) = s.commits.length := by rw [IntKind.wrap_u64]; omega
  have hME : (if (0 : Int) > s.depth then 0 else s.depth) = E := hE
  have HDM : Hid (maxZ s.depth = if s.depth < 0 then 0 else s.depth) := rfl
  clear hbA hs hE
  go_enter Tryz.func10, Tryz.ntmps10
  go_upto_region 1 with (fail)
  generalize w.alloc (.cells #[.int .i64 s.depth, .int .u64 s.anchor, .slice ma s.marks.length mc, .slice ca s.commits.length cc, .slice ra s.rhos.length rc, .int .u64 s.dep, .int .u64 s.wd, .int .u64 s.fee, .int .u64 s.acc, .int .u64 s.bind] 46) = W at *
  obtain ⟨x0, x1⟩ := box_cells HX.out
  clear hME
  go_upto_if 9 with (fail)
  go_cut [3] from 10 (fun v3 wx => v3 = .int .i64 E ∧ W = wx)
  case first =>
    by_cases hD : s.depth < 0
    · have e : E = 0 := by have := HDM.out; rw [if_pos hD, HE.out] at this; exact this
      subst e
      go_wp2_with fail
      go_meet
      case rel => exact ⟨rfl, rfl⟩
    · have e : s.depth = E := by have := HDM.out; rw [if_neg hD, HE.out] at this; exact this.symm
      have HEE := Lib.hid e
      clear e
      go_wp2_with fail
      go_meet
      case rel => exact ⟨by rw [HEE.out], rfl⟩
  case rest =>
    obtain ⟨rfl, rfl⟩ := hcut
    go_upto_region 5 with (fail)
    have HO0 := Lib.hid (own_new W 24 [E, s.anchor, (s.marks.length : Int)] (by intro x hx; simp at hx; rcases hx with rfl | rfl | rfl; exact HOE.out; exact HOA.out; exact okU_of (by omega) (by omega)) (by simp))
    have HB0 := Lib.hid (bnew (Below.refl W.heap.size W) (.cells #[.int .u64 E, .int .u64 s.anchor, .int .u64 s.marks.length] 24))
    obtain ⟨l0, hl0⟩ : ∃ l, [E, s.anchor, (s.marks.length : Int)] = l := ⟨_, rfl⟩
    have HE0 := Lib.hid hl0
    have HLN0 : Hid (l0.length ≤ 1000) := by show _ ≤ _; rw [← hl0]; simp
    have HO0' : Hid (Own u64R W.heap.size 24 (fun x => False ∨ W.heap.size ≤ x) (W.alloc (.cells #[.int .u64 E, .int .u64 s.anchor, .int .u64 s.marks.length] 24)) (.slice (some ⟨W.heap.size, 0, none⟩) 3 3) l0) := by rw [← hl0]; exact HO0.out
    have HO0 := HO0'
    clear hl0 HO0'
    generalize W.alloc (.cells #[.int .u64 E, .int .u64 s.anchor, .int .u64 s.marks.length] 24) = w0 at *
    generalize Value.slice (some ⟨W.heap.size, 0, none⟩) 3 3 = v0 at *
    clear x0 x1
    obtain ⟨x0, x1⟩ := box_cells (box_after HB0.out HX.out)
    have hB0 := HB0.out.size
    have HC0 : Hid (numsR.rel S w0 [.slice ma s.marks.length mc] s.marks) := numsR.keepB HS.out.marks HB0.out
    go_wp2_with (at_builtin; go_loud (refine wpList_cat (k := .u64) (v := v0) (u := .slice ma s.marks.length mc) (w0 := W) (B := W.heap.size) (wr := w0) (ys := s.marks) rfl _ _ rfl Tryz.etyNums rfl rfl HB0.out hB0 HO0.out HC0.out (by unfold maxLen; have := HLN0.out; omega) (by have := HLN0.out; omega) ?_))
    intro v1 w1 ho hb
    have HO1 : Hid (Own u64R W.heap.size 24 (fun x => False ∨ W.heap.size ≤ x) w1 v1 (l0 ++ s.marks)) := Own.mono ho fun x _ h => by first | exact h | exact .inr h
    have HB1 := Lib.hid hb
    obtain ⟨l1, hle⟩ : ∃ l, l0 ++ s.marks = l := ⟨_, rfl⟩
    have HE1 := Lib.hid hle
    have HLN1 : Hid (l1.length ≤ 2000) := by show _ ≤ _; have := HLN0.out; rw [← hle, List.length_append]; omega
    rw [hle] at HO1
    clear ho hb hle x0 x1 hB0
    obtain ⟨x0, x1⟩ := box_cells (box_after HB1.out HX.out)
    have hB1 := HB1.out.size
    have HC1 : Hid (u64R.rel (fun _ => False) w1 [.int .u64 ((s.commits.length : Int))] ((s.commits.length : Int))) := ⟨rfl, okU_of (by omega) (by omega)⟩
    go_wp2_with (at_builtin; go_loud (refine wpList_push (r := u64R) (v := v1) (wr := w1) (es := [.int .u64 ((s.commits.length : Int))]) (w0 := W) (B := W.heap.size) rfl _ _ rfl Tryz.etyNums rfl rfl HB1.out hB1 HO1.out HC1.out (fun x hx => hx.elim) (by unfold maxLen; have := HLN1.out; omega) (by have := HLN1.out; omega) ?_))
    intro v2 w2 ho hb
    have HO2 : Hid (Own u64R W.heap.size 24 (fun x => False ∨ W.heap.size ≤ x) w2 v2 (l1 ++ [(s.commits.length : Int)])) := Own.mono ho fun x _ h => by first | exact h | exact .inr h
    have HB2 := Lib.hid hb
    obtain ⟨l2, hle⟩ : ∃ l, l1 ++ [(s.commits.length : Int)] = l := ⟨_, rfl⟩
    have HE2 := Lib.hid hle
    have HLN2 : Hid (l2.length ≤ 3000) := by show _ ≤ _; have := HLN1.out; rw [← hle, List.length_append]; simp; omega
    rw [hle] at HO2
    clear ho hb hle x0 x1 hB1
    obtain ⟨x0, x1⟩ := box_cells (box_after HB2.out HX.out)
    have hB2 := HB2.out.size
    have HC2 : Hid (numsR.rel S w2 [.slice ca s.commits.length cc] s.commits) := numsR.keepB HS.out.commits HB2.out
    go_wp2_with (at_builtin; go_loud (refine wpList_cat (k := .u64) (v := v2) (u := .slice ca s.commits.length cc) (w0 := W) (B := W.heap.size) (wr := w2) (ys := s.commits) rfl _ _ rfl Tryz.etyNums rfl rfl HB2.out hB2 HO2.out HC2.out (by unfold maxLen; have := HLN2.out; omega) (by have := HLN2.out; omega) ?_))
    intro v3 w3 ho hb
    have HO3 : Hid (Own u64R W.heap.size 24 (fun x => False ∨ W.heap.size ≤ x) w3 v3 (l2 ++ s.commits)) := Own.mono ho fun x _ h => by first | exact h | exact .inr h
    have HB3 := Lib.hid hb
    obtain ⟨l3, hle⟩ : ∃ l, l2 ++ s.commits = l := ⟨_, rfl⟩
    have HE3 := Lib.hid hle
    have HLN3 : Hid (l3.length ≤ 4000) := by show _ ≤ _; have := HLN2.out; rw [← hle, List.length_append]; omega
    rw [hle] at HO3
    clear ho hb hle x0 x1 hB2
    obtain ⟨x0, x1⟩ := box_cells (box_after HB3.out HX.out)
    have hB3 := HB3.out.size
    have HC3 : Hid (numsR.rel S w3 [.slice ra s.rhos.length rc] s.rhos) := numsR.keepB HS.out.rhos HB3.out
    go_wp2_with (at_builtin; go_loud (refine wpList_cat (k := .u64) (v := v3) (u := .slice ra s.rhos.length rc) (w0 := W) (B := W.heap.size) (wr := w3) (ys := s.rhos) rfl _ _ rfl Tryz.etyNums rfl rfl HB3.out hB3 HO3.out HC3.out (by unfold maxLen; have := HLN3.out; omega) (by have := HLN3.out; omega) ?_))
    intro v4 w4 ho hb
    have HO4 : Hid (Own u64R W.heap.size 24 (fun x => False ∨ W.heap.size ≤ x) w4 v4 (l3 ++ s.rhos)) := Own.mono ho fun x _ h => by first | exact h | exact .inr h
    have HB4 := Lib.hid hb
    obtain ⟨l4, hle⟩ : ∃ l, l3 ++ s.rhos = l := ⟨_, rfl⟩
    have HE4 := Lib.hid hle
    have HLN4 : Hid (l4.length ≤ 5000) := by show _ ≤ _; have := HLN3.out; rw [← hle, List.length_append]; omega
    rw [hle] at HO4
    clear ho hb hle x0 x1 hB3
    obtain ⟨x0, x1⟩ := box_cells (box_after HB4.out HX.out)
    have hbn := bnew (Below.refl w4.heap.size w4) (.cells #[.int .u64 s.dep, .int .u64 s.wd, .int .u64 s.fee, .int .u64 s.acc, .int .u64 s.bind] 24)
    have HC4 := Lib.hid (nums_new w4 24 [s.dep, s.wd, s.fee, s.acc, s.bind] 5 (by intro x hx; simp at hx; rcases hx with rfl | rfl | rfl | rfl | rfl; exact HOK.out.1; exact HOK.out.2.1; exact HOK.out.2.2.1; exact HOK.out.2.2.2.1; exact HOK.out.2.2.2.2) (by simp) (by unfold maxLen; omega))
    have HBN := Lib.hid (bnext HB4.out hbn)
    have HON := Lib.hid (HO4.out.keepB hbn)
    have hB4 := HBN.out.size
    clear hbn
    go_wp2_with (at_builtin; go_loud (refine wpList_cat (k := .u64) (v := v4) (u := .slice (some ⟨w4.heap.size, 0, none⟩) 5 5) (w0 := W) (B := W.heap.size) (wr := w4.alloc (.cells #[.int .u64 s.dep, .int .u64 s.wd, .int .u64 s.fee, .int .u64 s.acc, .int .u64 s.bind] 24)) (ys := [s.dep, s.wd, s.fee, s.acc, s.bind]) rfl _ _ rfl Tryz.etyNums rfl rfl HBN.out hB4 HON.out HC4.out (by unfold maxLen; have := HLN4.out; simp; omega) (by have := HLN4.out; simp; omega) ?_))
    intro v5 w5 ho hb
    have HO5 : Hid (Own u64R W.heap.size 24 (fun x => False ∨ W.heap.size ≤ x) w5 v5 (l4 ++ [s.dep, s.wd, s.fee, s.acc, s.bind])) := Own.mono ho fun x _ h => by first | exact h | exact .inr h
    have HB5 := Lib.hid hb
    obtain ⟨l5, hle⟩ : ∃ l, l4 ++ [s.dep, s.wd, s.fee, s.acc, s.bind] = l := ⟨_, rfl⟩
    have HE5 := Lib.hid hle
    have HLN5 : Hid (l5.length ≤ 6000) := by show _ ≤ _; have := HLN4.out; rw [← hle, List.length_append]; simp; omega
    rw [hle] at HO5
    clear ho hb hle x0 x1 hB4
    have HL : Hid (l5 = digestL s) := by
      show _ = _
      rw [← HE5.out, ← HE4.out, ← HE3.out, ← HE2.out, ← HE1.out, ← HE0.out, ← HE.out]; rfl
    have hln : l5.length = 9 + s.marks.length + s.commits.length + s.rhos.length := by rw [HL.out, digestL_len]
    obtain ⟨g, cap, rfl, hc1, hc2, -, -, -, -, -⟩ := HO5.out.setInt 0 (by omega)
    have HOKL := Lib.hid (ints_wf HO5.out.slice)
    have HLL : Hid (l5.length ≤ 1000000) := by show _ ≤ _; omega
    have HLN := Lib.hid hln
    have hl5 : l5.length ≤ 4000 := by omega
    clear hln hc1 hc2
    go_wp2_with fail
    go_loopw [5] (fun vi wr => ∃ k : Nat, k ≤ l5.length ∧ vi = .int .i64 k ∧ Own u64R W.heap.size 24 (fun x => False ∨ W.heap.size ≤ x) wr (.slice (some ⟨g, 0, none⟩) l5.length cap) (redTo l5 k) ∧ Below W.heap.size W wr) (fun vi _ => l5.length - (intOf vi).toNat)
    case atStart => exact ⟨0, Nat.zero_le _, rfl, by simpa [redTo] using HO5.out, HB5.out⟩
    case round =>
      obtain ⟨k, hk, rfl, hor, hbr⟩ := hrel
      have HOR := Lib.hid hor
      clear hor
      by_cases hlt : k < l5.length
      · obtain ⟨g1, c1, he, -, -, hg1, hB1, hc1, hf1, -⟩ := HOR.out.setInt k (by rw [redTo_len]; exact hlt)
        rw [redTo_at l5 k hlt] at hc1
        simp only [Value.slice.injEq, Option.some.injEq, Addr.mk.injEq, true_and, and_true, redTo_len] at he
        obtain ⟨rfl, rfl⟩ := he
        have hx := okU_in (HOKL.out l5[k] (List.getElem_mem hlt))
        have HST := Lib.hid (redTo_set l5 k hlt)
        have i0 : (0 : Int) ≤ (k : Int) := by omega
        have i1 : (k : Int) < (l5.length : Int) := by omega
        have HRX := Lib.hid (redTo_at l5 k hlt)
        generalize hxe : l5[k] = x at *
        go_wp2_with fail
        refine (rReduce_big x hx.1 wr).mono ?_
        rintro e w2 ⟨rfl, hb2⟩
        have HO2 := Lib.hid (HOR.out.keepB hb2)
        have hbw := bnext hbr hb2
        obtain ⟨g2, c2, he, -, -, hg2, hB2, hc2, hf2, hset⟩ := HO2.out.setInt k (by rw [redTo_len]; exact hlt)
        simp only [Value.slice.injEq, Option.some.injEq, Addr.mk.injEq, true_and, and_true, redTo_len] at he
        obtain ⟨rfl, rfl⟩ := he
        have hrp := redP_in x
        obtain ⟨hs1, -⟩ := hset (redP x) (okU_of hrp.1 (by have := hrp.2; omega))
        rw [HST.out] at hs1
        have HS1 := Lib.hid hs1
        have HBS := Lib.hid (hbw.setCell (p := ⟨g, k, none⟩) hB2 (.int .u64 (redP x)))
        clear hs1 hset hc1 hf1 hbw
        generalize redP x = y at *
        go_wp2_with fail
        go_roundw
        case rel => exact ⟨k + 1, by omega, by go_num, HS1.out, HBS.out⟩
        case measure => simp [intOf]; omega
      · obtain rfl : k = l5.length := by omega
        have HRL : Hid (redTo l5 l5.length = (digestL s).map redP) := by show _ = _; rw [← HL.out]; simp [redTo]
        have hsl := HOR.out.slice
        have HSL := Lib.hid hsl
        have HLL2 := Lib.hid (redTo_len l5 l5.length)
        clear hsl
        go_wp2_with fail
        refine (rHash_len 24 (by omega) _ wr (some ⟨g, 0, none⟩) l5.length cap (redTo l5 l5.length) HLL2.out.symm HSL.out (by rw [HLL2.out]; exact HLL.out)).mono ?_
        rintro e w6 ⟨rfl, hb6⟩
        rw [HRL.out]
        go_wp2_with fail
        go_ret
        exact ⟨rfl, bnext HBA.out (bnext hbr hb6)⟩
end Go.Proofs.YtgjemeeeignlnaaGreatDoor
/- The reference's Check in the ideal mode. -/
namespace Go.Proofs.YtgjemeeeignlnaaGreatDoor
open Go.ChangeShapes Go.WideShapes Go.ChangeAt Go.RowKit Go.Sort

/-- The proofs of an oracle of the reference: none, or one. -/
def RpIn (S : Nat → Prop) (w : World) : Option (Int × List Int) → Option Addr → Nat → Nat → Prop
  | none, qa, ql, qc => qa = none ∧ ql = 0 ∧ qc = 0
  | some (dg, L), qa, ql, qc => ql = 1 ∧ storedsR.rel S w [.slice qa 1 qc] [(dg, 0, [], L)] ∧ L.length ≤ 1000000
theorem RpIn.keepB {S : Nat → Prop} {w w' : World} {rp : Option (Int × List Int)} {qa : Option Addr} {ql qc : Nat} (h : RpIn S w rp qa ql qc) (hb : Below w.heap.size w w') : RpIn S w' rp qa ql qc := by
  cases rp with
  | none => exact h
  | some x => exact ⟨h.1, storedsR.keepB h.2.1 hb, h.2.2⟩
theorem rproved_any (S S' : Nat → Prop) (w : World) (st n dg' : Int) (rp : Option (Int × List Int)) (qa : Option Addr) (ql qc : Nat) (hp : RpIn S w rp qa ql qc) (a : Option Addr) (len cap : Nat) (l : List Int) (hlen : l.length = len) (hl : numsR.rel S' w [.slice a len cap] l) :
    Calls Tryz.prog 65 #[.agg #[.int .u64 st, .int .i64 n, .slice none 0 0, .slice none 0 0, .slice qa ql qc], .int .u64 dg', .slice a len cap] w fun e w' => e = .returned (.bool (decide (rp = some (dg', l)))) ∧ Below w.heap.size w w' := by
  cases rp with
  | none =>
    obtain ⟨rfl, rfl, rfl⟩ := hp
    exact (rproved_nil w st n dg' _).mono fun e w' h => ⟨h.1.trans (ret_bool (by simp)), h.2⟩
  | some x =>
    obtain ⟨dg, L⟩ := x
    obtain ⟨rfl, h1, h2⟩ := hp
    exact (rproved_one S S' w st n dg dg' qa qc L h1 h2 a len cap l hlen hl).mono fun e w' h => ⟨h.1.trans (ret_bool (by simp)), h.2⟩
theorem rsize_any (c0 c1 c7 c8 c9 c10 c11 : Value) (a b d : Option Addr) (l0 k0 l1 k1 l2 k2 : Nat) (w : World) (h : l0 + l1 ≤ 1000) (Z : Int) (hZ : 64 + 32 * ((l0 + l1 : Nat) : Int) = Z) :
    Calls Tryz.prog 8 #[.agg #[c0, c1, .slice a l0 k0, .slice b l1 k1, .slice d l2 k2, c7, c8, c9, c10, c11]] w fun e w' => e = .returned (.int .i64 Z) ∧ Below w.heap.size w w' := by
  go_enter Tryz.func8, Tryz.ntmps8
  go_wp2
  go_ret
  exact ⟨ret_int (by omega), (Below.refl _ _).alloc (Nat.le_refl _) _⟩
def raccB (rp : Option (Int × List Int)) (s : StM) (proof : List Int) : Bool :=
  decide (proof.length = 64 + 32 * (s.marks.length + s.commits.length)) && decide (rp = some (hashS 24 ((digestL s).map redP), wordsTo proof (proof.length / 8)))
theorem RaK.of {P A X : Array Value} {b : Nat} {w1 w' : World} (h0 : w1.heap[b]? = some (.cells P 44 (0, 0))) (h : w1.heap[b + 1]? = some (.cells A 26 (0, 0))) (h2 : w1.heap[b + 2]? = some (.cells X 46 (0, 0))) (hb : Below w1.heap.size w1 w') : RcK P A X b w1 w' :=
  ⟨hb, (box_cells (box_after hb h0)).1, (box_cells (box_after hb h)).1, (box_cells (box_after hb h2)).1⟩
set_option maxRecDepth 100000 in
set_option maxHeartbeats 4000000 in
theorem raccepted_ideal (S S' S2 : Nat → Prop) (w : World) (st n : Int) (rp : Option (Int × List Int)) (qa : Option Addr) (ql qc : Nat) (hq : RpIn S2 w rp qa ql qc) (D bl bu qu rew win fin work : Int) (s : StM) (ma ca ra : Option Addr) (mc cc rc : Nat) (hs : StIn S w s ma ca ra mc cc rc) (b1 : s.marks.length ≤ 100) (b2 : s.commits.length ≤ 100) (b3 : s.rhos.length ≤ 100) (hd : s.depth < 9223372036854775808) (pa : Option Addr) (pc : Nat) (proof : List Int) (hp : bytesR.rel S' w [.slice pa proof.length pc] proof) (hpl : proof.length ≤ 1000000) :
    Calls Tryz.prog 36 #[.agg #[.bool true, .int .u64 st, .int .i64 n, .slice none 0 0, .slice none 0 0, .slice qa ql qc], .agg #[.int .i64 3, .int .i64 D, .int .i64 bl, .int .i64 bu, .int .i64 qu, .int .u64 rew, .int .i64 win, .int .i64 fin, .int .u64 work], .agg #[.int .i64 s.depth, .int .u64 s.anchor, .slice ma s.marks.length mc, .slice ca s.commits.length cc, .slice ra s.rhos.length rc, .int .u64 s.dep, .int .u64 s.wd, .int .u64 s.fee, .int .u64 s.acc, .int .u64 s.bind], .slice pa proof.length pc] w fun e w' => e = .returned (.bool (raccB rp s proof)) ∧ Below w.heap.size w w' := by
  have hbB := bnew (bnew (bnew (Below.refl w.heap.size w) (.cells #[.bool true, .int .u64 st, .int .i64 n, .slice none 0 0, .slice none 0 0, .slice qa ql qc] 44)) (.cells #[.int .i64 3, .int .i64 D, .int .i64 bl, .int .i64 bu, .int .i64 qu, .int .u64 rew, .int .i64 win, .int .i64 fin, .int .u64 work] 26)) (.cells #[.int .i64 s.depth, .int .u64 s.anchor, .slice ma s.marks.length mc, .slice ca s.commits.length cc, .slice ra s.rhos.length rc, .int .u64 s.dep, .int .u64 s.wd, .int .u64 s.fee, .int .u64 s.acc, .int .u64 s.bind] 46)
  have HA0 := Lib.hid (three_new w (.cells #[.bool true, .int .u64 st, .int .i64 n, .slice none 0 0, .slice none 0 0, .slice qa ql qc] 44) (.cells #[.int .i64 3, .int .i64 D, .int .i64 bl, .int .i64 bu, .int .i64 qu, .int .u64 rew, .int .i64 win, .int .i64 fin, .int .u64 work] 26) (.cells #[.int .i64 s.depth, .int .u64 s.anchor, .slice ma s.marks.length mc, .slice ca s.commits.length cc, .slice ra s.rhos.length rc, .int .u64 s.dep, .int .u64 s.wd, .int .u64 s.fee, .int .u64 s.acc, .int .u64 s.bind] 46)).2.2
  have HA1 := Lib.hid (three_new w (.cells #[.bool true, .int .u64 st, .int .i64 n, .slice none 0 0, .slice none 0 0, .slice qa ql qc] 44) (.cells #[.int .i64 3, .int .i64 D, .int .i64 bl, .int .i64 bu, .int .i64 qu, .int .u64 rew, .int .i64 win, .int .i64 fin, .int .u64 work] 26) (.cells #[.int .i64 s.depth, .int .u64 s.anchor, .slice ma s.marks.length mc, .slice ca s.commits.length cc, .slice ra s.rhos.length rc, .int .u64 s.dep, .int .u64 s.wd, .int .u64 s.fee, .int .u64 s.acc, .int .u64 s.bind] 46)).2.1
  have HA2 := Lib.hid (three_new w (.cells #[.bool true, .int .u64 st, .int .i64 n, .slice none 0 0, .slice none 0 0, .slice qa ql qc] 44) (.cells #[.int .i64 3, .int .i64 D, .int .i64 bl, .int .i64 bu, .int .i64 qu, .int .u64 rew, .int .i64 win, .int .i64 fin, .int .u64 work] 26) (.cells #[.int .i64 s.depth, .int .u64 s.anchor, .slice ma s.marks.length mc, .slice ca s.commits.length cc, .slice ra s.rhos.length rc, .int .u64 s.dep, .int .u64 s.wd, .int .u64 s.fee, .int .u64 s.acc, .int .u64 s.bind] 46)).1
  have HBel := Lib.hid hbB
  have HS := Lib.hid (hs.keepB hbB)
  have HP := Lib.hid (bytesR.keepB hp hbB)
  have HQ := Lib.hid (hq.keepB hbB)
  have HU : Hid (raccB rp s proof = (decide (proof.length = 64 + 32 * (s.marks.length + s.commits.length)) && decide (rp = some (hashS 24 ((digestL s).map redP), wordsTo proof (proof.length / 8))))) := rfl
  obtain ⟨Z, hZ⟩ : ∃ Z : Int, 64 + 32 * ((s.marks.length + s.commits.length : Nat) : Int) = Z := ⟨_, rfl⟩
  have HZ := Lib.hid hZ
  clear hbB hs hp hq hZ
  go_enter Tryz.func36, Tryz.ntmps36
  go_upto_region 4 with (fail)
  generalize ((w.alloc (.cells #[.bool true, .int .u64 st, .int .i64 n, .slice none 0 0, .slice none 0 0, .slice qa ql qc] 44)).alloc (.cells #[.int .i64 3, .int .i64 D, .int .i64 bl, .int .i64 bu, .int .i64 qu, .int .u64 rew, .int .i64 win, .int .i64 fin, .int .u64 work] 26)).alloc (.cells #[.int .i64 s.depth, .int .u64 s.anchor, .slice ma s.marks.length mc, .slice ca s.commits.length cc, .slice ra s.rhos.length rc, .int .u64 s.dep, .int .u64 s.wd, .int .u64 s.fee, .int .u64 s.acc, .int .u64 s.bind] 46) = W at *
  by_cases hsz : (proof.length : Int) = Z
  · have HV : Hid (raccB rp s proof = decide (rp = some (hashS 24 ((digestL s).map redP), wordsTo proof (proof.length / 8)))) := by show _ = _; rw [HU.out, decide_eq_true (show proof.length = 64 + 32 * (s.marks.length + s.commits.length) by have := HZ.out; omega)]; rfl
    have z1 : ((proof.length : Int) == Z) = true := by rw [beq_iff_eq]; exact hsz
    obtain ⟨N, hN⟩ : ∃ N, proof.length / 8 = N := ⟨_, rfl⟩
    have HN := Lib.hid hN
    rw [hN] at HV
    obtain ⟨dg, hdg⟩ : ∃ dg, hashS 24 ((digestL s).map redP) = dg := ⟨_, rfl⟩
    have HDG := Lib.hid hdg
    rw [hdg] at HV
    have HWL := Lib.hid (wordsTo_len proof N)
    clear hsz HU hN hdg
    go_region_held3 (fun w' => Below W.heap.size W w' ∧ (∀ o, w'.cell? ⟨w.heap.size, o, none⟩ = (#[.bool true, .int .u64 st, .int .i64 n, .slice none 0 0, .slice none 0 0, .slice qa ql qc] : Array Value)[o]?) ∧ (∀ o, w'.cell? ⟨w.heap.size + 1, o, none⟩ = (#[.int .i64 3, .int .i64 D, .int .i64 bl, .int .i64 bu, .int .i64 qu, .int .u64 rew, .int .i64 win, .int .i64 fin, .int .u64 work] : Array Value)[o]?) ∧ (∀ o, w'.cell? ⟨w.heap.size + 2, o, none⟩ = (#[.int .i64 s.depth, .int .u64 s.anchor, .slice ma s.marks.length mc, .slice ca s.commits.length cc, .slice ra s.rhos.length rc, .int .u64 s.dep, .int .u64 s.wd, .int .u64 s.fee, .int .u64 s.acc, .int .u64 s.bind] : Array Value)[o]?))
      (first
        | with_reducible exact RcK.drew (RaK.of HA0.out HA1.out HA2.out (Below.refl _ _))
        | with_reducible exact HK1.out
        | with_reducible exact HK2.out
        | with_reducible exact HK3.out
        | with_reducible exact HK4.out)
      (first
        | (go_at_call 8; refine (rsize_any _ _ _ _ _ _ _ _ _ _ _ _ _ _ _ _ _ (by omega) Z HZ.out).mono ?_; rintro e w1 ⟨rfl, hb1⟩
           have HK1 := Lib.hid (RaK.of HA0.out HA1.out HA2.out (bnext (‹Below W.heap.size W _ ∧ _›).1 hb1)))
        | (go_at_call 10; refine (rdigest_any S _ s ma ca ra mc cc rc (HS.out.keepB HK1.out.1) (by omega) (by omega) (by omega) hd).mono ?_; rintro e w2 ⟨rfl, hb2⟩
           rw [HDG.out]
           have HK2 := Lib.hid (RaK.of HA0.out HA1.out HA2.out (bnext HK1.out.1 hb2)))
        | (go_at_call 66; refine (relems_any S' _ pa pc proof (bytesR.keepB HP.out HK2.out.1) hpl).mono ?_; rintro e w3 ⟨a3, c3, rfl, hr3, hb3⟩
           rw [HN.out] at hr3 ⊢
           have HR3 := Lib.hid hr3; have HK3 := Lib.hid (RaK.of HA0.out HA1.out HA2.out (bnext HK2.out.1 hb3)); clear hr3)
        | (go_at_call 65; refine (rproved_any S2 (fun _ => True) _ st n dg rp qa ql qc (HQ.out.keepB HK3.out.1) a3 N c3 (wordsTo proof N) HWL.out HR3.out).mono ?_; rintro e w4 ⟨rfl, hb4⟩
           have HK4 := Lib.hid (RaK.of HA0.out HA1.out HA2.out (bnext HK3.out.1 hb4))))
    go_wp2_with fail
    go_ret
    exact ⟨ret_bool HV.out.symm, bnext HBel.out HK4.out.1⟩
  · have HV : Hid (raccB rp s proof = false) := by show _ = _; rw [HU.out, decide_eq_false (show ¬ proof.length = 64 + 32 * (s.marks.length + s.commits.length) by have := HZ.out; omega)]; rfl
    have z1 : ((proof.length : Int) == Z) = false := by rw [beq_eq_false_iff_ne]; exact hsz
    clear hsz HU
    have y0 := box_regrown HA0.out
    have y1 := box_regrown HA1.out
    have y2 := box_regrown HA2.out
    have hc : ∀ (d : Nat) (os : Array Obj), Calls Tryz.prog 8 #[.agg #[.int .i64 s.depth, .int .u64 s.anchor, .slice ma s.marks.length mc, .slice ca s.commits.length cc, .slice ra s.rhos.length rc, .int .u64 s.dep, .int .u64 s.wd, .int .u64 s.fee, .int .u64 s.acc, .int .u64 s.bind]] (grow (redrawn W d) os) fun e w' => e = .returned (.int .i64 Z) ∧ Below (grow (redrawn W d) os).heap.size (grow (redrawn W d) os) w' := fun d os => rsize_any _ _ _ _ _ _ _ _ _ _ _ _ _ _ _ _ _ (by omega) Z HZ.out
    refine wp_region_quiet_below (by kernel_rfl) (by kernel_rfl) ?_
    repeat (first | go_big_quiet_step (exact Calls.regrown_of (hc _ _)) | quiet_step (exact Calls.regrown_of (hc _ _)))
    refine wpQuiet_nil ?_
    intro wq hw'
    obtain ⟨⟨dq, osq⟩, hw''⟩ := hw'
    have hbwq := below_regrown W dq osq
    rw [← hw''] at hbwq
    clear hw'' y0 y1 y2 hc
    go_wp2_with fail
    go_ret
    exact ⟨ret_bool HV.out.symm, bnext HBel.out hbwq⟩
theorem raccepted_idst (S' S2 : Nat → Prop) (w : World) (st n : Int) (rp : Option (Int × List Int)) (qa : Option Addr) (ql qc : Nat) (hq : RpIn S2 w rp qa ql qc) (D : Nat) (bl bu qu rew win fin work : Int) (t : TxM) (bd : Int) (sa sb sc : Option Addr) (sd se sf : Nat) (hs : StIn (fun _ => True) w (stOf D t bd) sa sb sc sd se sf) (pa : Option Addr) (pc : Nat) (proof : List Int) (hp : bytesR.rel S' w [.slice pa proof.length pc] proof) (hpl : proof.length ≤ 1000000) (l1 : t.marks.length ≤ 4) (l2 : t.outs.length ≤ 4) (hD : D ≤ 12) :
    Calls Tryz.prog 36 #[.agg #[.bool true, .int .u64 st, .int .i64 n, .slice none 0 0, .slice none 0 0, .slice qa ql qc], .agg #[.int .i64 3, .int .i64 D, .int .i64 bl, .int .i64 bu, .int .i64 qu, .int .u64 rew, .int .i64 win, .int .i64 fin, .int .u64 work], .agg #[.int .i64 D, .int .u64 t.anchor, .slice sa t.marks.length sd, .slice sb t.outs.length se, .slice sc t.outs.length sf, .int .u64 t.dep, .int .u64 t.wd, .int .u64 t.fee, .int .u64 t.acc, .int .u64 bd], .slice pa proof.length pc] w fun e w' => e = .returned (.bool (raccB rp (stOf D t bd) proof)) ∧ Below w.heap.size w w' := by
  have e1 : (stOf D t bd).commits.length = t.outs.length := by simp [stOf]
  have e2 : (stOf D t bd).rhos.length = t.outs.length := rhosTo_len _ _
  have h := raccepted_ideal (fun _ => True) S' S2 w st n rp qa ql qc hq D bl bu qu rew win fin work (stOf D t bd) sa sb sc sd se sf hs (by show t.marks.length ≤ 100; omega) (by omega) (by omega) (by show (D : Int) < _; omega) pa pc proof hp hpl
  rw [e1, e2] at h
  exact h
def checkR (rp : Option (Int × List Int)) (d bl bu qu rew win fin work : Int) (t : TxM) : Int :=
  if rulesE 3 d bl bu qu rew win fin work = 0 then (if validE t = 0 then (if raccB rp (stOf d.toNat t (bindS t)) t.proof = true then 0 else 10) else validE t) else rulesE 3 d bl bu qu rew win fin work
set_option maxRecDepth 100000 in
set_option maxHeartbeats 4000000 in
theorem rcheck_ideal (S : Nat → Prop) (S2 : Nat → Prop) (w : World) (st n : Int) (rp : Option (Int × List Int)) (qa : Option Addr) (ql qc : Nat) (hq : RpIn S2 w rp qa ql qc) (d bl bu qu rew win fin work : Int) (t : TxM) (ma oa pa : Option Addr) (mc oc pc : Nat) (h : TxIn S w t ma oa pa mc oc pc) (hpl : t.proof.length ≤ 1000000) :
    Calls Tryz.prog 15 #[.agg #[.bool true, .int .u64 st, .int .i64 n, .slice none 0 0, .slice none 0 0, .slice qa ql qc], .agg #[.int .i64 3, .int .i64 d, .int .i64 bl, .int .i64 bu, .int .i64 qu, .int .u64 rew, .int .i64 win, .int .i64 fin, .int .u64 work], .agg #[.int .u64 t.anchor, .slice ma t.marks.length mc, .slice oa t.outs.length oc, .int .u64 t.dep, .int .u64 t.wd, .int .u64 t.fee, .int .u64 t.acc, .int .u64 t.nonce, .int .i64 t.exp, .slice pa t.proof.length pc]] w fun e w' => e = .returned (.int .i64 (checkR rp d bl bu qu rew win fin work t)) ∧ Below w.heap.size w w' := by
  have hbB := (bnew (bnew (bnew (Below.refl w.heap.size w) (.cells #[.bool true, .int .u64 st, .int .i64 n, .slice none 0 0, .slice none 0 0, .slice qa ql qc] 44)) (.cells #[.int .i64 3, .int .i64 d, .int .i64 bl, .int .i64 bu, .int .i64 qu, .int .u64 rew, .int .i64 win, .int .i64 fin, .int .u64 work] 26)) (.cells #[.int .u64 t.anchor, .slice ma t.marks.length mc, .slice oa t.outs.length oc, .int .u64 t.dep, .int .u64 t.wd, .int .u64 t.fee, .int .u64 t.acc, .int .u64 t.nonce, .int .i64 t.exp, .slice pa t.proof.length pc] 31))
  have HA0 := Lib.hid (three_new w (.cells #[.bool true, .int .u64 st, .int .i64 n, .slice none 0 0, .slice none 0 0, .slice qa ql qc] 44) (.cells #[.int .i64 3, .int .i64 d, .int .i64 bl, .int .i64 bu, .int .i64 qu, .int .u64 rew, .int .i64 win, .int .i64 fin, .int .u64 work] 26) (.cells #[.int .u64 t.anchor, .slice ma t.marks.length mc, .slice oa t.outs.length oc, .int .u64 t.dep, .int .u64 t.wd, .int .u64 t.fee, .int .u64 t.acc, .int .u64 t.nonce, .int .i64 t.exp, .slice pa t.proof.length pc] 31)).2.2
  have HA1 := Lib.hid (three_new w (.cells #[.bool true, .int .u64 st, .int .i64 n, .slice none 0 0, .slice none 0 0, .slice qa ql qc] 44) (.cells #[.int .i64 3, .int .i64 d, .int .i64 bl, .int .i64 bu, .int .i64 qu, .int .u64 rew, .int .i64 win, .int .i64 fin, .int .u64 work] 26) (.cells #[.int .u64 t.anchor, .slice ma t.marks.length mc, .slice oa t.outs.length oc, .int .u64 t.dep, .int .u64 t.wd, .int .u64 t.fee, .int .u64 t.acc, .int .u64 t.nonce, .int .i64 t.exp, .slice pa t.proof.length pc] 31)).2.1
  have HA2 := Lib.hid (three_new w (.cells #[.bool true, .int .u64 st, .int .i64 n, .slice none 0 0, .slice none 0 0, .slice qa ql qc] 44) (.cells #[.int .i64 3, .int .i64 d, .int .i64 bl, .int .i64 bu, .int .i64 qu, .int .u64 rew, .int .i64 win, .int .i64 fin, .int .u64 work] 26) (.cells #[.int .u64 t.anchor, .slice ma t.marks.length mc, .slice oa t.outs.length oc, .int .u64 t.dep, .int .u64 t.wd, .int .u64 t.fee, .int .u64 t.acc, .int .u64 t.nonce, .int .i64 t.exp, .slice pa t.proof.length pc] 31)).1
  have HBel := Lib.hid hbB
  have H := Lib.hid (h.keepB hbB)
  have HQ := Lib.hid (hq.keepB hbB)
  have HU : Hid (checkR rp d bl bu qu rew win fin work t = if rulesE 3 d bl bu qu rew win fin work = 0 then (if validE t = 0 then (if raccB rp (stOf d.toNat t (bindS t)) t.proof = true then 0 else 10) else validE t) else rulesE 3 d bl bu qu rew win fin work) := rfl
  clear hbB h hq
  go_enter Tryz.func15, Tryz.ntmps15
  go_wp2_with fail
  generalize ((w.alloc (.cells #[.bool true, .int .u64 st, .int .i64 n, .slice none 0 0, .slice none 0 0, .slice qa ql qc] 44)).alloc (.cells #[.int .i64 3, .int .i64 d, .int .i64 bl, .int .i64 bu, .int .i64 qu, .int .u64 rew, .int .i64 win, .int .i64 fin, .int .u64 work] 26)).alloc (.cells #[.int .u64 t.anchor, .slice ma t.marks.length mc, .slice oa t.outs.length oc, .int .u64 t.dep, .int .u64 t.wd, .int .u64 t.fee, .int .u64 t.acc, .int .u64 t.nonce, .int .i64 t.exp, .slice pa t.proof.length pc] 31) = W at *
  refine (refRules_any 3 d bl bu qu rew win fin work W).mono ?_
  rintro e w1 ⟨rfl, hb1⟩
  by_cases hr : rulesE 3 d bl bu qu rew win fin work = 0
  · obtain ⟨d0, d1⟩ := rulesE_depth hr
    have HU2 : Hid (checkR rp d bl bu qu rew win fin work t = if validE t = 0 then (if raccB rp (stOf d.toNat t (bindS t)) t.proof = true then 0 else 10) else validE t) := by show _ = _; rw [HU.out, if_pos hr]
    rw [hr]
    clear hr HU
    obtain ⟨D, hD⟩ := Int.eq_ofNat_of_zero_le (show 0 ≤ d by omega)
    subst hD
    rw [Int.toNat_natCast] at HU2
    obtain ⟨x0, x1⟩ := box_cells (box_after hb1 HA1.out)
    obtain ⟨y0, y1⟩ := box_cells (box_after hb1 HA2.out)
    obtain ⟨z0, z1⟩ := box_cells (box_after hb1 HA0.out)
    go_wp2_with fail
    refine (rtxValid_any S w1 t ma oa pa mc oc pc (H.out.keepB hb1)).mono ?_
    rintro e w3 ⟨rfl, hb3⟩
    have hb3d := bnext hb1 hb3
    by_cases hv : validE t = 0
    · have HV := Lib.hid hv
      have HU3 : Hid (checkR rp D bl bu qu rew win fin work t = if raccB rp (stOf D t (bindS t)) t.proof = true then 0 else 10) := by show _ = _; rw [HU2.out, if_pos hv]
      rw [hv]
      clear hv HU2 x0 x1 y0 y1 z0 z1
      have HP3 := Lib.hid (box_after hb3d HA0.out)
      have HA3 := Lib.hid (box_after hb3d HA1.out)
      have HB3 := Lib.hid (box_after hb3d HA2.out)
      have H3 := Lib.hid (H.out.keepB hb3d)
      go_wp2_with fail
      go_region_held3 (fun w' => Below w3.heap.size w3 w' ∧ (∀ o, w'.cell? ⟨w.heap.size, o, none⟩ = (#[.bool true, .int .u64 st, .int .i64 n, .slice none 0 0, .slice none 0 0, .slice qa ql qc] : Array Value)[o]?) ∧ (∀ o, w'.cell? ⟨w.heap.size + 1, o, none⟩ = (#[.int .i64 3, .int .i64 D, .int .i64 bl, .int .i64 bu, .int .i64 qu, .int .u64 rew, .int .i64 win, .int .i64 fin, .int .u64 work] : Array Value)[o]?) ∧ (∀ o, w'.cell? ⟨w.heap.size + 2, o, none⟩ = (#[.int .u64 t.anchor, .slice ma t.marks.length mc, .slice oa t.outs.length oc, .int .u64 t.dep, .int .u64 t.wd, .int .u64 t.fee, .int .u64 t.acc, .int .u64 t.nonce, .int .i64 t.exp, .slice pa t.proof.length pc] : Array Value)[o]?))
        (first
          | with_reducible exact RcK.drew (RcK.of HP3.out HA3.out HB3.out (Below.refl _ _))
          | with_reducible exact HK1.out
          | with_reducible exact HK2.out)
        (first
          | (go_at_call 7; refine (rStatement_any S _ t ma oa pa mc oc pc (H3.out.keepB (‹Below w3.heap.size w3 _ ∧ _›).1) HV.out D (by omega)).mono ?_; rintro e w4 ⟨sb, sc, se, sf, rfl, hst, hb4⟩
             have HST := Lib.hid hst; have HK1 := Lib.hid (RcK.of HP3.out HA3.out HB3.out (bnext (‹Below w3.heap.size w3 _ ∧ _›).1 hb4)); clear hst)
          | (go_at_call 36; refine (raccepted_idst S S2 _ st n rp qa ql qc (HQ.out.keepB (bnext hb3d HK1.out.1)) D bl bu qu rew win fin work t (bindS t) ma sb sc mc se sf HST.out pa pc t.proof (bytesR.keepB H3.out.proof HK1.out.1) hpl (validE_sizes HV.out).1 (validE_sizes HV.out).2.1 (by omega)).mono ?_; rintro e w5 ⟨rfl, hb5⟩
             have HK2 := Lib.hid (RcK.of HP3.out HA3.out HB3.out (bnext HK1.out.1 hb5))))
      have hfin := bnext HBel.out (bnext hb3d HK2.out.1)
      cases hac : raccB rp (stOf D t (bindS t)) t.proof with
      | true =>
        have HF : Hid (checkR rp D bl bu qu rew win fin work t = 0) := by show _ = _; rw [HU3.out, hac]; rfl
        go_wp2_with fail
        go_ret
        exact ⟨ret_int HF.out.symm, hfin⟩
      | false =>
        have HF : Hid (checkR rp D bl bu qu rew win fin work t = 10) := by show _ = _; rw [HU3.out, hac]; rfl
        go_wp2_with fail
        go_ret
        exact ⟨ret_int HF.out.symm, hfin⟩
    · have HF : Hid (checkR rp D bl bu qu rew win fin work t = validE t) := by show _ = _; rw [HU2.out, if_neg hv]
      have z1 : (validE t == 0) = false := by rw [beq_eq_false_iff_ne]; exact hv
      have z2 : (validE t != 0) = true := by rw [bne_iff_ne]; exact hv
      clear hv HU2
      generalize validE t = r at *
      go_wp2_with fail
      go_ret
      exact ⟨ret_int HF.out.symm, bnext HBel.out hb3d⟩
  · have HF : Hid (checkR rp d bl bu qu rew win fin work t = 1) := by show _ = _; rw [HU.out, if_neg hr, rulesE_one' hr]
    have z1 : (rulesE 3 d bl bu qu rew win fin work == 0) = false := by rw [beq_eq_false_iff_ne]; exact hr
    have z2 : (rulesE 3 d bl bu qu rew win fin work != 0) = true := by rw [bne_iff_ne]; exact hr
    clear hr HU
    generalize rulesE 3 d bl bu qu rew win fin work = r at *
    go_wp2_with fail
    go_ret
    exact ⟨ret_int HF.out.symm, bnext HBel.out hb1⟩
end Go.Proofs.YtgjemeeeignlnaaGreatDoor
