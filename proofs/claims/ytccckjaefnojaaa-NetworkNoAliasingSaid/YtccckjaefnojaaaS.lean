/- The law's play: operations on a network and on the reference. -/
import Derived.Test.YtccckjaefnojaaaR
namespace Go.Proofs.Ytccckjaefnojaaa
open Go.ChangeShapes Go.WideShapes Go.ChangeAt Go.RowKit

def stepL (nodes : Int) (ms : List Msg) (o : OpM) : List Msg :=
  if o.kind % 5 = 0 then (sendL nodes ms o.l).1 else if o.kind % 5 = 1 then withoutL ms o.n else if o.kind % 5 = 2 then withoutL ms o.n else if o.kind % 5 = 3 then copyL ms o.n else cutL o.g ms
def playL (nodes : Int) (ops : List OpM) : List Msg := ops.foldl (stepL nodes) []
theorem playL_snoc (nodes : Int) (ops : List OpM) (k : Nat) (h : k < ops.length) : playL nodes (ops.take (k + 1)) = stepL nodes (playL nodes (ops.take k)) ops[k] := by
  unfold playL
  rw [List.take_succ_eq_append_getElem h, List.foldl_append]; rfl

/-- A network at p and a list lv that agree: both hold ms; apart in memory. -/
def PlayAt (w : World) (p : Nat) (nodes : Int) (ms : List Msg) (lv : Value) (wr : World) : Prop :=
  ∃ O R : Nat → Prop, NetAt O wr p nodes ms ∧ (∀ x, O x → w.heap.size ≤ x ∧ x < wr.heap.size) ∧ msgsR.rel R wr [lv] ms ∧ (∀ x, R x → ¬ O x ∧ x < wr.heap.size) ∧ Below w.heap.size w wr
theorem PlayAt.mk {O R : Nat → Prop} {w w2 w3 : World} {p : Nat} {nodes : Int} {ms' : List Msg} {lv : Value} (hO : ∀ x, O x → w.heap.size ≤ x) (hn : NetAt (fun k => O k ∨ w2.heap.size ≤ k) w3 p nodes ms') (hk : Kept (fun k => ¬ O k) w2 w3)
    (hr : msgsR.rel R w2 [lv] ms') (hR : ∀ x, R x → x < w2.heap.size → ¬ O x) (hb : Below w.heap.size w w2) : PlayAt w p nodes ms' lv w3 := by
  have hz := hb.size
  refine ⟨fun k => (O k ∨ w2.heap.size ≤ k) ∧ k < w3.heap.size, fun k => R k ∧ k < w2.heap.size, hn.mono fun k hk h => ⟨h, hk⟩, fun x h => ⟨?_, h.2⟩, msgsR.keep (msgsR.bound hr) (hk.mono fun k _ h => hR k h.1 h.2), fun x h => ⟨?_, Nat.lt_of_lt_of_le h.2 hk.size⟩, Kept.behind hb hk hz fun k hk' h => ?_⟩
  · rcases h.1 with h | h
    · exact hO x h
    · omega
  · rintro ⟨h' | h', -⟩
    · exact hR x h.1 h.2 h'
    · omega
  · have := hO k h; omega
theorem PlayAt.below {w : World} {p : Nat} {nodes : Int} {ms : List Msg} {lv : Value} {wr w1 : World} (h : PlayAt w p nodes ms lv wr) (hb : Below wr.heap.size wr w1) : PlayAt w p nodes ms lv w1 := by
  obtain ⟨O, R, h1, h2, h3, h4, h5⟩ := h
  have hz := hb.size
  exact ⟨O, R, h1.keep (Kept.of_below hb), fun x hx => ⟨(h2 x hx).1, Nat.lt_of_lt_of_le (h2 x hx).2 hz⟩, msgsR.keepB h3 hb, fun x hx => ⟨(h4 x hx).1, Nat.lt_of_lt_of_le (h4 x hx).2 hz⟩, bnext h5 hb⟩

theorem okOp_parts {o : OpM} (h : okOp o = true) : o.l.length ≤ 20 ∧ o.g.length ≤ 20 ∧ ∀ m ∈ o.l, m.bytes.length ≤ 100 := by
  unfold okOp okMsgs at h
  simp only [Bool.and_eq_true, decide_eq_true_eq, List.all_eq_true] at h
  exact ⟨h.1.1, h.1.2, h.2⟩
theorem copy_send {O : Nat → Prop} {w : World} {p : Nat} {nodes : Int} {ms : List Msg} {i : Int} (hn : NetAt O w p nodes ms) (h : copyB ms i = true) : (sendL nodes ms ((ms.drop i.toNat).take 1)).1 = copyL ms i := by
  obtain ⟨-, -, -, -, n5, -⟩ := hn
  have hc := h
  unfold copyB at hc
  have hb := of_decide_eq_true hc
  obtain ⟨k, rfl⟩ := Int.eq_ofNat_of_zero_le hb.1
  have hk : k < ms.length := by omega
  obtain ⟨e1, e2⟩ := copy_fit hk n5
  rw [Int.toNat_natCast, take_one_drop ms k hk, send_one, e2]
def PlayRet (w : World) (nodes : Int) (ms : List Msg) (e : Ending) (w' : World) : Prop :=
  ∃ p lv, e = .returned (.tuple #[.pointer (some ⟨p, 0, none⟩), lv, .bool true]) ∧ PlayAt w p nodes ms lv w'

theorem Try.ety48 : ElemTy Try.prog 48 3 1 8 := ElemTy.of Try.underlying48 (z := .int .i64 0) (by kernel_rfl) rfl (by omega)
theorem takeM_in {ms : List Msg} {k : Nat} (h : k < ms.length) : takeM ms k = ms[k] := by
  have hi : inB ms k = true := by unfold inB; exact decide_eq_true (by omega)
  unfold takeM
  rw [hi, if_pos rfl, Int.toNat_natCast]
  simp [List.getD, h]

set_option maxRecDepth 100000 in
set_option maxHeartbeats 4000000 in
theorem play_any (w : World) (nodes : Int) (a : Option Addr) (cap : Nat) (ops : List OpM) (h1 : 1 ≤ nodes) (h2 : nodes ≤ 64) (hops : (sliceR opR).rel (fun k => k < w.heap.size) w [.slice a ops.length cap] ops) (hfair : fairB ops = true) :
    Calls Try.prog 18 #[.int .i64 nodes, .slice a ops.length cap] w (PlayRet w nodes (playL nodes ops)) := by
  obtain ⟨-, g1, g2, -⟩ := sliceR.lens hops
  unfold maxLen at g2
  have hok : ∀ o ∈ ops, okOp o = true := by
    unfold fairB at hfair
    rw [Bool.and_eq_true, List.all_eq_true] at hfair
    exact hfair.1
  have HOK := Lib.hid hok
  have hsn := Lib.hid (playL_snoc nodes ops)
  clear hok hfair
  go_enter Try.func18, Try.ntmps18
  go_wp2_with fail
  refine (new_ok nodes w h1 h2).mono ?_
  rintro e w0 ⟨rfl, hw0⟩
  have hp0 : PlayAt w w.heap.size nodes [] (.slice none 0 0) w0 := by
    rw [hw0]
    exact ⟨fun k => w.heap.size ≤ k ∧ k < w.heap.size + 1, fun _ => False, (NetAt.new h1 h2).mono fun k hk h => ⟨h, by simpa using hk⟩, fun x h => ⟨h.1, by simpa using h.2⟩, sliceR.nil, fun x h => h.elim, bnew (Below.refl _ _) _⟩
  clear hw0
  go_wp2_with fail
  go_loopw [9, 50] (fun lv i wr => ∃ k : Nat, k ≤ ops.length ∧ i = .int .i64 k ∧ PlayAt w w.heap.size nodes (playL nodes (ops.take k)) lv wr) (fun _ i _ => ops.length - (intOf i).toNat)
  case atStart => exact ⟨0, Nat.zero_le _, rfl, hp0⟩
  case round =>
    obtain ⟨k, hk, rfl, O, R, hn, hO, hlr, hR, hbr⟩ := hrel
    clear hp0
    obtain ⟨lva, lvc, rfl, g5, g6⟩ := sliceR.form hlr
    by_cases hlt : k < ops.length
    · obtain ⟨b, off, la, lc, ga, gc, rfl, -, hbl, wf1, wf2, hL, hG, c0, c1, c2, c3⟩ := ops_at ((sliceR opR).keepB hops hbr) k hlt
      have hs1 := Lib.hid (hsn.out k hlt)
      have hokk := HOK.out ops[k] (by simp)
      have okp := okOp_parts hokk
      have ok1 := okp.1
      have ok2 := okp.2.1
      have ok3 := Lib.hid okp.2.2
      have HO := Lib.hid hO
      have HR := Lib.hid hR
      clear hokk okp
      generalize ops[k] = o at *
      generalize playL nodes (List.take k ops) = ms at *
      have hms4 := hn.2.2.2.1
      have hbx := bnew (Below.refl wr.heap.size wr) (.cells #[.int .u8 o.kind, .slice la o.l.length lc, .int .i64 o.n, .slice ga o.g.length gc] 50)
      have hkd : 0 ≤ o.kind ∧ o.kind ≤ 255 := by simpa [Lit.wf, IntKind.min, IntKind.max, IntKind.signed, IntKind.bits] using wf1
      by_cases q0 : o.kind % 5 = 0
      · have e0 : (o.kind % 5 == 0) = true := by simpa using q0
        have HQ : Hid (stepL nodes ms o = (sendL nodes ms o.l).1) := by show _ = _; unfold stepL; rw [if_pos q0]
        clear q0
        go_wp2_with fail
        refine (refSend_any (fun x => R x ∨ x < w.heap.size) _ nodes ms o.l lva la lvc lc (msgsR.mono (msgsR.keepB hlr hbx) fun _ _ h => .inl h) (msgsR.mono (msgsR.keepB hL hbx) fun _ _ h => .inr h) hms4).mono ?_
        rintro e w1 ⟨na, nc, rfl, hr1, hb1⟩
        obtain ⟨d0, f0⟩ := box_cells (box_after hb1 (box_new wr _))
        go_wp2_with fail
        refine (cp_any _ w1 la lc o.l (msgsR.keepB (msgsR.keepB hL hbx) hb1) (by omega) (fun m hm => by have := ok3.out m hm; omega)).mono ?_
        rintro e w2 ⟨ca, cc, rfl, hr2, hb2⟩
        have hbb := bnext (bnext hbx hb1) hb2
        have hz1 := (bnext hbx hb1).size
        go_wp2_with fail
        refine (send_any O _ w2 w.heap.size nodes ms ca cc o.l (hn.keep (Kept.of_below hbb)) hr2 (fun x hx h => by have := (HO.out x h).2; omega)).mono ?_
        rintro e w3 ⟨rfl, hn3, hk3⟩
        go_wp2_with fail
        refine (len_any _ w3 _ nodes _ hn3).mono ?_
        rintro e w4 ⟨rfl, rfl⟩
        have hp : PlayAt w w.heap.size nodes (playL nodes (List.take (k + 1) ops)) (.slice na (sendL nodes ms o.l).1.length nc) w3 := by
          rw [hs1.out, HQ.out]
          refine PlayAt.mk (fun x h => (HO.out x h).1) hn3 hk3 (msgsR.keepB hr1 hb2) ?_ (bnext hbr hbb)
          rintro x ((h | h) | h) _ hOx
          · exact (HR.out x h).1 hOx
          · have := (HO.out x hOx).1; omega
          · have := (HO.out x hOx).2; simp at h; omega
        go_wp2_with fail
        go_roundw
        case rel => exact ⟨k + 1, by omega, by go_num, hp⟩
        case measure => simp [intOf]; omega
      · have e0 : (o.kind % 5 == 0) = false := by simpa using q0
        by_cases q1 : o.kind % 5 = 1
        · have e1 : (o.kind % 5 == 1) = true := by simpa using q1
          have HQ : Hid (stepL nodes ms o = withoutL ms o.n) := by show _ = _; unfold stepL; rw [if_neg q0, if_pos q1]
          clear q0 q1
          generalize hnn : o.n = nn at *
          clear hnn
          by_cases hin : 0 ≤ nn ∧ nn < ms.length
          · obtain ⟨i, rfl⟩ := Int.eq_ofNat_of_zero_le hin.1
            have hi : i < ms.length := by omega
            have HIN : Hid (inB ms i = true) := by show _ = _; unfold inB; exact decide_eq_true hin
            have HTM := Lib.hid (takeM_in hi)
            have t1 : (0 : Int) ≤ (i : Int) := by omega
            have t2 : (i : Int) < (ms.length : Int) := by omega
            clear hin
            go_wp2_with fail
            refine (without_any R _ ms i lva lvc (msgsR.keepB hlr hbx) (by omega)).mono ?_
            rintro e w1 ⟨na, nc, rfl, hr1, hb1⟩
            rw [HIN.out]
            obtain ⟨d0, f0⟩ := box_cells (box_after hb1 (box_new wr _))
            have hbb := bnext hbx hb1
            go_wp2_with fail
            refine (take_any O w1 w.heap.size nodes ms i (hn.keep (Kept.of_below hbb))).mono ?_
            rintro e w3 ⟨cs7, rfl, ⟨S7, hm7, -⟩, hn3, hk3⟩
            rw [HIN.out]
            rw [HTM.out] at hm7
            obtain ⟨v7, rfl, -, -, -, hby7⟩ := msgR.inv hm7
            obtain ⟨va7, vc7, rfl, -, -⟩ := sliceR.form hby7
            have hlr3 := msgsR.keep (msgsR.keepB hlr hbb) (hk3.mono fun x _ h => (HR.out x h).1)
            obtain ⟨lb, loff, va, vc, rfl, -, hlb, hrm, m0, m1, m2, m3⟩ := msgs_at hlr3 i hi
            have hbo := box_kept hk3 (box_after hb1 (box_new wr _)) (fun h => absurd (HO.out _ h).2 (Nat.lt_irrefl _))
            obtain ⟨x0, x1⟩ := box_cells hbo
            have hbol := box_lt hbo
            have z1 : ¬ wr.heap.size = w3.heap.size := by omega
            have z2 : ¬ wr.heap.size = w3.heap.size + 1 := by omega
            have z3 : ¬ lb = w3.heap.size := by omega
            have z4 : ¬ lb = w3.heap.size + 1 := by omega
            have HBY := Lib.hid (msgR.bytes hrm)
            have HB7 := Lib.hid hby7
            have hp3 : PlayAt w w.heap.size nodes (playL nodes (List.take (k + 1) ops)) (.slice na (withoutL ms i).length nc) w3 := by
              rw [hs1.out, HQ.out]
              refine PlayAt.mk (fun x h => (HO.out x h).1) hn3 hk3 hr1 ?_ (bnext hbr hbb)
              rintro x (h | h) _ hOx
              · exact (HR.out x h).1 hOx
              · have := (HO.out x hOx).2; simp at h; omega
            clear d0 f0 hm7 hby7 hrm c0 c1 c2 c3
            generalize hmm : ms[i] = m at *
            have hbA := bnew (bnew (Below.refl w3.heap.size w3) (.cells #[.int .i64 m.kind, .int .i64 m.frm, .int .i64 m.to, .slice va7 m.bytes.length vc7] 24)) (.cells #[.int .i64 m.kind, .int .i64 m.frm, .int .i64 m.to, .slice va m.bytes.length vc] 24)
            clear hmm
            go_wp2_with fail
            refine (equal_any S7 R _ m m va7 va vc7 vc (bytesR.keepB HB7.out hbA) (bytesR.keepB HBY.out hbA)).mono ?_
            rintro e w4 ⟨rfl, hb4⟩
            rw [eqB_refl]
            have hb5 := bnext hbA hb4
            go_wp2_with fail
            refine (len_any _ w4 _ nodes _ (hn3.keep (Kept.of_below hb5))).mono ?_
            rintro e w5 ⟨rfl, rfl⟩
            have hp := hp3.below hb5
            go_wp2_with fail
            go_roundw
            case rel => exact ⟨k + 1, by omega, by go_num, hp⟩
            case measure => simp [intOf]; omega
          · have HIN : Hid (inB ms nn = false) := by show _ = _; unfold inB; exact decide_eq_false hin
            have HTM : Hid (takeM ms nn = msg0) := by show _ = _; unfold takeM; rw [HIN.out, if_neg (by simp)]
            clear hin
            go_wp2_with fail
            refine (without_any R _ ms nn lva lvc (msgsR.keepB hlr hbx) (by omega)).mono ?_
            rintro e w1 ⟨na, nc, rfl, hr1, hb1⟩
            rw [HIN.out]
            obtain ⟨d0, f0⟩ := box_cells (box_after hb1 (box_new wr _))
            have hbb := bnext hbx hb1
            go_wp2_with fail
            refine (take_any O w1 w.heap.size nodes ms nn (hn.keep (Kept.of_below hbb))).mono ?_
            rintro e w3 ⟨cs7, rfl, ⟨S7, hm7, -⟩, hn3, hk3⟩
            rw [HIN.out]
            rw [HTM.out] at hm7
            obtain ⟨v7, rfl, -, -, -, hby7⟩ := msgR.inv hm7
            obtain ⟨va7, vc7, rfl, -, -⟩ := sliceR.form hby7
            have HB7 := Lib.hid hby7
            have hp3 : PlayAt w w.heap.size nodes (playL nodes (List.take (k + 1) ops)) (.slice na (withoutL ms nn).length nc) w3 := by
              rw [hs1.out, HQ.out]
              refine PlayAt.mk (fun x h => (HO.out x h).1) hn3 hk3 hr1 ?_ (bnext hbr hbb)
              rintro x (h | h) _ hOx
              · exact (HR.out x h).1 hOx
              · have := (HO.out x hOx).2; simp at h; omega
            clear d0 f0 hm7 hby7 c0 c1 c2 c3
            have hbA := bnew (bnew (Below.refl w3.heap.size w3) (.cells #[.int .i64 msg0.kind, .int .i64 msg0.frm, .int .i64 msg0.to, .slice va7 msg0.bytes.length vc7] 24)) (.cells #[.int .i64 0, .int .i64 0, .int .i64 0, .slice none 0 0] 24)
            go_wp2_with fail
            refine (equal_any S7 (fun _ => False) _ msg0 msg0 va7 none vc7 0 (bytesR.keepB HB7.out hbA) sliceR.nil).mono ?_
            rintro e w4 ⟨rfl, hb4⟩
            rw [eqB_refl]
            have hb5 := bnext hbA hb4
            go_wp2_with fail
            refine (len_any _ w4 _ nodes _ (hn3.keep (Kept.of_below hb5))).mono ?_
            rintro e w5 ⟨rfl, rfl⟩
            have hp := hp3.below hb5
            go_wp2_with fail
            go_roundw
            case rel => exact ⟨k + 1, by omega, by go_num, hp⟩
            case measure => simp [intOf]; omega
        · have e1 : (o.kind % 5 == 1) = false := by simpa using q1
          by_cases q2 : o.kind % 5 = 2
          · have e2 : (o.kind % 5 == 2) = true := by simpa using q2
            have HQ : Hid (stepL nodes ms o = withoutL ms o.n) := by show _ = _; unfold stepL; rw [if_neg q0, if_neg q1, if_pos q2]
            clear q0 q1 q2
            go_wp2_with fail
            refine (without_any R _ ms o.n lva lvc (msgsR.keepB hlr hbx) (by omega)).mono ?_
            rintro e w1 ⟨na, nc, rfl, hr1, hb1⟩
            obtain ⟨d0, f0⟩ := box_cells (box_after hb1 (box_new wr _))
            have hbb := bnext hbx hb1
            go_wp2_with fail
            refine (drop_any O w1 w.heap.size nodes ms o.n (hn.keep (Kept.of_below hbb))).mono ?_
            rintro e w3 ⟨rfl, hn3, hk3⟩
            go_wp2_with fail
            refine (len_any _ w3 _ nodes _ hn3).mono ?_
            rintro e w4 ⟨rfl, rfl⟩
            have hp : PlayAt w w.heap.size nodes (playL nodes (List.take (k + 1) ops)) (.slice na (withoutL ms o.n).length nc) w3 := by
              rw [hs1.out, HQ.out]
              refine PlayAt.mk (fun x h => (HO.out x h).1) hn3 hk3 hr1 ?_ (bnext hbr hbb)
              rintro x (h | h) _ hOx
              · exact (HR.out x h).1 hOx
              · have := (HO.out x hOx).2; simp at h; omega
            go_wp2_with fail
            go_roundw
            case rel => exact ⟨k + 1, by omega, by go_num, hp⟩
            case measure => simp [intOf]; omega
          · have e2 : (o.kind % 5 == 2) = false := by simpa using q2
            by_cases q3 : o.kind % 5 = 3
            · have e3 : (o.kind % 5 == 3) = true := by simpa using q3
              have HQ : Hid (stepL nodes ms o = copyL ms o.n) := by show _ = _; unfold stepL; rw [if_neg q0, if_neg q1, if_neg q2, if_pos q3]
              clear q0 q1 q2 q3
              generalize hnn : o.n = nn at *
              clear hnn
              by_cases hcb : copyB ms nn = true
              · have hcc := of_decide_eq_true hcb
                obtain ⟨i, rfl⟩ := Int.eq_ofNat_of_zero_le hcc.1
                have hi : i < ms.length := by omega
                have hi4 : ms.length < 4096 := hcc.2.2
                obtain ⟨lb, loff, va, vc, rfl, -, -⟩ := msgs_at hlr i hi
                have r2 := sliceR.take (sliceR.drop hlr i (by omega) ⟨lb, loff + i * 4, none⟩ (fun _ => rfl)) 1 (by omega)
                rw [take_one_drop ms i hi] at r2
                have hse := copy_send hn hcb
                rw [Int.toNat_natCast, take_one_drop ms i hi] at hse
                have HSE := Lib.hid hse
                have HCB := Lib.hid hcb
                have R2 := Lib.hid r2
                have t1 : (0 : Int) ≤ (i : Int) := by omega
                have t2 : (i : Int) < (ms.length : Int) := by omega
                have t3 : (ms.length : Int) < 4096 := by omega
                have t4 : (i : Int) ≤ (i : Int) + 1 := by omega
                have t5 : (i : Int) + 1 ≤ (lvc : Int) := by omega
                have t6 : ¬ lvc = i := by omega
                clear hcb hcc hse r2
                go_wp2_with fail
                refine (refSend_any R _ nodes ms [ms[i]] (some ⟨lb, loff, none⟩) (some ⟨lb, loff + i * 4, none⟩) lvc (lvc - i) (msgsR.keepB hlr hbx) (msgsR.keepB R2.out hbx) hms4).mono ?_
                rintro e w1 ⟨na, nc, rfl, hr1, hb1⟩
                obtain ⟨d0, f0⟩ := box_cells (box_after hb1 (box_new wr _))
                have hbb := bnext hbx hb1
                rw [HSE.out] at *
                go_wp2_with fail
                refine (copy_any O w1 w.heap.size nodes ms i (hn.keep (Kept.of_below hbb))).mono ?_
                rintro e w3 ⟨⟨rfl, hn3, hk3⟩, -⟩
                rw [HCB.out]
                go_wp2_with fail
                refine (len_any _ w3 _ nodes _ hn3).mono ?_
                rintro e w4 ⟨rfl, rfl⟩
                have hp : PlayAt w w.heap.size nodes (playL nodes (List.take (k + 1) ops)) (.slice na (copyL ms i).length nc) w3 := by
                  rw [hs1.out, HQ.out]
                  refine PlayAt.mk (fun x h => (HO.out x h).1) hn3 hk3 hr1 ?_ (bnext hbr hbb)
                  rintro x (h | h) _ hOx
                  · exact (HR.out x h).1 hOx
                  · have := (HO.out x hOx).2; simp at h; omega
                go_wp2_with fail
                go_roundw
                case rel => exact ⟨k + 1, by omega, by go_num, hp⟩
                case measure => simp [intOf]; omega
              · have hcf : copyB ms nn = false := by simpa using hcb
                have hcc : ¬ (0 ≤ nn ∧ nn < ms.length ∧ ms.length < 4096) := of_decide_eq_false hcf
                have HCB := Lib.hid hcf
                have HCL : Hid (copyL ms nn = ms) := by show _ = _; unfold copyL; rw [hcf, if_neg (by simp)]
                have hcall := copy_any O (wr.alloc (.cells #[.int .u8 o.kind, .slice la o.l.length lc, .int .i64 nn, .slice ga o.g.length gc] 50)) w.heap.size nodes ms nn (hn.keep (Kept.of_below hbx))
                rw [hcf, HCL.out] at hcall
                have HC := Lib.hid hcall
                have hcs : nn < 0 ∨ (0 ≤ nn ∧ (ms.length : Int) ≤ nn) ∨ (0 ≤ nn ∧ nn < ms.length ∧ 4096 ≤ (ms.length : Int)) := by omega
                clear hcb hcf hcc hcall
                rcases hcs with t1 | ⟨t0, t1⟩ | ⟨t0, t1, t2⟩
                all_goals
                  go_wp2_with fail
                  refine HC.out.mono ?_
                  rintro e w3 ⟨⟨rfl, hn3, hk3⟩, -⟩
                  go_wp2_with fail
                  refine (len_any _ w3 _ nodes _ hn3).mono ?_
                  rintro e w4 ⟨rfl, rfl⟩
                  have hp : PlayAt w w.heap.size nodes (playL nodes (List.take (k + 1) ops)) (.slice lva ms.length lvc) w3 := by
                    rw [hs1.out, HQ.out, HCL.out]
                    exact PlayAt.mk (fun x h => (HO.out x h).1) hn3 hk3 (msgsR.keepB hlr hbx) (fun x h _ => (HR.out x h).1) (bnext hbr hbx)
                  go_wp2_with fail
                  go_roundw
                  case rel => exact ⟨k + 1, by omega, by go_num, hp⟩
                  case measure => simp [intOf]; omega
            · have e3 : (o.kind % 5 == 3) = false := by simpa using q3
              have HQ : Hid (stepL nodes ms o = cutL o.g ms) := by show _ = _; unfold stepL; rw [if_neg q0, if_neg q1, if_neg q2, if_neg q3]
              clear q0 q1 q2 q3
              go_wp2_with fail
              refine (refCut_any R _ _ ms o.g lva ga lvc gc (msgsR.keepB hlr hbx) (intsR.keepB hG hbx) (by omega)).mono ?_
              rintro e w1 ⟨na, nc, rfl, hr1, hb1⟩
              obtain ⟨d0, f0⟩ := box_cells (box_after hb1 (box_new wr _))
              have hbb := bnext hbx hb1
              have hbe := bnew (Below.refl w1.heap.size w1) (.cells #[] 3)
              have hpa := fun o' => (box_cells (box_old (o' := o') (box_after hb1 (box_new wr _)))).1
              have H0 := Lib.hid (Own.empty (intR .i64) w1.heap.size 3 (box_new w1 (.cells #[] 3)) (Nat.le_refl _))
              have H1 := Lib.hid ((Src.of_slice (intsR.keepB (intsR.keepB hG hbb) hbe)).plain (Plain.int .i64) (S' := fun _ => False))
              go_wp2_with (at_builtin; refine wpList_append_rel (r := intR .i64) (v := .slice (some ⟨w1.heap.size, 0, none⟩) 0 0) (u := .slice ga o.g.length gc) rfl _ _ rfl Try.ety48 rfl rfl H0.out H1.out (fun _ _ h => h.elim) (fun _ _ h => h) (by unfold maxLen; simp; omega) (by simp; omega) (by simp) ?_)
              intro v2 w2 ho2 hk2 _
              simp only [Value.ownBlock, Option.some.injEq] at hk2
              have hb2 : Below w1.heap.size w1 w2 := Kept.behind hbe hk2 hbe.size fun k hk h => by omega
              obtain ⟨ca, cc, rfl, -, -⟩ := sliceR.form ho2.slice
              have HG2 := Lib.hid ho2.slice
              have hbb2 := bnext hbb hb2
              clear ho2 hk2
              go_wp2_with fail
              refine (cut_any O _ w2 w.heap.size nodes ms ca cc o.g (hn.keep (Kept.of_below hbb2)) HG2.out).mono ?_
              rintro e w3 ⟨rfl, hn3, hk3⟩
              go_wp2_with fail
              refine (len_any _ w3 _ nodes _ hn3).mono ?_
              rintro e w4 ⟨rfl, rfl⟩
              have hp : PlayAt w w.heap.size nodes (playL nodes (List.take (k + 1) ops)) (.slice na (cutL o.g ms).length nc) w3 := by
                rw [hs1.out, HQ.out]
                refine PlayAt.mk (fun x h => (HO.out x h).1) hn3 hk3 (msgsR.keepB hr1 hb2) ?_ (bnext hbr hbb2)
                rintro x (h | h) _ hOx
                · exact (HR.out x h).1 hOx
                · have := (HO.out x hOx).2; simp at h; omega
              go_wp2_with fail
              go_roundw
              case rel => exact ⟨k + 1, by omega, by go_num, hp⟩
              case measure => simp [intOf]; omega
    · obtain rfl : k = ops.length := by omega
      have hfin : PlayAt w w.heap.size nodes (playL nodes ops) (.slice lva (playL nodes (List.take ops.length ops)).length lvc) wr := by
        rw [List.take_length] at *
        exact ⟨O, R, hn, hO, hlr, hR, hbr⟩
      go_wp2_with fail
      go_ret3
      exact ⟨_, _, rfl, hfin⟩
end Go.Proofs.Ytccckjaefnojaaa
