/- The walk of NetworkTakesAll. -/
import Derived.Test.YtccckjaefnojaaaT
namespace Go.Proofs.Ytccckjaefnojaaa
open Go.ChangeShapes Go.WideShapes Go.ChangeAt Go.RowKit

/-- A network at p that holds ms, and a list lv that holds l; apart in memory. -/
def TwoAt (w : World) (p : Nat) (nodes : Int) (ms l : List Msg) (lv : Value) (wr : World) : Prop :=
  ∃ O R : Nat → Prop, NetAt O wr p nodes ms ∧ (∀ x, O x → w.heap.size ≤ x ∧ x < wr.heap.size) ∧ msgsR.rel R wr [lv] l ∧ (∀ x, R x → ¬ O x ∧ x < wr.heap.size) ∧ Below w.heap.size w wr
theorem TwoAt.mk {O R : Nat → Prop} {w w2 w3 : World} {p : Nat} {nodes : Int} {ms' l : List Msg} {lv : Value} (hO : ∀ x, O x → w.heap.size ≤ x) (hn : NetAt (fun k => O k ∨ w2.heap.size ≤ k) w3 p nodes ms') (hk : Kept (fun k => ¬ O k) w2 w3)
    (hr : msgsR.rel R w2 [lv] l) (hR : ∀ x, R x → x < w2.heap.size → ¬ O x) (hb : Below w.heap.size w w2) : TwoAt w p nodes ms' l lv w3 := by
  have hz := hb.size
  refine ⟨fun k => (O k ∨ w2.heap.size ≤ k) ∧ k < w3.heap.size, fun k => R k ∧ k < w2.heap.size, hn.mono fun k hk h => ⟨h, hk⟩, fun x h => ⟨?_, h.2⟩, msgsR.keep (msgsR.bound hr) (hk.mono fun k _ h => hR k h.1 h.2), fun x h => ⟨?_, Nat.lt_of_lt_of_le h.2 hk.size⟩, Kept.behind hb hk hz fun k hk' h => ?_⟩
  · rcases h.1 with h | h
    · exact hO x h
    · omega
  · rintro ⟨h' | h', -⟩
    · exact hR x h.1 h.2 h'
    · omega
  · have := hO k h; omega
theorem TwoAt.below {w : World} {p : Nat} {nodes : Int} {ms l : List Msg} {lv : Value} {wr w1 : World} (h : TwoAt w p nodes ms l lv wr) (hb : Below wr.heap.size wr w1) : TwoAt w p nodes ms l lv w1 := by
  obtain ⟨O, R, h1, h2, h3, h4, h5⟩ := h
  have hz := hb.size
  exact ⟨O, R, h1.keep (Kept.of_below hb), fun x hx => ⟨(h2 x hx).1, Nat.lt_of_lt_of_le (h2 x hx).2 hz⟩, msgsR.keepB h3 hb, fun x hx => ⟨(h4 x hx).1, Nat.lt_of_lt_of_le (h4 x hx).2 hz⟩, bnext h5 hb⟩

theorem take_first (ms : List Msg) (k : Nat) (h : k < ms.length) : inB (ms.drop k) 0 = true ∧ takeM (ms.drop k) 0 = ms[k] ∧ withoutL (ms.drop k) 0 = ms.drop (k + 1) := by
  have hl : 0 < (ms.drop k).length := by simp; omega
  have hi : inB (ms.drop k) 0 = true := by unfold inB; exact decide_eq_true (by omega)
  refine ⟨hi, ?_, ?_⟩
  · have := takeM_in (k := 0) hl
    simpa using this
  · unfold withoutL
    rw [hi, if_pos rfl, List.drop_eq_getElem_cons h]
    rfl
theorem take_last (ms : List Msg) : inB (ms.drop ms.length) 0 = false ∧ takeM (ms.drop ms.length) 0 = msg0 ∧ withoutL (ms.drop ms.length) 0 = [] := by
  rw [List.drop_length]
  exact ⟨rfl, rfl, rfl⟩

set_option maxRecDepth 100000 in
set_option maxHeartbeats 2000000 in
theorem takesAll_any (w : World) (nodes : Int) (a : Option Addr) (cap : Nat) (ops : List OpM) (hops : (sliceR opR).rel (fun k => k < w.heap.size) w [.slice a ops.length cap] ops) :
    Calls Try.prog 7 #[.int .i64 nodes, .slice a ops.length cap] w fun e w' => e = .returned (.bool true) ∧ Below w.heap.size w w' := by
  go_enter Try.func7, Try.ntmps7
  go_wp2_with fail
  refine (awake_any w).mono ?_
  rintro e w1 ⟨rfl, hb1⟩
  go_wp2_with fail
  refine (fair_any _ w1 a cap ops ((sliceR opR).keepB hops hb1)).mono ?_
  rintro e w2 ⟨rfl, hb2⟩
  have hb02 := bnext hb1 hb2
  generalize hf : fairB ops = f
  cases f with
  | false =>
    go_wp2_with fail
    refine (awake_any w2).mono ?_
    rintro e w3 ⟨rfl, hb3⟩
    go_wp2_with fail
    go_ret
    exact ⟨rfl, bnext hb02 hb3⟩
  | true =>
    have HF := Lib.hid hf
    clear hf
    by_cases hv : 1 ≤ nodes ∧ nodes ≤ 64
    · have hplay := play_any w2 nodes a cap ops hv.1 hv.2 (opsIn hops hb02) HF.out
      generalize playL nodes ops = ms at hplay
      have HP := Lib.hid hplay
      clear hplay
      go_wp2_with fail
      refine HP.out.mono ?_
      rintro e w3 ⟨p, lv, rfl, hpl⟩
      have hp0 : TwoAt w2 p nodes (ms.drop 0) ms lv w3 := by
        obtain ⟨O, R, q⟩ := hpl
        exact ⟨O, R, q⟩
      obtain ⟨lva, lvc, rfl, g5, g6⟩ : ∃ lva lvc, lv = .slice lva ms.length lvc ∧ ms.length ≤ lvc ∧ lvc ≤ maxLen := by
        obtain ⟨O, R, -, -, q, -⟩ := hpl
        exact sliceR.form q
      unfold maxLen at g6
      clear hpl
      go_wp2_with fail
      go_loopw [38] (fun i wr => ∃ k : Nat, k ≤ ms.length ∧ i = .int .i64 k ∧ TwoAt w2 p nodes (ms.drop k) ms (.slice lva ms.length lvc) wr) (fun i _ => ms.length - (intOf i).toNat)
      case atStart => exact ⟨0, Nat.zero_le _, rfl, hp0⟩
      case round =>
        obtain ⟨k, hk, rfl, O, R, hn, hO, hlr, hR, hbr⟩ := hrel
        clear hp0
        have HO := Lib.hid hO
        have HR := Lib.hid hR
        clear hO hR
        by_cases hlt : k < ms.length
        · have HT := Lib.hid (take_first ms k hlt)
          obtain ⟨lb, loff, va, vc, rfl, -, hlb, hrm, m0, m1, m2, m3⟩ := msgs_at hlr k hlt
          have HBY := Lib.hid (msgR.bytes hrm)
          clear hrm
          generalize hmm : ms[k] = m at *
          have hbx := bnew (Below.refl wr.heap.size wr) (.cells #[.int .i64 m.kind, .int .i64 m.frm, .int .i64 m.to, .slice va m.bytes.length vc] 24)
          go_wp2_with fail
          refine (take_any O _ p nodes (ms.drop k) 0 (hn.keep (Kept.of_below hbx))).mono ?_
          rintro e w4 ⟨cs7, rfl, ⟨S7, hm7, -⟩, hn3, hk3⟩
          rw [HT.out.1]
          rw [HT.out.2.1] at hm7
          rw [HT.out.2.2] at hn3
          obtain ⟨v7, rfl, -, -, -, hby7⟩ := msgR.inv hm7
          obtain ⟨va7, vc7, rfl, -, -⟩ := sliceR.form hby7
          have HB7 := Lib.hid hby7
          have hbo := box_kept hk3 (box_new wr _) (fun h => absurd (HO.out _ h).2 (Nat.lt_irrefl _))
          obtain ⟨x0, x1⟩ := box_cells hbo
          have hbol := box_lt hbo
          have hp3 : TwoAt w2 p nodes (ms.drop (k + 1)) ms (.slice (some ⟨lb, loff, none⟩) ms.length lvc) w4 :=
            TwoAt.mk (fun x h => (HO.out x h).1) hn3 hk3 (msgsR.keepB hlr hbx) (fun x h _ => (HR.out x h).1) (bnext hbr hbx)
          have HBY4 := Lib.hid (bytesR.keep (bytesR.keepB HBY.out hbx) (hk3.mono fun x _ h => (HR.out x h).1))
          have z1 : ¬ wr.heap.size = w4.heap.size := by omega
          have hbA := bnew (Below.refl w4.heap.size w4) (.cells #[.int .i64 m.kind, .int .i64 m.frm, .int .i64 m.to, .slice va7 m.bytes.length vc7] 24)
          clear hm7 hby7 hmm m0 m1 m2 m3
          go_wp2_with fail
          refine (equal_any S7 R _ m m va7 va vc7 vc (bytesR.keepB HB7.out hbA) (bytesR.keepB HBY4.out hbA)).mono ?_
          rintro e w5 ⟨rfl, hb5⟩
          rw [eqB_refl]
          have hp := hp3.below (bnext hbA hb5)
          go_wp2_with fail
          go_roundw
          case rel => exact ⟨k + 1, by omega, by go_num, hp⟩
          case measure => simp [intOf]; omega
        · obtain rfl : k = ms.length := by omega
          have HT := Lib.hid (take_last ms)
          go_wp2_with fail
          refine (take_any O _ p nodes (ms.drop ms.length) 0 hn).mono ?_
          rintro e w4 ⟨cs7, rfl, ⟨S7, hm7, -⟩, hn3, hk3⟩
          rw [HT.out.1]
          rw [HT.out.2.1] at hm7
          rw [HT.out.2.2] at hn3
          obtain ⟨v7, rfl, -, -, -, hby7⟩ := msgR.inv hm7
          obtain ⟨va7, vc7, rfl, -, -⟩ := sliceR.form hby7
          have hbA := bnew (Below.refl w4.heap.size w4) (.cells #[.int .i64 msg0.kind, .int .i64 msg0.frm, .int .i64 msg0.to, .slice va7 msg0.bytes.length vc7] 24)
          have hbw : Below w.heap.size w w4 := Kept.behind (bnext hb02 hbr) hk3 (bnext hb02 hbr).size fun x hx h => by have := (HO.out x h).1; have := hb02.size; omega
          clear hm7 hby7
          go_wp2_with fail
          refine (len_any _ _ p nodes _ (hn3.keep (Kept.of_below hbA))).mono ?_
          rintro e w5 ⟨rfl, rfl⟩
          go_wp2_with fail
          go_ret
          exact ⟨by simp, bnext hbw hbA⟩
    · have hbad := play_bad w2 nodes a ops.length cap (by omega)
      have HP := Lib.hid hbad
      clear hbad
      go_wp2_with fail
      refine HP.out.mono ?_
      rintro e w3 ⟨rfl, rfl⟩
      go_wp2_with fail
      go_ret
      exact ⟨rfl, hb02⟩
end Go.Proofs.Ytccckjaefnojaaa
