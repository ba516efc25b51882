/- slices.DeleteFunc at messages. -/
import Derived.Test.YtccckjaefnojaaaG
namespace Go.Proofs.Ytccckjaefnojaaa
open Go.ChangeShapes Go.WideShapes Go.ChangeAt Go.RowKit

def keepL (f : Nat → Bool) (ms : List Msg) : List Msg := ms.filter fun m => !delB f m
theorem keepL_snoc (f : Nat → Bool) (ms : List Msg) (j : Nat) (h : j < ms.length) : keepL f (ms.take (j + 1)) = keepL f (ms.take j) ++ (if delB f ms[j] = true then [] else [ms[j]]) := by
  unfold keepL
  rw [List.take_succ_eq_append_getElem h, List.filter_append]
  cases hd : delB f ms[j] <;> simp [hd]
theorem keepL_all (f : Nat → Bool) (l : List Msg) (h : ∀ m ∈ l, delB f m = false) : keepL f l = l := by
  unfold keepL
  rw [List.filter_eq_self]
  intro m hm; simp [h m hm]
theorem Row.frozen {α : Type} {r : Rep α} {e : TypeId} {S : Nat → Prop} {w : World} {g cap : Nat} {xs : List α} (h : Row r e S w g cap xs) : ∀ o, w.frozen? ⟨g, o, none⟩ = false := by
  obtain ⟨cur, css, hg, -⟩ := h
  exact (box_cells hg).2
theorem Row.front {α : Type} {r : Rep α} {e : TypeId} {S : Nat → Prop} {w : World} {g cap : Nat} {xs : List α} (h : Row r e S w g cap xs) (i : Nat) : Row r e S w g cap (xs.take i) := by
  obtain ⟨cur, css, hg, h4, hl, hr, h5, h2, hng, hS⟩ := h
  refine ⟨cur, css.take i, hg, h4, by simp [hl], fun j cs x hc hx => ?_, ?_, by simp; omega, hng, hS⟩
  · rw [List.getElem?_take] at hc hx
    split at hc
    · rw [if_pos (by assumption)] at hx; exact hr j cs x hc hx
    · simp at hc
  · rw [flatten_take css (all_len hl hr), ← h5, List.take_take, List.length_take]
    congr 1
    rcases Nat.le_total i xs.length with h | h
    · have := Nat.mul_le_mul_right r.n h
      rw [Nat.min_eq_left h, Nat.min_eq_left this]
    · have := Nat.mul_le_mul_right r.n h
      rw [Nat.min_eq_right h, Nat.min_eq_right this]

/-- What holds at the head of each round. -/
def Half (f : Nat → Bool) (S : Nat → Prop) (g cap : Nat) (ms : List Msg) (n j : Nat) (w wr : World) : Prop :=
  ∃ ys, Row msgR 24 S wr g cap ys ∧ ys.length = ms.length ∧ ys.take n = keepL f (ms.take j) ∧ ys.drop j = ms.drop j ∧ n < j ∧ Kept (fun x => x ≠ g) w wr
theorem Half.drop {f : Nat → Bool} {S : Nat → Prop} {g cap : Nat} {ms : List Msg} {n j : Nat} {w wr w1 : World} (h : Half f S g cap ms n j w wr) (hb : Below wr.heap.size wr w1) (hj : j < ms.length) (hd : delB f ms[j] = true) : Half f S g cap ms n (j + 1) w w1 := by
  obtain ⟨ys, h1, h2, h3, h4, h5, h6⟩ := h
  refine ⟨ys, h1.keep (Kept.of_below hb), h2, ?_, ?_, by omega, h6.trans (Kept.of_below hb) fun _ _ h => h⟩
  · rw [keepL_snoc f ms j hj, hd, if_pos rfl, List.append_nil, h3]
  · rw [← List.drop_drop, h4, List.drop_drop]
theorem Half.pass {f : Nat → Bool} {S : Nat → Prop} {g cap : Nat} {ms : List Msg} {n j : Nat} {w wr w1 : World} {es : List Value} (h : Half f S g cap ms n j w wr) (hb : Below wr.heap.size wr w1) (hj : j < ms.length) (hd : delB f ms[j] = false) (hx : msgR.rel S w1 es ms[j]) :
    Half f S g cap ms (n + 1) (j + 1) w (w1.setCells g (n * 4) es) := by
  obtain ⟨ys, h1, h2, h3, h4, h5, h6⟩ := h
  obtain ⟨r1, k1⟩ := (h1.keep (Kept.of_below hb)).store n (by omega) hx
  refine ⟨ys.set n ms[j], r1, by simpa using h2, ?_, ?_, by omega, (h6.trans (Kept.of_below hb) fun _ _ h => h).trans k1 fun _ _ h => h⟩
  · rw [keepL_snoc f ms j hj, hd, if_neg (by simp), ← h3, List.take_succ_eq_append_getElem (by simp; omega), List.take_set_of_le (by omega)]
    simp
  · rw [List.drop_set_of_lt (by omega), ← List.drop_drop, h4, List.drop_drop]
theorem Half.elem {f : Nat → Bool} {S : Nat → Prop} {g cap : Nat} {ms : List Msg} {n j : Nat} {w wr : World} (h : Half f S g cap ms n j w wr) (hj : j < ms.length) :
    (∃ va vc, msgR.rel S wr [.int .i64 ms[j].kind, .int .i64 ms[j].frm, .int .i64 ms[j].to, .slice va ms[j].bytes.length vc] ms[j] ∧
      wr.cell? ⟨g, j * 4, none⟩ = some (.int .i64 ms[j].kind) ∧ wr.cell? ⟨g, j * 4 + 1, none⟩ = some (.int .i64 ms[j].frm) ∧ wr.cell? ⟨g, j * 4 + 2, none⟩ = some (.int .i64 ms[j].to) ∧
      wr.cell? ⟨g, j * 4 + 3, none⟩ = some (.slice va ms[j].bytes.length vc)) ∧
    (∃ a b c d, wr.cell? ⟨g, n * 4, none⟩ = some a ∧ wr.cell? ⟨g, n * 4 + 1, none⟩ = some b ∧ wr.cell? ⟨g, n * 4 + 2, none⟩ = some c ∧ wr.cell? ⟨g, n * 4 + 3, none⟩ = some d) ∧
    (∀ o, wr.frozen? ⟨g, o, none⟩ = false) ∧ g < wr.heap.size ∧ n < ms.length ∧ n < j ∧ Kept (fun x => x ≠ g) w wr := by
  obtain ⟨ys, h1, h2, h3, h4, h5, h6⟩ := h
  have hyj : ys[j]'(by omega) = ms[j] := by
    have e : (ys.drop j)[0]? = (ms.drop j)[0]? := by rw [h4]
    simpa [List.getElem?_drop, h2, hj] using e
  obtain ⟨va, vc, hr⟩ := msgs_row h1 j (by omega)
  rw [hyj] at hr
  obtain ⟨vb, vd, -, k0, k1, k2, k3⟩ := msgs_row h1 n (by omega)
  exact ⟨⟨va, vc, hr⟩, ⟨_, _, _, _, k0, k1, k2, k3⟩, h1.frozen, h1.lt, by omega, h5, h6⟩

set_option maxRecDepth 100000 in
set_option maxHeartbeats 1000000 in
theorem deleteFunc_any (S : Nat → Prop) (w : World) (g cap q : Nat) (f : Nat → Bool) (ms : List Msg) (hr : Row msgR 24 S w g cap ms) (hc : cap ≤ maxLen) (hq : BoolsAt w q f) (hqg : q ≠ g) (hms : ∀ m ∈ ms, 0 ≤ m.frm ∧ m.frm < 64 ∧ 0 ≤ m.to ∧ m.to < 64) :
    Calls Try.prog 32 #[.slice (some ⟨g, 0, none⟩) ms.length cap, .func (.func 33) #[] #[.pointer (some ⟨q, 0, none⟩)]] w (Cut1 S g cap (keepL f ms) w) := by
  have hidx := index_any S w g cap q f ms hr hc hq hms
  have hcap := hr.facts.2.2
  have HC := Lib.hid hc
  unfold maxLen at hc
  have HM := Lib.hid hms
  have HI := Lib.hid hidx
  clear hms hidx
  cases hfi : ms.findIdx? (delB f) with
  | none =>
    have e1 : Hid (firstI f ms = -1) := by show _ = _; unfold firstI; rw [hfi]
    have e2 : Hid (keepL f ms = ms) := by
      show _ = _
      rw [List.findIdx?_eq_none_iff] at hfi
      exact keepL_all f ms fun m hm => by simpa using hfi m hm
    clear hfi
    go_enter Try.func32, Try.ntmps32
    go_wp2_with fail
    refine (HI.out).mono ?_
    rintro e w1 ⟨rfl, hb1⟩
    rw [e1.out]
    go_wp2_with fail
    go_ret
    rw [e2.out]
    exact ⟨rfl, hr.keep (Kept.of_below hb1), Kept.of_below hb1⟩
  | some k =>
    have e1 : Hid (firstI f ms = k) := by show _ = _; unfold firstI; rw [hfi]
    rw [List.findIdx?_eq_some_iff_getElem] at hfi
    obtain ⟨hk, hdk, hno⟩ := hfi
    have hstart : Half f S g cap ms k (k + 1) w w := by
      refine ⟨ms, hr, rfl, ?_, rfl, by omega, Kept.refl _ _⟩
      rw [keepL_snoc f ms k hk, hdk, if_pos rfl, List.append_nil]
      refine (keepL_all f _ fun m hm => ?_).symm
      obtain ⟨i, hi, rfl⟩ := List.getElem_of_mem hm
      have hi' : i < k := by rw [List.length_take] at hi; omega
      simpa using hno i hi'
    clear hdk hno
    have k0 : ((k : Int) == -1) = false := by rw [beq_eq_false_iff_ne]; omega
    go_enter Try.func32, Try.ntmps32
    go_wp2_with fail
    refine (HI.out).mono ?_
    rintro e w1 ⟨rfl, hb1⟩
    rw [e1.out]
    go_wp2_with fail
    go_loopw [5, 6] (fun i j wr => ∃ n t : Nat, t ≤ ms.length ∧ i = .int .i64 n ∧ j = .int .i64 t ∧ Half f S g cap ms n t w wr) (fun _ j _ => ms.length - (intOf j).toNat)
    case atStart =>
      obtain ⟨ys, h1, h2, h3, h4, h5, h6⟩ := hstart
      exact ⟨k, k + 1, by omega, rfl, by go_num, ys, h1.keep (Kept.of_below hb1), h2, h3, h4, h5, h6.trans (Kept.of_below hb1) fun _ _ h => h⟩
    case round =>
      obtain ⟨n, t, ht, rfl, rfl, hh⟩ := hrel
      by_cases hlt : t < ms.length
      · obtain ⟨⟨va, vc, hrel, c0, c1, c2, c3⟩, ⟨xa, xb, xc, xd, x0, x1, x2, x3⟩, hfz, hgl, hnl, hnt, hkr⟩ := hh.elem hlt
        have hm := HM.out ms[t] (by simp)
        have hqr : BoolsAt wr q f := hq.keep hkr hqg
        have hbn := bnew (Below.refl wr.heap.size wr) (.cells #[.int .i64 ms[t].kind, .int .i64 ms[t].frm, .int .i64 ms[t].to, .slice va ms[t].bytes.length vc] 24)
        go_wp2_with fail
        refine (del_any _ q f ms[t] _ (hqr.keep (Kept.of_below (S := fun _ => True) hbn) trivial) hm.1 hm.2.1 hm.2.2.1 hm.2.2.2).mono ?_
        rintro e w2 ⟨rfl, hb2⟩
        have hbb := bnext hbn hb2
        generalize hd : delB f ms[t] = d
        have HD := Lib.hid hd
        clear hd
        cases d with
        | true =>
          go_wp2_with fail
          go_roundw
          case rel => exact ⟨n, t + 1, by omega, rfl, by go_num, hh.drop hbb hlt HD.out⟩
          case measure => simp [intOf]; omega
        | false =>
          obtain ⟨b0, b1⟩ := box_cells (box_after hb2 (box_new wr _))
          have y0 := (hbb.cell (p := ⟨g, n * 4, none⟩) hgl).trans x0
          have y1 := (hbb.cell (p := ⟨g, n * 4 + 1, none⟩) hgl).trans x1
          have y2 := (hbb.cell (p := ⟨g, n * 4 + 2, none⟩) hgl).trans x2
          have y3 := (hbb.cell (p := ⟨g, n * 4 + 3, none⟩) hgl).trans x3
          have yf : ∀ o, w2.frozen? ⟨g, o, none⟩ = false := fun o => (hbb.frozen (p := ⟨g, o, none⟩) hgl).trans (hfz o)
          have n0 : (0 : Int) ≤ (n : Int) := by omega
          have n1 : (n : Int) < (ms.length : Int) := by omega
          clear c0 c1 c2 c3 x0 x1 x2 x3 hfz
          have HP := Lib.hid (hh.pass hbb hlt HD.out (msgR.keepB hrel hbb))
          go_wp2_with fail
          go_roundw
          case rel => exact ⟨n + 1, t + 1, by omega, by go_num, by go_num, HP.out⟩
          case measure => simp [intOf]; omega
      · have he : t = ms.length := by omega
        subst he
        obtain ⟨ys, h1, h2, h3, h4, h5, h6⟩ := hh
        rw [List.take_length] at h3
        have hn : n = (keepL f ms).length := by rw [← h3, List.length_take]; omega
        have h1' := h1.front n
        rw [h3] at h1'
        obtain ⟨w3, hcl, hr3, hk3⟩ := run_clear_row Try.underlying30 Try.zero24 rfl zero24_one h1' n (ms.length - n) (by omega) (by omega) ⟨g, n * 4, none⟩ (fun _ => rfl)
        have n0 : (0 : Int) ≤ (n : Int) := by omega
        have n1 : (n : Int) ≤ (ms.length : Int) := by omega
        have n2 : (n : Int) ≤ (cap : Int) := by omega
        have n3 : ¬ cap = n := by omega
        have HN := Lib.hid hn
        have hk4 := h6.trans hk3 fun _ _ h => h
        clear hn h1 h2 h3 h4 h6 h1' hk3
        go_wp2_with fail
        go_ret
        exact ⟨by rw [← HN.out]; rfl, hr3, hk4⟩
end Go.Proofs.Ytccckjaefnojaaa
