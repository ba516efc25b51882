/- Cut. -/
import Derived.Test.YtccckjaefnojaaaH
namespace Go.Proofs.Ytccckjaefnojaaa
open Go.ChangeShapes Go.WideShapes Go.ChangeAt Go.RowKit

abbrev intsR : Rep (List Int) := sliceR (intR .i64)
def hasB (g : List Int) (n : Int) : Bool := decide (n ∈ g)
def cutL (g : List Int) (ms : List Msg) : List Msg := ms.filter fun m => hasB g m.frm == hasB g m.to
theorem hasB_snoc (g : List Int) (k : Nat) (h : k < g.length) (n : Int) : hasB (g.take (k + 1)) n = (hasB (g.take k) n || (n == g[k])) := by
  unfold hasB
  rw [List.take_succ_eq_append_getElem h]
  rw [Bool.eq_iff_iff]
  simp only [List.mem_append, List.mem_singleton, decide_eq_true_eq, Bool.or_eq_true, beq_iff_eq]
theorem cutL_keepL (g : List Int) (ms : List Msg) (h : ∀ m ∈ ms, 0 ≤ m.frm ∧ 0 ≤ m.to) : keepL (fun i => hasB g i) ms = cutL g ms := by
  unfold keepL cutL
  apply List.filter_congr
  intro m hm
  obtain ⟨h1, h2⟩ := h m hm
  unfold delB
  show (!(hasB g (m.frm.toNat : Int) != hasB g (m.to.toNat : Int))) = _
  rw [Int.toNat_of_nonneg h1, Int.toNat_of_nonneg h2]
  cases hasB g m.frm <;> cases hasB g m.to <;> rfl

/-- Element k of a slice of ints. -/
theorem ints_at {kd : IntKind} {S : Nat → Prop} {w : World} {a : Option Addr} {len cap : Nat} {l : List Int} (h : (sliceR (intR kd)).rel S w [.slice a len cap] l) (k : Nat) (hk : k < l.length) :
    ∃ b off, a = some ⟨b, off, none⟩ ∧ S b ∧ b < w.heap.size ∧ w.cell? ⟨b, off + k, none⟩ = some (.int kd l[k]) ∧ (Lit.int kd l[k]).wf = true := by
  obtain ⟨b, off, es, rfl, hb, hbl, ⟨rfl, hw⟩, hca⟩ := sliceR.at h k hk
  have h0 := hca 0 _ rfl
  have e : off + k * (intR kd).n + 0 = off + k := by show off + k * 1 + 0 = off + k; omega
  rw [e] at h0
  exact ⟨b, off, rfl, hb, hbl, h0, hw⟩

set_option maxRecDepth 100000 in
set_option maxHeartbeats 1000000 in
theorem deleteFunc_nil (w : World) (fv : Value) :
    Calls Try.prog 32 #[.slice none 0 0, fv] w fun e w' => e = .returned (.slice none 0 0) ∧ Below w.heap.size w w' := by
  go_enter Try.func32, Try.ntmps32
  go_wp2
  go_loopw [8] (fun i wr => i = .int .i64 0 ∧ w = wr) (fun _ _ => 0)
  case atStart => exact ⟨rfl, rfl⟩
  case round =>
    obtain ⟨rfl, rfl⟩ := hrel
    go_wp2
    go_ret
    exact ⟨rfl, Below.refl _ _⟩

theorem bools0 (w : World) : BoolsAt (w.alloc (.cells (Array.replicate 64 (.bool false)) 65)) w.heap.size (fun _ => false) :=
  ⟨by simp, fun i hi => by rw [World.cell?_alloc_new]; simp [hi]⟩
theorem BoolsAt.congr {w : World} {q : Nat} {f f' : Nat → Bool} (h : BoolsAt w q f) (he : ∀ i, i < 64 → f i = f' i) : BoolsAt w q f' := ⟨h.1, fun i hi => by rw [← he i hi]; exact h.2 i hi⟩
theorem NetAt.parts {O : Nat → Prop} {w : World} {p : Nat} {nodes : Int} {ms : List Msg} (hn : NetAt O w p nodes ms) :
    (ms = [] ∧ w.heap[p]? = some (.cells #[.int .i64 nodes, .slice none 0 0] 58 (0, 0))) ∨
    ∃ g cap S, w.heap[p]? = some (.cells #[.int .i64 nodes, .slice (some ⟨g, 0, none⟩) ms.length cap] 58 (0, 0)) ∧ (∀ k, S k → O k ∧ k ≠ p) ∧ O g ∧ g ≠ p ∧ cap ≤ maxLen ∧ Row msgR 24 S w g cap ms := by
  obtain ⟨n1, n2, n3, n4, n5, nv, n6, n7⟩ := hn
  obtain ⟨na, ncap, rfl, g3, g4⟩ := sliceR.form n7.slice
  cases na with
  | none =>
    obtain ⟨S, css, hS, hv, hl, hr, ho⟩ := n7
    rcases ho.2 with ⟨h1, h0⟩ | ⟨g', cap', cur, h1, -⟩
    · simp at h1
      obtain rfl := List.eq_nil_of_length_eq_zero h0
      obtain rfl := h1.2
      exact .inl ⟨rfl, n6⟩
    · simp at h1
  | some ad =>
    obtain ⟨g, rfl⟩ : ∃ g, ad = ⟨g, 0, none⟩ := by
      obtain ⟨S, css, hS, hv, hl, hr, ho⟩ := n7
      rcases ho.2 with ⟨h1, h0⟩ | ⟨g', cap', cur, h1, -⟩
      · simp at h1
      · simp at h1; exact ⟨g', h1.1⟩
    obtain ⟨-, -, hcm, hFg, S, hSF, hrow⟩ := n7.row
    exact .inr ⟨g, ncap, S, n6, hSF, hFg.1, hFg.2, hcm, hrow⟩
/-- The network's list is replaced by what a delete has left of it. -/
theorem net_cut {O S : Nat → Prop} {w wA w3 : World} {p g cap : Nat} {nodes : Int} {ms ys : List Msg} (hn : NetAt O w p nodes ms) (hSF : ∀ x, S x → O x ∧ x ≠ p) (hg : O g ∧ g ≠ p) (hcap : cap ≤ maxLen)
    (hyl : ys.length ≤ ms.length) (hym : ∀ m ∈ ys, m ∈ ms) (hbA : Below w.heap.size w wA) (hr : Row msgR 24 S w3 g cap ys) (hk3 : Kept (fun x => x ≠ g) wA w3) {v : Value} (hp3 : w3.heap[p]? = some (.cells #[.int .i64 nodes, v] 58 (0, 0))) :
    NetAt (fun k => O k ∨ w.heap.size ≤ k) (w3.setCell ⟨p, 1, none⟩ (.slice (some ⟨g, 0, none⟩) ys.length cap)) p nodes ys ∧ Kept (fun k => ¬ O k) w (w3.setCell ⟨p, 1, none⟩ (.slice (some ⟨g, 0, none⟩) ys.length cap)) := by
  obtain ⟨n1, n2, n3, n4, n5, -⟩ := hn
  refine ⟨⟨.inl n1, n2, n3, by omega, fun m hm => n5 m (hym m hm), _, by simpa using box_set (i := 1) (v := .slice (some ⟨g, 0, none⟩) ys.length cap) hp3, ?_⟩, ?_⟩
  · refine (hr.keep ((Kept.refl _ _).setCell ?_ _)).own (fun x h => ⟨.inl (hSF x h).1, (hSF x h).2⟩) ⟨.inl hg.1, hg.2⟩ (Nat.zero_le _) hcap
    rintro - (h | h)
    · exact (hSF _ h).2 rfl
    · exact hg.2 h.symm
  · refine ((Kept.of_below hbA).trans hk3 ?_).setCell ?_ _
    · intro x _ h e; exact h (e ▸ hg.1)
    · intro _ h; exact h n1
theorem bools_set {w : World} {q n : Nat} {f : Nat → Bool} (h : BoolsAt w q f) (hn : n < 64) : BoolsAt (w.setCell ⟨q, n, none⟩ (.bool true)) q (fun i => f i || (i == n)) := by
  refine ⟨by simpa using h.1, fun i hi => ?_⟩
  by_cases he : i = n
  · subst he
    rw [World.cell?_setCell_same w _ _ (h.2 i hi)]
    simp
  · rw [World.cell?_setCell_other w _ _ _ (fun h => he (by simpa using (congrArg Addr.off h).symm)), h.2 i hi]
    simp [he]

set_option maxRecDepth 100000 in
set_option maxHeartbeats 1000000 in
theorem cut_any (O S : Nat → Prop) (w : World) (p : Nat) (nodes : Int) (ms : List Msg) (a : Option Addr) (cap : Nat) (g : List Int) (hn : NetAt O w p nodes ms) (hg : intsR.rel S w [.slice a g.length cap] g) :
    Calls Try.prog 23 #[.pointer (some ⟨p, 0, none⟩), .slice a g.length cap] w (NetRet O p nodes (.int .i64 (ms.length - (cutL g ms).length : Nat)) (cutL g ms) w) := by
  obtain ⟨-, g1, g2, -⟩ := sliceR.lens hg
  unfold maxLen at g2
  have hsn := Lib.hid (hasB_snoc g)
  go_enter Try.func23, Try.ntmps23
  go_wp2_with fail
  go_loopw [11] (fun i wr => ∃ k : Nat, k ≤ g.length ∧ i = .int .i64 k ∧ BoolsAt wr w.heap.size (fun i => hasB (g.take k) i) ∧ (∀ o, wr.frozen? ⟨w.heap.size, o, none⟩ = false) ∧ Below w.heap.size w wr) (fun i _ => g.length - (intOf i).toNat)
  case atStart => exact ⟨0, Nat.zero_le _, rfl, bools0 w, (box_cells (box_new w _)).2, bnew (Below.refl _ _) _⟩
  case round =>
    obtain ⟨k, hk, rfl, hbo, hfz, hbr⟩ := hrel
    by_cases hlt : k < g.length
    · obtain ⟨b, off, rfl, -, hbl, c0, cw⟩ := ints_at (intsR.keepB hg hbr) k hlt
      have hstep := Lib.hid (hsn.out k hlt)
      generalize hx : g[k] = x at c0 cw
      have HX := Lib.hid hx
      clear hx
      by_cases h0 : x < 0
      · go_wp2_with fail
        go_roundw
        case rel =>
          refine ⟨k + 1, by omega, by go_num, hbo.congr fun i _ => ?_, hfz, hbr⟩
          show hasB (List.take k g) i = hasB (List.take (k + 1) g) i
          rw [hstep.out, HX.out, show ((i : Int) == x) = false from beq_eq_false_iff_ne.2 (by omega), Bool.or_false]
        case measure => simp [intOf]; omega
      · by_cases h1 : 64 ≤ x
        · go_wp2_with fail
          go_roundw
          case rel =>
            refine ⟨k + 1, by omega, by go_num, hbo.congr fun i _ => ?_, hfz, hbr⟩
            show hasB (List.take k g) i = hasB (List.take (k + 1) g) i
            rw [hstep.out, HX.out, show ((i : Int) == x) = false from beq_eq_false_iff_ne.2 (by omega), Bool.or_false]
          case measure => simp [intOf]; omega
        · obtain ⟨n, rfl⟩ := Int.eq_ofNat_of_zero_le (show 0 ≤ x by omega)
          have hn64 : n < 64 := by omega
          have cq := hbo.2 n hn64
          have hset := bools_set hbo hn64
          go_wp2_with fail
          go_roundw
          case rel =>
            refine ⟨k + 1, by omega, by go_num, hset.congr fun i _ => ?_, fun o => ?_, hbr.setCell (Nat.le_refl _) _⟩
            · show (hasB (List.take k g) i || (i == n)) = hasB (List.take (k + 1) g) i
              rw [hstep.out, HX.out]
              congr 1
              rw [Bool.eq_iff_iff, beq_iff_eq, beq_iff_eq]
              omega
            · simp [hfz]
          case measure => simp [intOf]; omega
    · obtain rfl : k = g.length := by omega
      rw [List.take_length] at *
      have hnr := hn.keep (Kept.of_below hbr)
      have hcl := Lib.hid (cutL_keepL g ms)
      obtain ⟨n1, n2, n3, n4, n5, -⟩ := id hn
      have N5 := Lib.hid n5
      clear n5
      have hzz := hbr.size
      rcases hn.parts with ⟨rfl, n6⟩ | ⟨gb, gc, S', n6, hSF, hOg, hgp, hgc, hrow⟩
      · obtain ⟨d0, e0⟩ := box_cells (box_after hbr n6)
        go_wp2_with fail
        refine (deleteFunc_nil _ _).mono ?_
        rintro e w3 ⟨rfl, hb3⟩
        obtain ⟨d3, e3⟩ := box_cells (box_after hb3 (box_after hbr n6))
        have hb4 := bnext hbr hb3
        have hp3 := box_after hb4 n6
        have HP := Lib.hid hp3
        clear hp3 d0 e0
        go_wp2_with fail
        go_ret
        refine ⟨rfl, ⟨.inl n1, n2, n3, by simp [cutL], fun m hm => by simp [cutL] at hm, .slice none 0 0, by simpa using box_set (i := 1) (v := .slice none 0 0) HP.out, Own.nil _ _ _ _ _⟩, ?_⟩
        exact (Kept.of_below hb4).setCell (fun _ h => h n1) _
      · obtain ⟨d0, e0⟩ := box_cells (box_after hbr n6)
        have hgl := hrow.lt
        have hfin := deleteFunc_any S' wr gb gc w.heap.size _ ms (hrow.keep (Kept.of_below hbr)) hgc hbo (by omega) (fun m hm => by have := N5.out m hm; omega)
        rw [hcl.out fun m hm => by have := N5.out m hm; omega] at hfin
        have hlen : (cutL g ms).length ≤ ms.length := List.length_filter_le _ _
        have hmem : Hid (∀ m ∈ cutL g ms, m ∈ ms) := fun m hm => (List.mem_filter.1 hm).1
        have HFIN := Lib.hid hfin
        clear hfin
        go_wp2_with fail
        refine (HFIN.out).mono ?_
        rintro e w3 ⟨rfl, hr3, hk3⟩
        have hp3 := box_kept hk3 (box_after hbr n6) (Ne.symm hgp)
        obtain ⟨d3, e3⟩ := box_cells hp3
        have hnc := net_cut hn hSF ⟨hOg, hgp⟩ hgc hlen hmem.out hbr hr3 hk3 hp3
        have HNC := Lib.hid hnc
        clear hnc d0 e0
        go_wp2_with fail
        go_ret
        exact ⟨ret_int (by omega), HNC.out⟩
end Go.Proofs.Ytccckjaefnojaaa
