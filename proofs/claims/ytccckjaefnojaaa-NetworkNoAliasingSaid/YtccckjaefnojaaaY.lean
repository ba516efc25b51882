/- Messages whose bytes may be written: clone, Pending and cp hand out memory of their own. -/
import Derived.Test.YtccckjaefnojaaaV
namespace Go.Proofs.Ytccckjaefnojaaa
open Go.ChangeShapes Go.WideShapes Go.ChangeAt Go.RowKit

theorem Own.base0 {α : Type} {r : Rep α} {base : Nat} {e : TypeId} {F : Nat → Prop} {w : World} {v : Value} {xs : List α} (h : Own r base e F w v xs) : Own r 0 e F w v xs := by
  obtain ⟨S, css, hS, hv, hl, hr, ho⟩ := h
  refine ⟨S, css, hS, hv, hl, hr, ho.1, ?_⟩
  rcases ho.2 with h0 | ⟨g, cap, cur, rfl, hb, hg, h1, h2, h3, h4⟩
  · exact .inl h0
  · exact .inr ⟨g, cap, cur, rfl, Nat.zero_le _, hg, h1, h2, h3, h4⟩
/-- Bytes in a row of their own. -/
def ownB : Rep (List Int) where
  n := 1
  rel S w cs xs := ∃ v, cs = [v] ∧ Own (intR .u8) 0 5 S w v xs
  len := by rintro S w cs xs ⟨v, rfl, -⟩; rfl
  one := by
    rintro S w cs xs ⟨v, rfl, h⟩ c hc
    exact bytesR.one (h.slice) c hc
  keep := by rintro S w w' cs xs ⟨v, rfl, h⟩ hk; exact ⟨v, rfl, h.keep hk⟩
  mono := by rintro S S' w cs xs ⟨v, rfl, h⟩ hk; exact ⟨v, rfl, h.mono hk⟩
def msgO : Rep Msg := mapR (fun m => (m.kind, m.frm, m.to, m.bytes)) (pairR (intR .i64) (pairR (intR .i64) (pairR (intR .i64) ownB)))
theorem msgO.n : msgO.n = 4 := rfl
theorem msgO.inv {S : Nat → Prop} {w : World} {cs : List Value} {m : Msg} (h : msgO.rel S w cs m) :
    ∃ v, cs = [.int .i64 m.kind, .int .i64 m.frm, .int .i64 m.to, v] ∧ (Lit.int .i64 m.kind).wf = true ∧ (Lit.int .i64 m.frm).wf = true ∧ (Lit.int .i64 m.to).wf = true ∧ Own (intR .u8) 0 5 S w v m.bytes := by
  obtain ⟨c1, c2, rfl, ⟨rfl, w1⟩, d1, d2, rfl, ⟨rfl, w2⟩, e1, e2, rfl, ⟨rfl, w3⟩, v, rfl, h4⟩ := h
  exact ⟨v, rfl, w1, w2, w3, h4⟩
theorem msgO.mk {S : Nat → Prop} {w : World} {m : Msg} {v : Value} (h1 : (Lit.int .i64 m.kind).wf = true) (h2 : (Lit.int .i64 m.frm).wf = true) (h3 : (Lit.int .i64 m.to).wf = true) (h4 : Own (intR .u8) 0 5 S w v m.bytes) :
    msgO.rel S w [.int .i64 m.kind, .int .i64 m.frm, .int .i64 m.to, v] m :=
  ⟨[.int .i64 m.kind], _, rfl, ⟨rfl, h1⟩, [.int .i64 m.frm], _, rfl, ⟨rfl, h2⟩, [.int .i64 m.to], [v], rfl, ⟨rfl, h3⟩, v, rfl, h4⟩
theorem msgO.toR {S : Nat → Prop} {w : World} {cs : List Value} {m : Msg} (h : msgO.rel S w cs m) : msgR.rel S w cs m := by
  obtain ⟨v, rfl, h1, h2, h3, h4⟩ := msgO.inv h
  exact msgR.mk h1 h2 h3 h4.slice
theorem Own.toR {base : Nat} {F : Nat → Prop} {w : World} {v : Value} {ms : List Msg} (h : Own msgO base 24 F w v ms) : Own msgR base 24 F w v ms := by
  obtain ⟨S, css, hS, hv, hl, hr, ho⟩ := h
  exact ⟨S, css, hS, hv, hl, fun i cs x hc hx => msgO.toR (hr i cs x hc hx), ho⟩

/-- The call returned a slice that owns its row. -/
def GivesO {α : Type} (r : Rep α) (e : TypeId) (xs : List α) (w : World) (x : Ending) (w' : World) : Prop :=
  ∃ v, x = .returned v ∧ Own r 0 e (fun k => w.heap.size ≤ k) w' v xs ∧ Below w.heap.size w w'
theorem GivesO.mk {α : Type} {r : Rep α} {e : TypeId} {xs : List α} {w w' : World} {v : Value} (h : Own r 0 e (fun k => w.heap.size ≤ k) w' v xs) (hb : Below w.heap.size w w') : GivesO r e xs w (.returned v) w' := ⟨v, rfl, h, hb⟩

set_option maxHeartbeats 400000 in
theorem cloneBytesO (S : Nat → Prop) (w : World) (v : Value) (xs : List Int) (h : bytesR.rel S w [v] xs) (hl : xs.length ≤ 4194304) :
    Calls Try.prog 35 #[v] w (GivesO (intR .u8) 5 xs w) := by
  obtain ⟨a, cap, rfl, h1, h2⟩ := sliceR.form h
  cases a with
  | none =>
    obtain ⟨_, _, _, h4⟩ := sliceR.lens h
    have hc := h4 rfl
    subst hc
    have hx : xs = [] := List.eq_nil_of_length_eq_zero (by omega)
    subst hx
    have ke := fun w => Lib.run_eql_slice_nil (P := Try.prog) w
    go_enter Try.func35, Try.ntmps35
    go_wp2
    go_ret
    exact GivesO.mk (Own.nil _ _ _ _ _) (Below.refl _ _)
  | some ad =>
    have ke := fun w => Lib.run_eql_slice_nil (P := Try.prog) w
    have hb0 : Below w.heap.size w (w.alloc (.cells #[] 5)) := bnew (Below.refl _ _) _
    have hown := Own.empty (intR .u8) w.heap.size 5 (w := w.alloc (.cells #[] 5)) (heap_alloc_new w _) (Nat.le_refl _)
    have hsrc := (Src.of_slice (bytesR.keepB h hb0)).plain (Plain.int .u8) (S' := fun _ => False)
    go_enter Try.func35, Try.ntmps35
    go_wp2_with (at_builtin; refine wpList_append_rel rfl _ _ rfl Try.ety22 rfl rfl hown hsrc ?_ ?_ ?_ ?_ ?_ ?_)
    · intro k _ h; exact h.elim
    · intro k _ h; exact h
    · unfold maxLen; simp; omega
    · simp; omega
    · simp
    intro v' w1 ho hk _
    go_wp2
    go_ret
    refine GivesO.mk ?_ ?_
    · have := ho.base0.mono (F' := fun k => w.heap.size ≤ k) (by
        rintro k _ (h | h)
        · omega
        · have : (w.alloc (.cells #[] 5)).heap.size = w.heap.size + 1 := by simp
          omega)
      simpa using this
    · exact Kept.behind hb0 hk (by simp) (fun k hk h => by simp [Value.ownBlock] at h; omega)

set_option maxHeartbeats 400000 in
theorem cloneMsgO (S : Nat → Prop) (w : World) (cs : List Value) (m : Msg) (h : msgR.rel S w cs m) (hl : m.bytes.length ≤ 4194304) :
    Calls Try.prog 30 #[.agg cs.toArray] w (GivesA msgO (fun k => w.heap.size ≤ k) m w) := by
  obtain ⟨v, rfl, h1, h2, h3, h4⟩ := msgR.inv h
  have hb0 : Below w.heap.size w ((w.alloc (.cells #[.int .i64 m.kind, .int .i64 m.frm, .int .i64 m.to, v] 24)).alloc (.cells #[.int .i64 0, .int .i64 0, .int .i64 0, .slice none 0 0] 24)) := bnew (bnew (Below.refl _ _) _) _
  go_enter Try.func30, Try.ntmps30
  go_wp2_with fail
  refine (cloneBytesO S _ _ _ (bytesR.keepB h4 hb0) hl).mono ?_
  rintro e w1 ⟨v1, rfl, ho1, hb1⟩
  obtain ⟨a1, c1, rfl, -, -⟩ := sliceR.form ho1.slice
  obtain ⟨hc, hf⟩ := box_cells (box_after hb1 (box_old (box_new w _)))
  obtain ⟨hc2, hf2⟩ := box_cells (b := w.heap.size + 1) (box_after hb1 (by rw [← World.size_alloc w (.cells #[.int .i64 m.kind, .int .i64 m.frm, .int .i64 m.to, v] 24)]; exact box_new _ _))
  go_wp2_with fail
  refine bodyPost_ret (v := .agg #[.int .i64 m.kind, .int .i64 m.frm, .int .i64 m.to, .slice a1 m.bytes.length c1]) (by simp [results, Try.results30, go_sem, hc2]) rfl ⟨[.int .i64 m.kind, .int .i64 m.frm, .int .i64 m.to, .slice a1 m.bytes.length c1], rfl, msgO.mk h1 h2 h3 ?_, ?_⟩
  · refine Own.mono (Own.keep ho1 (((((Kept.refl _ _).setCell ?_ _).setCell ?_ _).setCell ?_ _).setCell ?_ _ |>.setCell ?_ _)) ?_
    all_goals simp
    all_goals omega
  · exact (((((bnext hb0 hb1).setCell (by simp) _).setCell (by simp) _).setCell (by simp) _).setCell (by simp) _).setCell (by simp) _

set_option maxRecDepth 100000 in
set_option maxHeartbeats 1000000 in
theorem pendingO (O : Nat → Prop) (w : World) (p : Nat) (nodes : Int) (ms : List Msg) (hn : NetAt O w p nodes ms) :
    Calls Try.prog 20 #[.pointer (some ⟨p, 0, none⟩)] w (GivesO msgO 24 ms w) := by
  obtain ⟨n1, n2, n3, n4, n5, nv, n6, n7⟩ := id hn
  obtain ⟨na, ncap, rfl, g3, g4⟩ := sliceR.form n7.slice
  obtain ⟨kc, kf⟩ := box_cells n6
  have N5 := Lib.hid n5
  have hns := n7.slice
  clear n5
  go_enter Try.func20, Try.ntmps20
  go_wp2_with (at_make; refine wpList_make_rel rfl _ _ rfl msgO w.heap.size Try.ety30 rfl rfl (n := ms.length) rfl ?_ ?_ ?_ ?_)
  · omega
  · unfold maxLen; omega
  · exact Nat.le_refl _
  intro w0 ho0 hb0
  obtain ⟨kc0, kf0⟩ := box_cells (box_after hb0 n6)
  go_wp2_with fail
  go_loopw [3, 17] (fun v i wr => ∃ k : Nat, k ≤ ms.length ∧ i = .int .i64 k ∧ Own msgO w.heap.size 24 (fun x => w.heap.size ≤ x) wr v (ms.take k) ∧ Below w.heap.size w wr) (fun _ i _ => ms.length - (intOf i).toNat)
  case atStart => exact ⟨0, Nat.zero_le _, rfl, ho0.mono fun k _ h => by omega, hb0⟩
  case round =>
    obtain ⟨k, hk, rfl, hor, hbr⟩ := hrel
    by_cases hlt : k < ms.length
    · obtain ⟨b, off, va, vc, rfl, hb, hbl, hrel, c0, c1, c2, c3⟩ := msgs_at ((sliceR msgR).keepB hns hbr) k hlt
      have hbn := bnew (Below.refl wr.heap.size wr) (.cells #[.int .i64 ms[k].kind, .int .i64 ms[k].frm, .int .i64 ms[k].to, .slice va ms[k].bytes.length vc] 24)
      go_wp2_with fail
      refine (cloneMsgO _ _ _ ms[k] (msgR.keepB hrel hbn) (N5.out ms[k] (by simp)).2.2.2.2).mono ?_
      rintro e w1 ⟨cs1, rfl, hv1, hb1⟩
      obtain ⟨v1, rfl, -⟩ := msgO.inv hv1
      have hz := hbr.size
      have hoA := ((hor.keepB hbn).keepB hb1).keepB (bnew (Below.refl w1.heap.size w1) (.cells #[.int .i64 ms[k].kind, .int .i64 ms[k].frm, .int .i64 ms[k].to, v1] 24))
      have hbA := bnew (bnext (bnext hbr hbn) hb1) (.cells #[.int .i64 ms[k].kind, .int .i64 ms[k].frm, .int .i64 ms[k].to, v1] 24)
      have HLT := Lib.hid fun x (hx : Value.ownBlock u3 = some x) => hor.lt hx
      go_wp2_with (at_builtin; refine wpList_append_rel (r := msgO) (v := u3) (u := .slice (some ⟨w1.heap.size, 0, none⟩) 1 1) rfl _ _ rfl Try.ety30 rfl rfl hoA (Src.one (msgO.keepB hv1 (bnew (Below.refl _ _) _)) (CellsAt.new w1 _ 24)) ?_ ?_ ?_ ?_ ?_ ?_)
      · intro x _ h
        simp at h
        show _ ≤ _
        omega
      · intro x hx h
        simp at h
        have := (HLT.out x hx).1
        omega
      · unfold maxLen; simp; omega
      · simp; omega
      · exact hbA.size
      intro v2 w2 ho2 hk2 _
      have hb2 := Kept.behind hbA hk2 hbA.size fun x hx h => by have := (HLT.out x h).2.2; omega
      have ho3 : Own msgO w.heap.size 24 (fun x => w.heap.size ≤ x) w2 v2 (List.take (k + 1) ms) := by
        refine ho2.mono fun x _ h => ?_
        rcases h with h | h
        · exact h
        · have := hbA.size; simp at this h; omega
      go_wp2_with fail
      go_roundw
      case rel => exact ⟨k + 1, by omega, by go_num, ho3, hb2⟩
      case measure => simp [intOf]; omega
    · have he : k = ms.length := by omega
      subst he
      rw [List.take_length] at *
      go_wp2_with fail
      go_ret
      exact GivesO.mk hor.base0 hbr

set_option maxRecDepth 100000 in
set_option maxHeartbeats 2000000 in
theorem cpO (S : Nat → Prop) (w : World) (a : Option Addr) (cap : Nat) (l : List Msg) (hl : (sliceR msgR).rel S w [.slice a l.length cap] l) (hs : l.length ≤ 100000) (hm : ∀ m ∈ l, m.bytes.length ≤ 4194304) :
    Calls Try.prog 24 #[.slice a l.length cap] w (GivesO msgO 24 l w) := by
  obtain ⟨-, g1, g2, -⟩ := sliceR.lens hl
  unfold maxLen at g2
  have HM := Lib.hid hm
  clear hm
  go_enter Try.func24, Try.ntmps24
  go_wp2_with fail
  go_loopw [3, 8] (fun v i wr => ∃ k : Nat, k ≤ l.length ∧ i = .int .i64 k ∧ Own msgO w.heap.size 24 (fun x => False ∨ w.heap.size ≤ x) wr v (l.take k) ∧ Below w.heap.size w wr) (fun _ i _ => l.length - (intOf i).toNat)
  case atStart => exact ⟨0, Nat.zero_le _, rfl, Own.nil _ _ _ _ _, Below.refl _ _⟩
  case round =>
    obtain ⟨k, hk, rfl, hor, hbr⟩ := hrel
    by_cases hlt : k < l.length
    · obtain ⟨b, off, va, vc, rfl, -, hbl, hr1, c0, c1, c2, c3⟩ := msgs_at ((sliceR msgR).keepB hl hbr) k hlt
      have hlen := HM.out l[k] (by simp)
      have hwk := msgR.inv hr1
      obtain ⟨v', hv', wf1, wf2, wf3, hby⟩ := hwk
      simp at hv'
      obtain rfl := hv'
      have htk := Lib.hid (List.take_succ_eq_append_getElem hlt)
      generalize hmm : l[k] = m at *
      have HMM := Lib.hid hmm
      clear hmm
      have hbA := bnew (bnew (Below.refl wr.heap.size wr) (.cells #[.int .i64 m.kind, .int .i64 m.frm, .int .i64 m.to, .slice va m.bytes.length vc] 24)) (.cells #[] 5)
      have hown0 := Own.empty (intR .u8) (wr.heap.size + 1) 5 (b := wr.heap.size + 1) (box_new2 wr (.cells #[.int .i64 m.kind, .int .i64 m.frm, .int .i64 m.to, .slice va m.bytes.length vc] 24) (.cells #[] 5)) (Nat.le_refl _)
      have hsrc := (Src.of_slice (bytesR.keepB hby hbA)).plain (Plain.int .u8) (S' := fun _ => False)
      have H0 := Lib.hid hown0
      have H1 := Lib.hid hsrc
      clear hown0 hsrc
      go_wp2_with (at_builtin; refine wpList_append_rel (r := intR .u8) (v := .slice (some ⟨wr.heap.size + 1, 0, none⟩) 0 0) (u := .slice va m.bytes.length vc) rfl _ _ rfl Try.ety22 rfl rfl H0.out H1.out (fun _ _ h => h.elim) (fun _ _ h => h) (by unfold maxLen; simp; omega) (by simp; omega) (by simp) ?_)
      intro v1 w1 ho1 hk1 _
      simp only [Value.ownBlock, Option.some.injEq] at hk1
      have hb1 : Below wr.heap.size wr w1 := Kept.behind hbA hk1 hbA.size fun k hk h => by omega
      have hbox := box_kept hk1 (box_old (box_new wr _)) (by omega)
      obtain ⟨d0, f0⟩ := box_cells hbox
      have hv1 := ho1.slice
      obtain ⟨a1, c1', rfl, -, -⟩ := sliceR.form hv1
      have hz := hbr.size
      have hbS : Below wr.heap.size wr (w1.setCell ⟨wr.heap.size, 3, none⟩ (.slice a1 m.bytes.length c1')) := hb1.setCell (Nat.le_refl _) _
      have hbW := bnext hbr hbS
      have hoS := hor.keepB hbS
      have hrS : msgO.rel (fun x => wr.heap.size < x) (w1.setCell ⟨wr.heap.size, 3, none⟩ (.slice a1 m.bytes.length c1')) [.int .i64 m.kind, .int .i64 m.frm, .int .i64 m.to, .slice a1 m.bytes.length c1'] m := by
        refine msgO.mk wf1 wf2 wf3 (Own.keep (Own.mono ho1.base0 fun x _ h => ?_) ((Kept.refl (fun x => wr.heap.size < x) _).setCell (fun _ h => absurd h (Nat.lt_irrefl _)) _))
        rcases h with h | h
        · show _ < _
          omega
        · show _ < _
          have h9 := hbA.size
          omega
      have HLT := Lib.hid fun x (hx : Value.ownBlock u3 = some x) => hor.lt hx
      have HB := Lib.hid hbW
      have HO := Lib.hid hoS
      have HR := Lib.hid hrS
      have hz1 : w.heap.size ≤ w1.heap.size := Nat.le_trans hz hb1.size
      clear ho1 hk1 hv1 hbS hbW hoS hrS c0 c1 c2 c3 hr1 hby
      go_wp2_with (at_builtin; refine wpList_push (r := msgO) (wr := w1.setCell ⟨wr.heap.size, 3, none⟩ (.slice a1 m.bytes.length c1')) (es := [.int .i64 m.kind, .int .i64 m.frm, .int .i64 m.to, .slice a1 m.bytes.length c1']) (v := u3) (w0 := w) rfl _ _ rfl Try.ety30 rfl (by rw [World.size_setCell]; rfl) HB.out (by simp; omega) HO.out HR.out (fun x hx => ⟨.inr (by omega), fun h => by have := (HLT.out x h).1; omega⟩) (by unfold maxLen; simp; omega) (by simp; omega) ?_)
      intro v2 w2 ho2 hb2
      have ho3 : Own msgO w.heap.size 24 (fun x => False ∨ w.heap.size ≤ x) w2 v2 (l.take (k + 1)) := by
        rw [htk.out]
        first
        | exact ho2
        | exact ho2.mono fun x _ h => .inr h
      go_wp2_with fail
      go_roundw
      case rel => exact ⟨k + 1, by omega, by go_num, ho3, hb2⟩
      case measure => simp [intOf]; omega
    · obtain rfl : k = l.length := by omega
      rw [List.take_length] at *
      go_wp2_with fail
      go_ret
      exact GivesO.mk (hor.base0.mono fun x _ h => h.resolve_left id) hbr
end Go.Proofs.Ytccckjaefnojaaa
