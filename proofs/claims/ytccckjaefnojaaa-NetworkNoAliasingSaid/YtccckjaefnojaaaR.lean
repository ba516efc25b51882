/- The law's cp and fair. -/
import Derived.Test.YtccckjaefnojaaaP
namespace Go.Proofs.Ytccckjaefnojaaa
open Go.ChangeShapes Go.WideShapes Go.ChangeAt Go.RowKit

set_option maxRecDepth 100000 in
set_option maxHeartbeats 2000000 in
theorem cp_any (S : Nat → Prop) (w : World) (a : Option Addr) (cap : Nat) (l : List Msg) (hl : (sliceR msgR).rel S w [.slice a l.length cap] l) (hs : l.length ≤ 100000) (hm : ∀ m ∈ l, m.bytes.length ≤ 4194304) :
    Calls Try.prog 24 #[.slice a l.length cap] w (GivesS msgR (fun k => w.heap.size ≤ k) l w) := by
  obtain ⟨-, g1, g2, -⟩ := sliceR.lens hl
  unfold maxLen at g2
  have HM := Lib.hid hm
  clear hm
  go_enter Try.func24, Try.ntmps24
  go_wp2_with fail
  go_loopw [3, 8] (fun v i wr => ∃ k : Nat, k ≤ l.length ∧ i = .int .i64 k ∧ Own msgR w.heap.size 24 (fun x => False ∨ w.heap.size ≤ x) wr v (l.take k) ∧ Below w.heap.size w wr) (fun _ i _ => l.length - (intOf i).toNat)
  case atStart => exact ⟨0, Nat.zero_le _, rfl, Own.nil _ _ _ _ _, Below.refl _ _⟩
  case round =>
    obtain ⟨k, hk, rfl, hor, hbr⟩ := hrel
    by_cases hlt : k < l.length
    · obtain ⟨b, off, va, vc, rfl, -, hbl, hr1, c0, c1, c2, c3⟩ := msgs_at ((sliceR msgR).keepB hl hbr) k hlt
      have hlen := HM.out l[k] (by simp)
      have hwk := msgR.inv hr1
      obtain ⟨v', hv', wf1, wf2, wf3, hby⟩ := hwk
      simp at hv'
      obtain rfl := hv'
      have htk := Lib.hid (List.take_succ_eq_append_getElem hlt)
      generalize hmm : l[k] = m at *
      have HMM := Lib.hid hmm
      clear hmm
      have hbA := bnew (bnew (Below.refl wr.heap.size wr) (.cells #[.int .i64 m.kind, .int .i64 m.frm, .int .i64 m.to, .slice va m.bytes.length vc] 24)) (.cells #[] 5)
      have hown0 := Own.empty (intR .u8) (wr.heap.size + 1) 5 (b := wr.heap.size + 1) (box_new2 wr (.cells #[.int .i64 m.kind, .int .i64 m.frm, .int .i64 m.to, .slice va m.bytes.length vc] 24) (.cells #[] 5)) (Nat.le_refl _)
      have hsrc := (Src.of_slice (bytesR.keepB hby hbA)).plain (Plain.int .u8) (S' := fun _ => False)
      have H0 := Lib.hid hown0
      have H1 := Lib.hid hsrc
      clear hown0 hsrc
      go_wp2_with (at_builtin; refine wpList_append_rel (r := intR .u8) (v := .slice (some ⟨wr.heap.size + 1, 0, none⟩) 0 0) (u := .slice va m.bytes.length vc) rfl _ _ rfl Try.ety22 rfl rfl H0.out H1.out (fun _ _ h => h.elim) (fun _ _ h => h) (by unfold maxLen; simp; omega) (by simp; omega) (by simp) ?_)
      intro v1 w1 ho1 hk1 _
      simp only [Value.ownBlock, Option.some.injEq] at hk1
      have hb1 : Below wr.heap.size wr w1 := Kept.behind hbA hk1 hbA.size fun k hk h => by omega
      have hbox := box_kept hk1 (box_old (box_new wr _)) (by omega)
      obtain ⟨d0, f0⟩ := box_cells hbox
      have hv1 := ho1.slice
      obtain ⟨a1, c1', rfl, -, -⟩ := sliceR.form hv1
      have hz := hbr.size
      have hbS : Below wr.heap.size wr (w1.setCell ⟨wr.heap.size, 3, none⟩ (.slice a1 m.bytes.length c1')) := hb1.setCell (Nat.le_refl _) _
      have hbW := bnext hbr hbS
      have hoS := hor.keepB hbS
      have hrS : msgR.rel (fun x => wr.heap.size < x) (w1.setCell ⟨wr.heap.size, 3, none⟩ (.slice a1 m.bytes.length c1')) [.int .i64 m.kind, .int .i64 m.frm, .int .i64 m.to, .slice a1 m.bytes.length c1'] m := by
        refine msgR.mk wf1 wf2 wf3 (bytesR.keep (bytesR.mono hv1 fun x _ h => ?_) ((Kept.refl (fun x => wr.heap.size < x) _).setCell (fun _ h => absurd h (Nat.lt_irrefl _)) _))
        rcases h with h | h <;> omega
      have HLT := Lib.hid fun x (hx : Value.ownBlock u3 = some x) => hor.lt hx
      have HB := Lib.hid hbW
      have HO := Lib.hid hoS
      have HR := Lib.hid hrS
      have hz1 : w.heap.size ≤ w1.heap.size := Nat.le_trans hz hb1.size
      clear ho1 hk1 hv1 hbS hbW hoS hrS c0 c1 c2 c3 hr1 hby
      go_wp2_with (at_builtin; refine wpList_push (r := msgR) (wr := w1.setCell ⟨wr.heap.size, 3, none⟩ (.slice a1 m.bytes.length c1')) (es := [.int .i64 m.kind, .int .i64 m.frm, .int .i64 m.to, .slice a1 m.bytes.length c1']) (v := u3) (w0 := w) rfl _ _ rfl Try.ety30 rfl (by rw [World.size_setCell]; rfl) HB.out (by simp; omega) HO.out HR.out (fun x hx => ⟨.inr (by omega), fun h => by have := (HLT.out x h).1; omega⟩) (by unfold maxLen; simp; omega) (by simp; omega) ?_)
      intro v2 w2 ho2 hb2
      have ho3 : Own msgR w.heap.size 24 (fun x => False ∨ w.heap.size ≤ x) w2 v2 (l.take (k + 1)) := by
        rw [htk.out]
        first
        | exact ho2
        | exact ho2.mono fun x _ h => .inr h
      go_wp2_with fail
      go_roundw
      case rel => exact ⟨k + 1, by omega, by go_num, ho3, hb2⟩
      case measure => simp [intOf]; omega
    · obtain rfl : k = l.length := by omega
      rw [List.take_length] at *
      go_wp2_with fail
      go_ret
      exact GivesS.mk ((sliceR msgR).mono hor.slice fun x _ h => h.resolve_left id) hbr

/-! ### Operations -/
structure OpM where
  kind : Int
  l : List Msg
  n : Int
  g : List Int
abbrev msgsR : Rep (List Msg) := sliceR msgR
def opR : Rep OpM := mapR (fun o => (o.kind, o.l, o.n, o.g)) (pairR (intR .u8) (pairR msgsR (pairR (intR .i64) intsR)))
theorem opR.n : opR.n = 4 := rfl
theorem opR.inv {S : Nat → Prop} {w : World} {cs : List Value} {o : OpM} (h : opR.rel S w cs o) :
    ∃ la lc ga gc, cs = [.int .u8 o.kind, .slice la o.l.length lc, .int .i64 o.n, .slice ga o.g.length gc] ∧ (Lit.int .u8 o.kind).wf = true ∧ (Lit.int .i64 o.n).wf = true ∧ msgsR.rel S w [.slice la o.l.length lc] o.l ∧ intsR.rel S w [.slice ga o.g.length gc] o.g := by
  obtain ⟨c1, c2, rfl, h1, d1, d2, rfl, h2, e1, e2, rfl, h3, h4⟩ := h
  have hl := intsR.len h4
  have hl2 := msgsR.len h2
  obtain ⟨rfl, w1⟩ := h1
  obtain ⟨rfl, w3⟩ := h3
  match e2, hl, d1, hl2 with
  | [v], _, [u], _ =>
    obtain ⟨la, lc, rfl, -⟩ := sliceR.form h2
    obtain ⟨ga, gc, rfl, -⟩ := sliceR.form h4
    exact ⟨la, lc, ga, gc, rfl, w1, w3, h2, h4⟩
/-- Operation number k of a slice of operations: its four cells. -/
theorem ops_at {S : Nat → Prop} {w : World} {a : Option Addr} {len cap : Nat} {l : List OpM} (h : (sliceR opR).rel S w [.slice a len cap] l) (k : Nat) (hk : k < l.length) :
    ∃ b off la lc ga gc, a = some ⟨b, off, none⟩ ∧ S b ∧ b < w.heap.size ∧ (Lit.int .u8 l[k].kind).wf = true ∧ (Lit.int .i64 l[k].n).wf = true ∧ msgsR.rel S w [.slice la l[k].l.length lc] l[k].l ∧ intsR.rel S w [.slice ga l[k].g.length gc] l[k].g ∧
      w.cell? ⟨b, off + k * 4, none⟩ = some (.int .u8 l[k].kind) ∧ w.cell? ⟨b, off + k * 4 + 1, none⟩ = some (.slice la l[k].l.length lc) ∧ w.cell? ⟨b, off + k * 4 + 2, none⟩ = some (.int .i64 l[k].n) ∧
      w.cell? ⟨b, off + k * 4 + 3, none⟩ = some (.slice ga l[k].g.length gc) := by
  obtain ⟨b, off, es, rfl, hb, hbl, hrel, hca⟩ := sliceR.at h k hk
  obtain ⟨la, lc, ga, gc, rfl, h1, h2, h3, h4⟩ := opR.inv hrel
  rw [opR.n] at hca
  exact ⟨b, off, la, lc, ga, gc, rfl, hb, hbl, h1, h2, h3, h4, hca 0 _ rfl, hca 1 _ rfl, hca 2 _ rfl, hca 3 _ rfl⟩

def okMsgs (l : List Msg) : Bool := l.all fun m => decide (m.bytes.length ≤ 100)
def okOp (o : OpM) : Bool := decide (o.l.length ≤ 20) && decide (o.g.length ≤ 20) && okMsgs o.l
def fairB (l : List OpM) : Bool := l.all okOp && decide (l.length ≤ 30)

theorem all_take_succ {α : Type} (p : α → Bool) (l : List α) (k : Nat) (h : k < l.length) : (l.take (k + 1)).all p = ((l.take k).all p && p l[k]) := by
  rw [List.take_succ_eq_append_getElem h, List.all_append]; simp
theorem all_false {α : Type} (p : α → Bool) (l : List α) (k : Nat) (h : k < l.length) (hp : p l[k] = false) : l.all p = false := by
  rw [List.all_eq_false]
  exact ⟨l[k], by simp, by simp [hp]⟩

set_option maxRecDepth 100000 in
set_option maxHeartbeats 2000000 in
theorem fair_any (S : Nat → Prop) (w : World) (a : Option Addr) (cap : Nat) (l : List OpM) (hl : (sliceR opR).rel S w [.slice a l.length cap] l) :
    Calls Try.prog 17 #[.slice a l.length cap] w fun e w' => e = .returned (.bool (fairB l)) ∧ Below w.heap.size w w' := by
  obtain ⟨-, g1, g2, -⟩ := sliceR.lens hl
  unfold maxLen at g2
  go_enter Try.func17, Try.ntmps17
  go_wp2_with fail
  go_loopw [9] (fun i wr => ∃ k : Nat, k ≤ l.length ∧ i = .int .i64 k ∧ (l.take k).all okOp = true ∧ Below w.heap.size w wr) (fun i _ => l.length - (intOf i).toNat)
  case atStart => exact ⟨0, Nat.zero_le _, rfl, rfl, Below.refl _ _⟩
  case round =>
    obtain ⟨k, hk, rfl, hall, hbr⟩ := hrel
    have HA := Lib.hid hall
    clear hall
    by_cases hlt : k < l.length
    · obtain ⟨b, off, la, lc, ga, gc, rfl, -, hbl, wf1, wf2, hL, hG, c0, c1, c2, c3⟩ := ops_at ((sliceR opR).keepB hl hbr) k hlt
      have hno := Lib.hid (all_false okOp l k hlt)
      have hyes := Lib.hid (all_take_succ okOp l k hlt)
      obtain ⟨-, l1, l2, -⟩ := sliceR.lens hL
      obtain ⟨-, l3, l4, -⟩ := sliceR.lens hG
      unfold maxLen at l2 l4
      generalize l[k] = o at *
      have hb1 := bnew (Below.refl wr.heap.size wr) (.cells #[.int .u8 o.kind, .slice la o.l.length lc, .int .i64 o.n, .slice ga o.g.length gc] 50)
      by_cases p1 : 20 < o.l.length
      · have HF : Hid (fairB l = false) := by
          show _ = _; unfold fairB; rw [hno.out (by unfold okOp; rw [decide_eq_false (by omega)]; rfl)]; rfl
        go_wp2_with fail
        go_ret
        exact ⟨by rw [HF.out]; rfl, bnext hbr hb1⟩
      · by_cases p2 : 20 < o.g.length
        · have HF : Hid (fairB l = false) := by
            show _ = _; unfold fairB; rw [hno.out (by unfold okOp; rw [decide_eq_false (p := o.g.length ≤ 20) (by omega)]; simp)]; rfl
          go_wp2_with fail
          go_ret
          exact ⟨by rw [HF.out]; rfl, bnext hbr hb1⟩
        · have hoks : Hid (okOp o = okMsgs o.l) := by
            show _ = _; unfold okOp; rw [decide_eq_true (p := o.l.length ≤ 20) (by omega), decide_eq_true (p := o.g.length ≤ 20) (by omega)]; simp
          have hLb := msgsR.keepB hL hb1
          obtain ⟨wo, hwo⟩ : ∃ wo : World, wo = wr := ⟨_, rfl⟩
          rw [← hwo] at hb1 hLb
          have hbo : Below w.heap.size w wo := by rw [hwo]; exact hbr
          go_wp2_with fail
          rw [← hwo]
          clear hwo hbr hL hG c0 c1 c2 c3 hbl
          go_loopw [26] (fun i w' => ∃ j : Nat, j ≤ o.l.length ∧ i = .int .i64 j ∧ okMsgs (o.l.take j) = true ∧ Below (wo.alloc (.cells #[.int .u8 o.kind, .slice la o.l.length lc, .int .i64 o.n, .slice ga o.g.length gc] 50)).heap.size (wo.alloc (.cells #[.int .u8 o.kind, .slice la o.l.length lc, .int .i64 o.n, .slice ga o.g.length gc] 50)) w') (fun i _ => o.l.length - (intOf i).toNat)
          case atStart => exact ⟨0, Nat.zero_le _, rfl, rfl, Below.refl _ _⟩
          case round =>
            obtain ⟨j, hj, rfl, hoj, hbj⟩ := hrel
            have HJ := Lib.hid hoj
            clear hoj
            have hbw := bnext hbo (bnext hb1 hbj)
            by_cases hjl : j < o.l.length
            · obtain ⟨b', off', va, vc, rfl, -, hbl', hr1, d0, d1, d2, d3⟩ := msgs_at (msgsR.keepB hLb hbj) j hjl
              have hno2 := Lib.hid (all_false (fun m : Msg => decide (m.bytes.length ≤ 100)) o.l j hjl)
              have hyes2 := Lib.hid (all_take_succ (fun m : Msg => decide (m.bytes.length ≤ 100)) o.l j hjl)
              have hvl := (sliceR.lens (msgR.bytes hr1)).2
              unfold maxLen at hvl
              generalize o.l[j] = m at *
              have hb2 := bnew hbw (.cells #[.int .i64 m.kind, .int .i64 m.frm, .int .i64 m.to, .slice va m.bytes.length vc] 24)
              have hb3 := bnew hbj (.cells #[.int .i64 m.kind, .int .i64 m.frm, .int .i64 m.to, .slice va m.bytes.length vc] 24)
              by_cases p3 : 100 < m.bytes.length
              · have HF : Hid (fairB l = false) := by
                  show _ = _; unfold fairB; rw [hno.out (by rw [hoks.out]; unfold okMsgs; exact hno2.out (decide_eq_false (by omega)))]; rfl
                go_wp2_with fail
                go_ret
                exact ⟨by rw [HF.out]; rfl, hb2⟩
              · have HY : Hid (okMsgs (o.l.take (j + 1)) = true) := by
                  show _ = _; unfold okMsgs; rw [hyes2.out]; have h := HJ.out; unfold okMsgs at h; rw [h, decide_eq_true (by omega)]; rfl
                go_wp2_with fail
                go_roundw
                case rel => exact ⟨j + 1, by omega, by go_num, HY.out, hb3⟩
                case measure => simp [intOf]; omega
            · have HY : Hid ((l.take (k + 1)).all okOp = true) := by
                show _ = _
                have h := HJ.out
                rw [List.take_of_length_le (by omega)] at h
                rw [hyes.out, HA.out, hoks.out, h]; rfl
              go_wp2_with fail
              go_roundw
              case rel => exact ⟨k + 1, by omega, by go_num, HY.out, hbw⟩
              case measure => simp [intOf]; omega
    · obtain rfl : k = l.length := by omega
      have h := HA.out
      rw [List.take_length] at h
      have HF : Hid (fairB l = decide (l.length ≤ 30)) := by show _ = _; unfold fairB; rw [h]; rfl
      clear h
      go_wp2_with fail
      go_ret
      exact ⟨ret_bool (by rw [HF.out]; exact decide_eq_decide.2 (by omega)), hbr⟩
end Go.Proofs.Ytccckjaefnojaaa
