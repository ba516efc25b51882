/- The data of transactions and rules, and the smallness test. -/
import Derived.Test.YthggdacincfplaaGreatDoorRules
import Derived.Test.YthggdacincfplaaGreatDoorKitR
namespace Go.Proofs.YthggdacincfplaaGreatDoor
open Go.ChangeShapes Go.WideShapes Go.ChangeAt Go.RowKit

structure OutM where
  commit : Int
  p0 : Int
  p1 : Int
  cipher : List Int
structure TxM where
  anchor : Int
  marks : List Int
  outs : List OutM
  dep : Int
  wd : Int
  fee : Int
  acc : Int
  nonce : Int
  exp : Int
  proof : List Int
abbrev u64R : Rep Int := intR .u64
abbrev numsR : Rep (List Int) := sliceR u64R
abbrev bytesR : Rep (List Int) := sliceR (intR .u8)
def outR : Rep OutM := mapR (fun o => (o.commit, (o.p0, o.p1), o.cipher)) (pairR u64R (pairR (pairR u64R u64R) numsR))
theorem outR.n : outR.n = 4 := rfl
abbrev outsR : Rep (List OutM) := sliceR outR
def txR : Rep TxM := mapR (fun t => (t.anchor, t.marks, t.outs, t.dep, t.wd, t.fee, t.acc, t.nonce, t.exp, t.proof))
  (pairR u64R (pairR numsR (pairR outsR (pairR u64R (pairR u64R (pairR u64R (pairR u64R (pairR u64R (pairR (intR .i64) bytesR)))))))))
theorem txR.n : txR.n = 10 := rfl

/-- A number of its kind. -/
abbrev okU (x : Int) : Prop := (Lit.int .u64 x).wf = true
theorem one_form {α : Type} {r : Rep α} {S : Nat → Prop} {w : World} {cs : List Value} {xs : List α} (h : (sliceR r).rel S w cs xs) : ∃ a cap, cs = [.slice a xs.length cap] := by
  obtain ⟨a, len, cap, rfl, rfl, -⟩ := h
  exact ⟨a, cap, rfl⟩
theorem outR.inv {S : Nat → Prop} {w : World} {cs : List Value} {o : OutM} (h : outR.rel S w cs o) :
    ∃ a cap, cs = [.int .u64 o.commit, .int .u64 o.p0, .int .u64 o.p1, .slice a o.cipher.length cap] ∧ okU o.commit ∧ okU o.p0 ∧ okU o.p1 ∧ numsR.rel S w [.slice a o.cipher.length cap] o.cipher := by
  obtain ⟨c1, c2, rfl, ⟨rfl, w1⟩, d1, d2, rfl, ⟨e1, e2, rfl, ⟨rfl, w2⟩, ⟨rfl, w3⟩⟩, h4⟩ := h
  obtain ⟨a, cap, rfl⟩ := one_form h4
  exact ⟨a, cap, rfl, w1, w2, w3, h4⟩
/-- The cells of a transaction. -/
def txCells (t : TxM) (ma oa pa : Option Addr) (mc oc pc : Nat) : List Value :=
  [.int .u64 t.anchor, .slice ma t.marks.length mc, .slice oa t.outs.length oc, .int .u64 t.dep, .int .u64 t.wd, .int .u64 t.fee, .int .u64 t.acc, .int .u64 t.nonce, .int .i64 t.exp, .slice pa t.proof.length pc]
structure TxIn (S : Nat → Prop) (w : World) (t : TxM) (ma oa pa : Option Addr) (mc oc pc : Nat) : Prop where
  anchor : okU t.anchor
  dep : okU t.dep
  wd : okU t.wd
  fee : okU t.fee
  acc : okU t.acc
  nonce : okU t.nonce
  exp : (Lit.int .i64 t.exp).wf = true
  marks : numsR.rel S w [.slice ma t.marks.length mc] t.marks
  outs : outsR.rel S w [.slice oa t.outs.length oc] t.outs
  proof : bytesR.rel S w [.slice pa t.proof.length pc] t.proof
theorem txR.inv {S : Nat → Prop} {w : World} {cs : List Value} {t : TxM} (h : txR.rel S w cs t) : ∃ ma oa pa mc oc pc, cs = txCells t ma oa pa mc oc pc ∧ TxIn S w t ma oa pa mc oc pc := by
  obtain ⟨_, _, rfl, ⟨rfl, w1⟩, _, _, rfl, h2, _, _, rfl, h3, _, _, rfl, ⟨rfl, w4⟩, _, _, rfl, ⟨rfl, w5⟩, _, _, rfl, ⟨rfl, w6⟩, _, _, rfl, ⟨rfl, w7⟩, _, _, rfl, ⟨rfl, w8⟩, _, _, rfl, ⟨rfl, w9⟩, h10⟩ := h
  obtain ⟨ma, mc, rfl⟩ := one_form h2
  obtain ⟨oa, oc, rfl⟩ := one_form h3
  obtain ⟨pa, pc, rfl⟩ := one_form h10
  exact ⟨ma, oa, pa, mc, oc, pc, rfl, w1, w4, w5, w6, w7, w8, w9, h2, h3, h10⟩
theorem TxIn.keep {S : Nat → Prop} {w w' : World} {t : TxM} {ma oa pa : Option Addr} {mc oc pc : Nat} (h : TxIn S w t ma oa pa mc oc pc) (hk : Kept S w w') : TxIn S w' t ma oa pa mc oc pc :=
  ⟨h.anchor, h.dep, h.wd, h.fee, h.acc, h.nonce, h.exp, numsR.keep h.marks hk, outsR.keep h.outs hk, bytesR.keep h.proof hk⟩
theorem TxIn.keepB {S : Nat → Prop} {w w' : World} {t : TxM} {ma oa pa : Option Addr} {mc oc pc : Nat} (h : TxIn S w t ma oa pa mc oc pc) (hb : Below w.heap.size w w') : TxIn S w' t ma oa pa mc oc pc := h.keep (Kept.of_below hb)

/-- Output number k of a slice of outputs: its four cells. -/
theorem outs_at {S : Nat → Prop} {w : World} {a : Option Addr} {len cap : Nat} {l : List OutM} (h : outsR.rel S w [.slice a len cap] l) (k : Nat) (hk : k < l.length) :
    ∃ b off ca cc, a = some ⟨b, off, none⟩ ∧ S b ∧ b < w.heap.size ∧ okU l[k].commit ∧ okU l[k].p0 ∧ okU l[k].p1 ∧ numsR.rel S w [.slice ca l[k].cipher.length cc] l[k].cipher ∧
      w.cell? ⟨b, off + k * 4, none⟩ = some (.int .u64 l[k].commit) ∧ w.cell? ⟨b, off + k * 4 + 1, none⟩ = some (.int .u64 l[k].p0) ∧ w.cell? ⟨b, off + k * 4 + 2, none⟩ = some (.int .u64 l[k].p1) ∧
      w.cell? ⟨b, off + k * 4 + 3, none⟩ = some (.slice ca l[k].cipher.length cc) := by
  obtain ⟨b, off, es, rfl, hb, hbl, hrel, hca⟩ := sliceR.at h k hk
  obtain ⟨ca, cc, rfl, w1, w2, w3, h4⟩ := outR.inv hrel
  rw [outR.n] at hca
  exact ⟨b, off, ca, cc, rfl, hb, hbl, w1, w2, w3, h4, hca 0 _ rfl, hca 1 _ rfl, hca 2 _ rfl, hca 3 _ rfl⟩

def smallOuts (l : List OutM) : Bool := l.all fun o => decide (o.cipher.length ≤ 10)
def smallB (t : TxM) (n : Int) : Bool := smallOuts t.outs && (decide (t.marks.length ≤ 10) && decide (t.outs.length ≤ 10) && decide ((t.proof.length : Int) ≤ n))
theorem all_take_succ {α : Type} (p : α → Bool) (l : List α) (k : Nat) (h : k < l.length) : (l.take (k + 1)).all p = ((l.take k).all p && p l[k]) := by
  rw [List.take_succ_eq_append_getElem h, List.all_append]; simp
theorem all_false {α : Type} (p : α → Bool) (l : List α) (k : Nat) (h : k < l.length) (hp : p l[k] = false) : l.all p = false := by
  rw [List.all_eq_false]
  exact ⟨l[k], by simp, by simp [hp]⟩

set_option maxRecDepth 100000 in
set_option maxHeartbeats 2000000 in
theorem small_any (S : Nat → Prop) (w : World) (t : TxM) (ma oa pa : Option Addr) (mc oc pc : Nat) (n : Int) (h : TxIn S w t ma oa pa mc oc pc) :
    Calls Tryz.prog 6 #[.agg #[.int .u64 t.anchor, .slice ma t.marks.length mc, .slice oa t.outs.length oc, .int .u64 t.dep, .int .u64 t.wd, .int .u64 t.fee, .int .u64 t.acc, .int .u64 t.nonce, .int .i64 t.exp, .slice pa t.proof.length pc], .int .i64 n] w fun e w' => e = .returned (.bool (smallB t n)) ∧ Below w.heap.size w w' := by
  have g1 := (sliceR.lens h.marks).2
  have g2 := (sliceR.lens h.outs).2
  have g3 := (sliceR.lens h.proof).2
  unfold maxLen at g1 g2 g3
  have hb0 := bnew (Below.refl w.heap.size w) (.cells (txCells t ma oa pa mc oc pc).toArray 36)
  have HT := Lib.hid (h.keepB hb0)
  have HX := Lib.hid (box_new w (.cells (txCells t ma oa pa mc oc pc).toArray 36))
  unfold txCells at HT HX hb0
  obtain ⟨x0, x1⟩ := box_cells HX.out
  go_enter Tryz.func6, Tryz.ntmps6
  go_wp2_with fail
  go_loop [5] (fun i => ∃ k : Nat, k ≤ t.outs.length ∧ i = .int .i64 k ∧ smallOuts (t.outs.take k) = true) (fun i => t.outs.length - (intOf i).toNat)
  case atStart => exact ⟨0, Nat.zero_le _, rfl, rfl⟩
  case round =>
    obtain ⟨k, hk, rfl, hall⟩ := hrel
    have HA := Lib.hid hall
    clear hall
    by_cases hlt : k < t.outs.length
    · obtain ⟨b, off, ca, cc, rfl, -, hbl, -, -, -, hci, c0, c1, c2, c3⟩ := outs_at HT.out.outs k hlt
      have hno := Lib.hid (all_false (fun o : OutM => decide (o.cipher.length ≤ 10)) t.outs k hlt)
      have hyes := Lib.hid (all_take_succ (fun o : OutM => decide (o.cipher.length ≤ 10)) t.outs k hlt)
      have hvl := (sliceR.lens hci).2
      unfold maxLen at hvl
      generalize t.outs[k] = o at *
      by_cases p1 : 10 < o.cipher.length
      · have HF : Hid (smallB t n = false) := by
          show _ = _; unfold smallB smallOuts; rw [hno.out (decide_eq_false (by omega))]; rfl
        go_wp2_with fail
        go_ret
        exact ⟨by rw [HF.out]; rfl, hb0⟩
      · have HY : Hid (smallOuts (t.outs.take (k + 1)) = true) := by
          show _ = _; unfold smallOuts; rw [hyes.out]; have h := HA.out; unfold smallOuts at h; rw [h, decide_eq_true (by omega)]; rfl
        go_wp2_with fail
        go_round
        case rel => exact ⟨k + 1, by omega, by go_num, HY.out⟩
        case measure => simp [intOf]; omega
    · obtain rfl : k = t.outs.length := by omega
      have HF : Hid (smallB t n = (decide (t.marks.length ≤ 10) && decide (t.outs.length ≤ 10) && decide ((t.proof.length : Int) ≤ n))) := by
        show _ = _; unfold smallB; have h := HA.out; rw [List.take_length] at h; rw [h]; rfl
      go_wp2_with fail
      all_goals go_ret
      all_goals refine ⟨ret_bool ?_, hb0⟩
      all_goals rw [HF.out]
      all_goals first
        | (rw [decide_eq_true (p := t.marks.length ≤ 10) (by omega), decide_eq_true (p := t.outs.length ≤ 10) (by omega)]; rfl)
        | (simp; omega)
end Go.Proofs.YthggdacincfplaaGreatDoor
