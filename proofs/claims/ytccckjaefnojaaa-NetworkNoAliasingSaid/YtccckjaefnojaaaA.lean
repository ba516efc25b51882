/- The network's own functions: what each returns and what becomes of memory. -/
import Derived.Test.YtccckjaefnojaaaRows
import Derived.Test.YtccckjaefnojaaaKit
import Derived.WalkSpells
import Derived.Deep.RegionHeld3
import Derived.Deep.QuietTactic
import Derived.BigQuiet
import Derived.Deep.RegionLaw
namespace Go.Proofs.Ytccckjaefnojaaa
open Go.ChangeShapes Go.WideShapes Go.ChangeAt Go.RowKit

structure Msg where
  kind : Int
  frm : Int
  to : Int
  bytes : List Int

abbrev bytesR : Rep (List Int) := sliceR (intR .u8)
def msgR : Rep Msg := mapR (fun m => (m.kind, m.frm, m.to, m.bytes)) (pairR (intR .i64) (pairR (intR .i64) (pairR (intR .i64) bytesR)))
theorem msgR.n : msgR.n = 4 := rfl
theorem msgR.inv {S : Nat → Prop} {w : World} {cs : List Value} {m : Msg} (h : msgR.rel S w cs m) :
    ∃ v, cs = [.int .i64 m.kind, .int .i64 m.frm, .int .i64 m.to, v] ∧ (Lit.int .i64 m.kind).wf = true ∧ (Lit.int .i64 m.frm).wf = true ∧ (Lit.int .i64 m.to).wf = true ∧ bytesR.rel S w [v] m.bytes := by
  obtain ⟨c1, c2, rfl, h1, d1, d2, rfl, h2, e1, e2, rfl, h3, h4⟩ := h
  have hl := bytesR.len h4
  obtain ⟨rfl, w1⟩ := h1
  obtain ⟨rfl, w2⟩ := h2
  obtain ⟨rfl, w3⟩ := h3
  match e2, hl with
  | [v], _ => exact ⟨v, rfl, w1, w2, w3, h4⟩
theorem msgR.mk {S : Nat → Prop} {w : World} {m : Msg} {v : Value} (h1 : (Lit.int .i64 m.kind).wf = true) (h2 : (Lit.int .i64 m.frm).wf = true) (h3 : (Lit.int .i64 m.to).wf = true) (h4 : bytesR.rel S w [v] m.bytes) :
    msgR.rel S w [.int .i64 m.kind, .int .i64 m.frm, .int .i64 m.to, v] m :=
  ⟨[.int .i64 m.kind], _, rfl, ⟨rfl, h1⟩, [.int .i64 m.frm], _, rfl, ⟨rfl, h2⟩, [.int .i64 m.to], [v], rfl, ⟨rfl, h3⟩, h4⟩

theorem Try.ety22 : ElemTy Try.prog 22 5 1 1 := ElemTy.of Try.underlying22 (z := .int .u8 0) (by kernel_rfl) rfl (by omega)
theorem Try.ety30 : ElemTy Try.prog 30 24 4 48 := ElemTy.of Try.underlying30 (z := .agg #[.int .i64 0, .int .i64 0, .int .i64 0, .slice none 0 0]) (by kernel_rfl) rfl (by omega)

set_option maxHeartbeats 400000 in
theorem cloneBytes (S : Nat → Prop) (w : World) (v : Value) (xs : List Int) (h : bytesR.rel S w [v] xs) (hl : xs.length ≤ 4194304) :
    Calls Try.prog 35 #[v] w (GivesS (intR .u8) (fun k => w.heap.size ≤ k) xs w) := by
  obtain ⟨a, cap, rfl, h1, h2⟩ := sliceR.form h
  cases a with
  | none =>
    obtain ⟨_, _, _, h4⟩ := sliceR.lens h
    have hc := h4 rfl
    subst hc
    have hx : xs = [] := List.eq_nil_of_length_eq_zero (by omega)
    subst hx
    have ke := fun w => Lib.run_eql_slice_nil (P := Try.prog) w
    go_enter Try.func35, Try.ntmps35
    go_wp2
    go_ret
    exact GivesS.mk sliceR.nil (Below.refl _ _)
  | some ad =>
    have ke := fun w => Lib.run_eql_slice_nil (P := Try.prog) w
    have hb0 : Below w.heap.size w (w.alloc (.cells #[] 5)) := bnew (Below.refl _ _) _
    have hown := Own.empty (intR .u8) w.heap.size 5 (w := w.alloc (.cells #[] 5)) (heap_alloc_new w _) (Nat.le_refl _)
    have hsrc := (Src.of_slice (bytesR.keepB h hb0)).plain (Plain.int .u8) (S' := fun _ => False)
    go_enter Try.func35, Try.ntmps35
    go_wp2_with (at_builtin; refine wpList_append_rel rfl _ _ rfl Try.ety22 rfl rfl hown hsrc ?_ ?_ ?_ ?_ ?_ ?_)
    · intro k _ h; exact h.elim
    · intro k _ h; exact h
    · unfold maxLen; simp; omega
    · simp; omega
    · simp
    intro v' w1 ho hk _
    go_wp2
    go_ret
    refine GivesS.mk ?_ ?_
    · have := bytesR.mono ho.slice (S' := fun k => w.heap.size ≤ k) (by
        rintro k _ (h | h)
        · omega
        · have : (w.alloc (.cells #[] 5)).heap.size = w.heap.size + 1 := by simp
          omega)
      simpa using this
    · exact Kept.behind hb0 hk (by simp) (fun k hk h => by simp [Value.ownBlock] at h; omega)

set_option maxHeartbeats 400000 in
theorem cloneMsg (S : Nat → Prop) (w : World) (cs : List Value) (m : Msg) (h : msgR.rel S w cs m) (hl : m.bytes.length ≤ 4194304) :
    Calls Try.prog 30 #[.agg cs.toArray] w (GivesA msgR (fun k => w.heap.size ≤ k) m w) := by
  obtain ⟨v, rfl, h1, h2, h3, h4⟩ := msgR.inv h
  have hb0 : Below w.heap.size w ((w.alloc (.cells #[.int .i64 m.kind, .int .i64 m.frm, .int .i64 m.to, v] 24)).alloc (.cells #[.int .i64 0, .int .i64 0, .int .i64 0, .slice none 0 0] 24)) := bnew (bnew (Below.refl _ _) _) _
  go_enter Try.func30, Try.ntmps30
  go_wp2_with fail
  refine (cloneBytes S _ _ _ (bytesR.keepB h4 hb0) hl).mono ?_
  rintro e w1 ⟨a1, c1, rfl, hv1, hb1⟩
  obtain ⟨hc, hf⟩ := box_cells (box_after hb1 (box_old (box_new w _)))
  obtain ⟨hc2, hf2⟩ := box_cells (b := w.heap.size + 1) (box_after hb1 (by rw [← World.size_alloc w (.cells #[.int .i64 m.kind, .int .i64 m.frm, .int .i64 m.to, v] 24)]; exact box_new _ _))
  go_wp2_with fail
  refine bodyPost_ret (v := .agg #[.int .i64 m.kind, .int .i64 m.frm, .int .i64 m.to, .slice a1 m.bytes.length c1]) (by simp [results, Try.results30, go_sem, hc2]) rfl ⟨[.int .i64 m.kind, .int .i64 m.frm, .int .i64 m.to, .slice a1 m.bytes.length c1], rfl, msgR.mk h1 h2 h3 ?_, ?_⟩
  · refine bytesR.mono (bytesR.keep hv1 (((((Kept.refl _ _).setCell ?_ _).setCell ?_ _).setCell ?_ _).setCell ?_ _ |>.setCell ?_ _)) ?_
    all_goals simp
    all_goals omega
  · exact (((((bnext hb0 hb1).setCell (by simp) _).setCell (by simp) _).setCell (by simp) _).setCell (by simp) _).setCell (by simp) _

/-! ### The network -/
/-- At block p: a network of this many nodes that holds the messages ms; all of its memory lies in O. -/
def NetAt (O : Nat → Prop) (w : World) (p : Nat) (nodes : Int) (ms : List Msg) : Prop :=
  O p ∧ 1 ≤ nodes ∧ nodes ≤ 64 ∧ ms.length ≤ 4096 ∧ (∀ m ∈ ms, 0 ≤ m.frm ∧ m.frm < nodes ∧ 0 ≤ m.to ∧ m.to < nodes ∧ m.bytes.length ≤ 4194304) ∧
  ∃ v, w.heap[p]? = some (.cells #[.int .i64 nodes, v] 58 (0, 0)) ∧ Own msgR 0 24 (fun k => O k ∧ k ≠ p) w v ms

theorem NetAt.keep {O : Nat → Prop} {w w' : World} {p : Nat} {nodes : Int} {ms : List Msg} (h : NetAt O w p nodes ms) (hk : Kept O w w') : NetAt O w' p nodes ms := by
  obtain ⟨h1, h2, h3, h4, h5, v, h6, h7⟩ := h
  exact ⟨h1, h2, h3, h4, h5, v, box_kept hk h6 h1, h7.keep (hk.mono fun k _ h => h.1)⟩
theorem NetAt.mono {O O' : Nat → Prop} {w : World} {p : Nat} {nodes : Int} {ms : List Msg} (h : NetAt O w p nodes ms) (hO : ∀ k, k < w.heap.size → O k → O' k) : NetAt O' w p nodes ms := by
  obtain ⟨h1, h2, h3, h4, h5, v, h6, h7⟩ := h
  exact ⟨hO p (box_lt h6) h1, h2, h3, h4, h5, v, h6, h7.mono fun k hk h => ⟨hO k hk h.1, h.2⟩⟩

def fitsB (nodes : Int) (n : Nat) (m : Msg) : Bool := decide (0 ≤ m.frm ∧ m.frm < nodes ∧ 0 ≤ m.to ∧ m.to < nodes ∧ m.bytes.length ≤ 4194304 ∧ n < 4096)

def addL (nodes : Int) (ms : List Msg) (m : Msg) : List Msg := if fitsB nodes ms.length m = true then ms ++ [m] else ms

/-- The call returned v; the network at p has become ms'; no other memory has changed. -/
def NetRet (O : Nat → Prop) (p : Nat) (nodes : Int) (v : Value) (ms' : List Msg) (w : World) (e : Ending) (w' : World) : Prop :=
  e = .returned v ∧ NetAt (fun k => O k ∨ w.heap.size ≤ k) w' p nodes ms' ∧ Kept (fun k => ¬ O k) w w'

/-- What the network at p may write in the world w: its own block and its list's row. -/
def Touch (w : World) (p k : Nat) : Prop := k = p ∨ ∃ n v, w.heap[p]? = some (.cells #[n, v] 58 (0, 0)) ∧ v.ownBlock = some k
/-- The same as 'NetRet', and nothing was written but what 'Touch' names. -/
def NetRet2 (O : Nat → Prop) (p : Nat) (nodes : Int) (v : Value) (ms' : List Msg) (w : World) (e : Ending) (w' : World) : Prop :=
  NetRet O p nodes v ms' w e w' ∧ Kept (fun k => ¬ Touch w p k) w w'
theorem netRet_same {O : Nat → Prop} {w w' : World} {p : Nat} {nodes : Int} {ms : List Msg} {v : Value} (hn : NetAt O w p nodes ms) (hb : Below w.heap.size w w') :
    NetRet O p nodes v ms w (.returned v) w' :=
  ⟨rfl, (hn.keep (Kept.of_below hb)).mono fun _ _ h => .inl h, Kept.of_below hb⟩
theorem add_no {O : Nat → Prop} {w w' : World} {p : Nat} {nodes : Int} {ms : List Msg} {m : Msg} (hn : NetAt O w p nodes ms) (hb : Below w.heap.size w w') (hf : Hid (fitsB nodes ms.length m = false)) :
    NetRet2 O p nodes (.bool (fitsB nodes ms.length m)) (addL nodes ms m) w (.returned (.bool false)) w' := by
  unfold addL
  rw [hf.out, if_neg (by simp)]
  exact ⟨netRet_same hn hb, Kept.of_below hb⟩

set_option maxRecDepth 100000 in
set_option maxHeartbeats 1000000 in
theorem add_false (O S : Nat → Prop) (w : World) (p : Nat) (nodes : Int) (ms : List Msg) (cs : List Value) (m : Msg) (hn : NetAt O w p nodes ms) (hm : msgR.rel S w cs m) (hf : fitsB nodes ms.length m = false) :
    Calls Try.prog 26 #[.pointer (some ⟨p, 0, none⟩), .agg cs.toArray] w (NetRet2 O p nodes (.bool (fitsB nodes ms.length m)) (addL nodes ms m) w) := by
  obtain ⟨v, rfl, h1, h2, h3, h4⟩ := msgR.inv hm
  obtain ⟨a, cap, rfl, g1, g2⟩ := sliceR.form h4
  obtain ⟨n1, n2, n3, n4, n5, nv, n6, n7⟩ := id hn
  obtain ⟨na, ncap, rfl, g3, g4⟩ := sliceR.form n7.slice
  have hp := box_lt n6
  obtain ⟨kc, kf⟩ := box_cells n6
  have kc0 := kc 0
  have kc1 := kc 1
  simp at kc0 kc1
  have HF := Lib.hid hf
  have hff : ¬ (0 ≤ m.frm ∧ m.frm < nodes ∧ 0 ≤ m.to ∧ m.to < nodes ∧ m.bytes.length ≤ 4194304 ∧ ms.length < 4096) := by
    unfold fitsB at hf; exact of_decide_eq_false hf
  unfold maxLen at g2 g4
  clear kc hf n5 n7 hm h4
  have hb : Below w.heap.size w (w.alloc (.cells #[.int .i64 m.kind, .int .i64 m.frm, .int .i64 m.to, .slice a m.bytes.length cap] 24)) := bnew (Below.refl _ _) _
  by_cases f1 : m.frm < 0
  · clear hff
    have d1 : decide (m.frm < 0) = true := by simpa using f1
    go_enter Try.func26, Try.ntmps26
    go_wp2_with fail
    go_quiet (fail)
    go_wp2_with fail
    go_ret
    exact add_no hn (by repeat (first | exact hb | refine bdrewN ?_ _)) HF
  have d1 : decide (m.frm < 0) = false := by simpa using f1
  by_cases f2 : nodes ≤ m.frm
  · clear hff
    go_enter Try.func26, Try.ntmps26
    go_wp2_with fail
    go_quiet (fail)
    go_wp2_with fail
    go_ret
    exact add_no hn (by repeat (first | exact hb | refine bdrewN ?_ _)) HF
  by_cases f3 : m.to < 0
  · clear hff
    have d3 : decide (m.to < 0) = true := by simpa using f3
    go_enter Try.func26, Try.ntmps26
    go_wp2_with fail
    go_quiet (fail)
    go_wp2_with fail
    go_quiet (fail)
    go_wp2_with fail
    go_ret
    exact add_no hn (by repeat (first | exact hb | refine bdrewN ?_ _)) HF
  have d3 : decide (m.to < 0) = false := by simpa using f3
  by_cases f4 : nodes ≤ m.to
  · clear hff
    go_enter Try.func26, Try.ntmps26
    go_wp2_with fail
    go_quiet (fail)
    go_wp2_with fail
    go_quiet (fail)
    go_wp2_with fail
    go_ret
    exact add_no hn (by repeat (first | exact hb | refine bdrewN ?_ _)) HF
  by_cases f5 : 4194304 < m.bytes.length
  · clear hff
    go_enter Try.func26, Try.ntmps26
    go_wp2_with fail
    go_quiet (fail)
    go_wp2_with fail
    go_quiet (fail)
    go_wp2_with fail
    go_ret
    exact add_no hn (by repeat (first | exact hb | refine bdrewN ?_ _)) HF
  have f6 : 4096 ≤ ms.length := by omega
  clear hff
  go_enter Try.func26, Try.ntmps26
  go_wp2_with fail
  go_quiet (fail)
  go_wp2_with fail
  go_quiet (fail)
  go_wp2_with fail
  go_ret
  exact add_no hn (by repeat (first | exact hb | refine bdrewN ?_ _)) HF

end Go.Proofs.Ytccckjaefnojaaa
