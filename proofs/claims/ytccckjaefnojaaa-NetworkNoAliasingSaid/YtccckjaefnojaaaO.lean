/- The law's awake: the example of the chapter. -/
import Derived.Test.YtccckjaefnojaaaN
namespace Go.Proofs.Ytccckjaefnojaaa
open Go.ChangeShapes Go.WideShapes Go.ChangeAt Go.RowKit

/-- A row that a literal has laid reads as a slice. -/
theorem slice_box {α : Type} {r : Rep α} {S : Nat → Prop} {w : World} {b : Nat} {t : TypeId} {css : List (List Value)} {xs : List α} (h : w.heap[b]? = some (.cells css.flatten.toArray t (0, 0))) (hb : S b) (hl : css.length = xs.length) (hm : xs.length ≤ maxLen)
    (hr : ∀ (i : Nat) (cs : List Value) (x : α), css[i]? = some cs → xs[i]? = some x → r.rel S w cs x) : (sliceR r).rel S w [.slice (some ⟨b, 0, none⟩) xs.length xs.length] xs := by
  refine ⟨_, _, _, rfl, rfl, Nat.le_refl _, hm, fun h => by simp at h, fun i x hx => ?_⟩
  have hi : i < xs.length := (List.getElem?_eq_some_iff.1 hx).1
  have hcs : css[i]? = some (css[i]'(by omega)) := by simp [hl, hi]
  refine ⟨b, 0, css[i]'(by omega), rfl, hb, hr i _ x hcs hx, fun j c hj => ?_, box_lt h⟩
  have := flatten_at (all_len hl hr) i _ hcs j c hj
  rw [(box_cells h).1, Nat.zero_add]
  simpa using this

def mA : Msg := ⟨1, 0, 1, [97]⟩
def mB : Msg := ⟨1, 1, 0, [98]⟩
def mC : Msg := ⟨1, 0, 1, [99]⟩
def mD : Msg := ⟨1, 0, 2, [100]⟩
theorem send_ex : sendL 2 [] [mA, mB, mC, mD] = ([mA, mB, mC], 3) := by rfl
theorem take_ex : takeM [mA, mB, mC] 1 = mB ∧ inB [mA, mB, mC] 1 = true ∧ withoutL [mA, mB, mC] 1 = [mA, mC] := ⟨rfl, rfl, rfl⟩
theorem copy_ex : copyB [mA, mC] 0 = true ∧ copyL [mA, mC] 0 = [mA, mC, mA] := ⟨rfl, rfl⟩
theorem cut_ex : cutL [0, 1] [mA, mC, mA] = [mA, mC, mA] ∧ cutL [] [mA, mC, mA] = [mA, mC, mA] := ⟨rfl, rfl⟩

theorem msg_a (w : World) : Calls Try.prog 13 #[.int .i64 0, .int .i64 1, .string ⟨#[97]⟩] w (GivesA msgR (fun k => w.heap.size ≤ k) mA w) := message_any w 0 1 ⟨#[97]⟩ rfl rfl (by decide)
theorem msg_b (w : World) : Calls Try.prog 13 #[.int .i64 1, .int .i64 0, .string ⟨#[98]⟩] w (GivesA msgR (fun k => w.heap.size ≤ k) mB w) := message_any w 1 0 ⟨#[98]⟩ rfl rfl (by decide)
theorem msg_c (w : World) : Calls Try.prog 13 #[.int .i64 0, .int .i64 1, .string ⟨#[99]⟩] w (GivesA msgR (fun k => w.heap.size ≤ k) mC w) := message_any w 0 1 ⟨#[99]⟩ rfl rfl (by decide)
theorem msg_d (w : World) : Calls Try.prog 13 #[.int .i64 0, .int .i64 2, .string ⟨#[100]⟩] w (GivesA msgR (fun k => w.heap.size ≤ k) mD w) := message_any w 0 2 ⟨#[100]⟩ rfl rfl (by decide)

def cellsOf (m : Msg) (v : Value) : List Value := [.int .i64 m.kind, .int .i64 m.frm, .int .i64 m.to, v]
theorem four_slice {F : Nat → Prop} {w : World} {a b c d : Msg} {v1 v2 v3 v4 : Value} (h1 : msgR.rel F w (cellsOf a v1) a) (h2 : msgR.rel F w (cellsOf b v2) b) (h3 : msgR.rel F w (cellsOf c v3) c) (h4 : msgR.rel F w (cellsOf d v4) d) :
    (sliceR msgR).rel (fun k => F k ∨ k = w.heap.size) (w.alloc (.cells (cellsOf a v1 ++ (cellsOf b v2 ++ (cellsOf c v3 ++ (cellsOf d v4 ++ [])))).toArray 24)) [.slice (some ⟨w.heap.size, 0, none⟩) 4 4] [a, b, c, d] := by
  have hb := fun {cs x} (h : msgR.rel F w cs x) => msgR.mono (S' := fun k => F k ∨ k = w.heap.size) (msgR.keepB h (bnew (Below.refl w.heap.size w) (.cells (cellsOf a v1 ++ (cellsOf b v2 ++ (cellsOf c v3 ++ (cellsOf d v4 ++ [])))).toArray 24))) fun _ _ h => .inl h
  refine slice_box (css := [cellsOf a v1, cellsOf b v2, cellsOf c v3, cellsOf d v4]) (xs := [a, b, c, d]) (box_new w _) (.inr rfl) rfl (by unfold maxLen; simp) fun i cs x hc hx => ?_
  match i with
  | 0 => simp at hc hx; subst hc hx; exact hb h1
  | 1 => simp at hc hx; subst hc hx; exact hb h2
  | 2 => simp at hc hx; subst hc hx; exact hb h3
  | 3 => simp at hc hx; subst hc hx; exact hb h4
  | i + 4 => simp at hc
theorem three_slice {F : Nat → Prop} {w : World} {a b c : Msg} {v1 v2 v3 : Value} (h1 : msgR.rel F w (cellsOf a v1) a) (h2 : msgR.rel F w (cellsOf b v2) b) (h3 : msgR.rel F w (cellsOf c v3) c) :
    (sliceR msgR).rel (fun k => F k ∨ k = w.heap.size) (w.alloc (.cells (cellsOf a v1 ++ (cellsOf b v2 ++ (cellsOf c v3 ++ []))).toArray 24)) [.slice (some ⟨w.heap.size, 0, none⟩) 3 3] [a, b, c] := by
  have hb := fun {cs x} (h : msgR.rel F w cs x) => msgR.mono (S' := fun k => F k ∨ k = w.heap.size) (msgR.keepB h (bnew (Below.refl w.heap.size w) (.cells (cellsOf a v1 ++ (cellsOf b v2 ++ (cellsOf c v3 ++ []))).toArray 24))) fun _ _ h => .inl h
  refine slice_box (css := [cellsOf a v1, cellsOf b v2, cellsOf c v3]) (xs := [a, b, c]) (box_new w _) (.inr rfl) rfl (by unfold maxLen; simp) fun i cs x hc hx => ?_
  match i with
  | 0 => simp at hc hx; subst hc hx; exact hb h1
  | 1 => simp at hc hx; subst hc hx; exact hb h2
  | 2 => simp at hc hx; subst hc hx; exact hb h3
  | i + 3 => simp at hc

theorem touch_alloc {w : World} {o : Obj} {p k : Nat} (hp : p < w.heap.size) (h : Touch (w.alloc o) p k) : Touch w p k := by
  rcases h with h | ⟨n, v, h1, h2⟩
  · exact .inl h
  · exact .inr ⟨n, v, by rw [Below.heap_alloc w o p hp] at h1; exact h1, h2⟩
theorem two_ints {S : Nat → Prop} {w : World} : ∀ (i : Nat) (cs : List Value) (x : Int), [[Value.int .i64 0], [Value.int .i64 1]][i]? = some cs → ([0, 1] : List Int)[i]? = some x → (intR .i64).rel S w cs x := by
  intro i cs x hc hx
  match i with
  | 0 => simp at hc hx; subst hc hx; exact ⟨rfl, rfl⟩
  | 1 => simp at hc hx; subst hc hx; exact ⟨rfl, rfl⟩
  | i + 2 => simp at hc
/-- What holds all through the last statement of awake: tb is a box that the network does not touch. -/
def Calm (B tb : Nat) (cs : Array Value) (w w' : World) : Prop :=
  NetAt (fun k => B ≤ k ∧ k ≠ tb) w' B 2 [mA, mC, mA] ∧ Below B w w' ∧ tb < w'.heap.size ∧ ∀ o, w'.cell? ⟨tb, o, none⟩ = cs[o]?
theorem calm_of {B tb : Nat} {cs : Array Value} {w x : World} (h : NetAt (fun k => B ≤ k ∧ k ≠ tb) x B 2 [mA, mC, mA] ∧ Below B w x ∧ tb < x.heap.size ∧ ∀ o, x.cell? ⟨tb, o, none⟩ = cs[o]?) : Calm B tb cs w x := h
theorem Calm.below {B tb : Nat} {cs : Array Value} {w x y : World} (h : Calm B tb cs w x) (hb : Below x.heap.size x y) (hB : B ≤ x.heap.size) : Calm B tb cs w y := by
  obtain ⟨h1, h2, h3, h4⟩ := h
  exact ⟨h1.keep (Kept.of_below hb), h2.trans (hb.mono hB), Nat.lt_of_lt_of_le h3 hb.size, fun o => (hb.cell (p := ⟨tb, o, none⟩) h3).trans (h4 o)⟩
theorem Calm.size {B tb : Nat} {cs : Array Value} {w x : World} (h : Calm B tb cs w x) (hB : B ≤ w.heap.size) : B ≤ x.heap.size := Nat.le_trans hB h.2.1.size
theorem Calm.cut {B tb : Nat} {cs : Array Value} {w x y : World} {v : Value} {e : Ending} (h : Calm B tb cs w x) (hB : B ≤ x.heap.size) (hr : NetRet (fun k => B ≤ k ∧ k ≠ tb) B 2 v [mA, mC, mA] x e y) : e = .returned v ∧ Calm B tb cs w y := by
  obtain ⟨h1, h2, h3, h4⟩ := h
  obtain ⟨r1, r2, r3⟩ := hr
  refine ⟨r1, r2.mono fun k _ hk => ?_, Kept.behind h2 r3 hB fun k hk h => by omega, Nat.lt_of_lt_of_le h3 r3.size, fun o => ?_⟩
  · rcases hk with hk | hk
    · exact hk
    · exact ⟨by omega, by omega⟩
  · rw [← h4 o]
    exact World.cell?_of_block (r3.block tb h3 (fun h => h.2 rfl))

set_option maxRecDepth 100000 in
set_option maxHeartbeats 2000000 in
theorem awake_any (w : World) : Calls Try.prog 10 #[] w fun e w' => e = .returned (.bool true) ∧ Below w.heap.size w w' := by
  go_enter Try.func10, Try.ntmps10
  go_wp2_with fail
  refine (new_ok 2 w (by omega) (by omega)).mono ?_
  rintro e w0 ⟨rfl, hw0⟩
  have hb0 : Below w.heap.size w w0 := by rw [hw0]; exact bnew (Below.refl _ _) _
  have hz0 : w0.heap.size = w.heap.size + 1 := by rw [hw0]; simp
  have hn0 : NetAt (fun k => k = w.heap.size) w0 w.heap.size 2 [] := by
    rw [hw0]; exact (NetAt.new (by omega) (by omega)).mono fun k hk h => by simp at hk; omega
  have HZ0 := Lib.hid hz0
  clear hw0 hz0
  go_wp2_with fail
  refine (msg_a _).mono ?_
  rintro e w1 ⟨cs1, rfl, hr1, hb1⟩
  obtain ⟨v1, rfl, -⟩ := msgR.inv hr1
  go_wp2_with fail
  refine (msg_b _).mono ?_
  rintro e w2 ⟨cs2, rfl, hr2, hb2⟩
  obtain ⟨v2, rfl, -⟩ := msgR.inv hr2
  go_wp2_with fail
  refine (msg_c _).mono ?_
  rintro e w3 ⟨cs3, rfl, hr3, hb3⟩
  obtain ⟨v3, rfl, -⟩ := msgR.inv hr3
  go_wp2_with fail
  refine (msg_d _).mono ?_
  rintro e w4 ⟨cs4, rfl, hr4, hb4⟩
  obtain ⟨v4, rfl, -⟩ := msgR.inv hr4
  go_wp2_with fail
  have q1 := msgR.mono (S' := fun k => w.heap.size < k) (((msgR.keepB (msgR.keepB (msgR.keepB hr1 hb2) hb3) hb4))) fun k _ h => by have := HZ0.out; omega
  have z1 := hb1.size
  have z2 := hb2.size
  have z3 := hb3.size
  have z4 := hb4.size
  have q2 := msgR.mono (S' := fun k => w.heap.size < k) (((msgR.keepB (msgR.keepB hr2 hb3) hb4))) fun k _ h => by have := HZ0.out; omega
  have q3 := msgR.mono (S' := fun k => w.heap.size < k) (((msgR.keepB hr3 hb4))) fun k _ h => by have := HZ0.out; omega
  have q4 := msgR.mono (S' := fun k => w.heap.size < k) hr4 fun k _ h => by have := HZ0.out; omega
  have hsl := four_slice q1 q2 q3 q4
  have hb5 := bnew (bnext (bnext (bnext (bnext hb0 hb1) hb2) hb3) hb4) (.cells #[.int .i64 mA.kind, .int .i64 mA.frm, .int .i64 mA.to, v1, .int .i64 mB.kind, .int .i64 mB.frm, .int .i64 mB.to, v2, .int .i64 mC.kind, .int .i64 mC.frm, .int .i64 mC.to, v3, .int .i64 mD.kind, .int .i64 mD.frm, .int .i64 mD.to, v4] 24)
  have hn5 := hn0.keep (Kept.of_below (bnew (bnext (bnext (bnext hb1 hb2) hb3) hb4) (.cells #[.int .i64 mA.kind, .int .i64 mA.frm, .int .i64 mA.to, v1, .int .i64 mB.kind, .int .i64 mB.frm, .int .i64 mB.to, v2, .int .i64 mC.kind, .int .i64 mC.frm, .int .i64 mC.to, v3, .int .i64 mD.kind, .int .i64 mD.frm, .int .i64 mD.to, v4] 24)))
  have hsend := send_any _ _ _ w.heap.size 2 [] (some ⟨w4.heap.size, 0, none⟩) 4 [mA, mB, mC, mD] hn5 hsl (fun k hk h => by have := HZ0.out; rcases hk with hk | hk <;> omega)
  rw [send_ex] at hsend
  refine hsend.mono ?_
  rintro e w6 ⟨rfl, hn6, hk6⟩
  have hb6 : Below w.heap.size w w6 := Kept.behind hb5 hk6 hb5.size fun k hk h => by omega
  have hn6' : NetAt (fun k => w.heap.size ≤ k ∧ k < w6.heap.size) w6 w.heap.size 2 [mA, mB, mC] := hn6.mono fun k hk h => ⟨by have := hb5.size; rcases h with h | h <;> omega, hk⟩
  clear q1 q2 q3 q4 hsl hn5 hn6 hk6 hsend hb1 hb2 hb3 hb4 hb5 hr1 hr2 hr3 hr4 z1 z2 z3 z4 hn0 HZ0 hb0
  go_wp2_with fail
  refine (take_any _ _ w.heap.size 2 [mA, mB, mC] 1 hn6').mono ?_
  rintro e w7 ⟨cs7, rfl, ⟨S7, hm7, hS7⟩, hn7, hk7⟩
  rw [take_ex.2.1]
  rw [take_ex.1] at hm7
  rw [take_ex.2.2] at hn7
  have hz7 := hk7.size
  have hb7 : Below w.heap.size w w7 := Kept.behind hb6 hk7 hb6.size fun k hk h => by omega
  obtain ⟨v7, rfl, -, -, -, hby7⟩ := msgR.inv hm7
  obtain ⟨va7, vc7, rfl, -, -⟩ := sliceR.form hby7
  have hn7' : NetAt (fun k => w.heap.size ≤ k ∧ k < w7.heap.size) w7 w.heap.size 2 [mA, mC] := hn7.mono fun k hk h => ⟨by have := hb6.size; rcases h with h | h <;> omega, hk⟩
  have HS7 := Lib.hid hS7
  clear hS7 hn7 hk7 hn6'
  go_wp2_with fail
  have hbB := bnew (Below.refl w7.heap.size w7) (.cells #[.int .i64 mB.kind, .int .i64 mB.frm, .int .i64 mB.to, .slice va7 mB.bytes.length vc7] 24)
  have hpl : w.heap.size < w7.heap.size := hn7'.1.2
  refine (copy_any _ _ w.heap.size 2 [mA, mC] 0 (hn7'.keep (Kept.of_below hbB))).mono ?_
  rintro e w8 ⟨⟨rfl, hn8, hk8⟩, ht8⟩
  rw [copy_ex.1]
  rw [copy_ex.2] at hn8
  have hz8 := hk8.size
  have hbx := box_kept hk8 (box_new w7 _) (fun h => absurd h.2 (Nat.lt_irrefl _))
  have hm8 : bytesR.rel S7 w8 [.slice va7 mB.bytes.length vc7] mB.bytes := bytesR.keep (bytesR.keepB hby7 hbB) (ht8.mono fun k _ hk h => (HS7.out k hk).2.2 (touch_alloc hpl h))
  have hc8 : Calm w.heap.size w7.heap.size #[.int .i64 mB.kind, .int .i64 mB.frm, .int .i64 mB.to, .slice va7 mB.bytes.length vc7] w w8 := by
    refine ⟨hn8.mono fun k _ h => ?_, Kept.behind (bnew hb7 _) hk8 (by simp; omega) fun k hk h => by omega, box_lt hbx, (box_cells hbx).1⟩
    simp at h
    rcases h with h | h
    · exact ⟨h.1, by omega⟩
    · exact ⟨by omega, by omega⟩
  have HM8 := Lib.hid hm8
  clear hm8 hbx ht8 hk8 hn8 hn7' hby7 hm7 HS7 hb7 hb6
  have hB8 := hc8.2.1.size
  go_wp2_with fail
  have k39 : True := trivial
  have k50 : True := trivial
  have k51 : True := trivial
  have k52 : True := trivial
  have k59 : True := trivial
  go_region_held3 (fun w' => NetAt (fun k => w.heap.size ≤ k ∧ k ≠ w7.heap.size) w' w.heap.size 2 [mA, mC, mA] ∧ Below w.heap.size w w' ∧ w7.heap.size < w'.heap.size ∧ ∀ o, w'.cell? ⟨w7.heap.size, o, none⟩ = #[.int .i64 mB.kind, .int .i64 mB.frm, .int .i64 mB.to, .slice va7 mB.bytes.length vc7][o]?)
    (first
      | exact hc8.below (Below.refl _ _).drew hB8
      | exact hS
      | (have hh := calm_of ‹NetAt (fun k => w.heap.size ≤ k ∧ k ≠ w7.heap.size) _ w.heap.size 2 [mA, mC, mA] ∧ _ ∧ _ ∧ _›; exact hh.below (bnew (Below.refl _ _) _) (hh.size (Nat.le_refl _))))
    (first
      | (have _t := k39; go_at_call 13; refine (msg_b _).mono ?_; rintro e x1 ⟨c1, rfl, hr1, hb1⟩; obtain ⟨v1, rfl, -, -, -, hby1⟩ := msgR.inv hr1; obtain ⟨va1, vc1, rfl, -, -⟩ := sliceR.form hby1; have hh := calm_of ‹NetAt (fun k => w.heap.size ≤ k ∧ k ≠ w7.heap.size) _ w.heap.size 2 [mA, mC, mA] ∧ _ ∧ _ ∧ _›; have hS := hh.below hb1 (hh.size (Nat.le_refl _)); have HM1 := Lib.hid (bytesR.keepB (bytesR.keepB HM8.out (Below.refl _ _).drew) hb1); clear k39 _t)
      | (go_at_call 22; have hh := calm_of ‹NetAt (fun k => w.heap.size ≤ k ∧ k ≠ w7.heap.size) _ w.heap.size 2 [mA, mC, mA] ∧ _ ∧ _ ∧ _›; refine (equal_any S7 _ _ mB mB va7 va1 vc7 vc1 HM1.out hby1).mono ?_; rintro e x2 ⟨rfl, hb2⟩; rw [eqB_refl mB]; have hS := hh.below hb2 (hh.size (Nat.le_refl _)))
      | (go_at_call 16; have hh := calm_of ‹NetAt (fun k => w.heap.size ≤ k ∧ k ≠ w7.heap.size) _ w.heap.size 2 [mA, mC, mA] ∧ _ ∧ _ ∧ _›; refine (len_any _ _ _ 2 [mA, mC, mA] hh.1).mono ?_; rintro e x3 ⟨rfl, rfl⟩; rw [show (([mA, mC, mA] : List Msg).length : Int) = 3 from rfl]; have hS := hh)
      | (go_at_call 20; have hh := calm_of ‹NetAt (fun k => w.heap.size ≤ k ∧ k ≠ w7.heap.size) _ w.heap.size 2 [mA, mC, mA] ∧ _ ∧ _ ∧ _›; refine (pending_any _ _ _ 2 [mA, mC, mA] hh.1).mono ?_; rintro e x4 ⟨pa, pc, rfl, hp4, hb4⟩; have hS := hh.below hb4 (hh.size (Nat.le_refl _)); have HP4 := Lib.hid hp4; clear hp4)
      | (have _t := k50; go_at_call 13; have hh := calm_of ‹NetAt (fun k => w.heap.size ≤ k ∧ k ≠ w7.heap.size) _ w.heap.size 2 [mA, mC, mA] ∧ _ ∧ _ ∧ _›; refine (msg_a _).mono ?_; rintro e x5 ⟨c5, rfl, hr5, hb5⟩; obtain ⟨v5, rfl, -, -, -, -⟩ := msgR.inv hr5; have hS := hh.below hb5 (hh.size (Nat.le_refl _)); clear k50 _t)
      | (have _t := k51; go_at_call 13; have hh := calm_of ‹NetAt (fun k => w.heap.size ≤ k ∧ k ≠ w7.heap.size) _ w.heap.size 2 [mA, mC, mA] ∧ _ ∧ _ ∧ _›; refine (msg_c _).mono ?_; rintro e x6 ⟨c6, rfl, hr6, hb6⟩; obtain ⟨v6, rfl, -, -, -, -⟩ := msgR.inv hr6; have hS := hh.below hb6 (hh.size (Nat.le_refl _)); clear k51 _t)
      | (have _t := k52; go_at_call 13; have hh := calm_of ‹NetAt (fun k => w.heap.size ≤ k ∧ k ≠ w7.heap.size) _ w.heap.size 2 [mA, mC, mA] ∧ _ ∧ _ ∧ _›; refine (msg_a _).mono ?_; rintro e x7 ⟨c7, rfl, hr7, hb7⟩; obtain ⟨v8, rfl, -, -, -, -⟩ := msgR.inv hr7; have hS := hh.below hb7 (hh.size (Nat.le_refl _)); clear k52 _t)
      | (go_at_call 19; have hh := calm_of ‹NetAt (fun k => w.heap.size ≤ k ∧ k ≠ w7.heap.size) _ w.heap.size 2 [mA, mC, mA] ∧ _ ∧ _ ∧ _›; have z6 := hb6.size; have z7 := hb7.size
         have q5 := msgR.mono (S' := fun _ => True) (msgR.keepB (msgR.keepB hr5 hb6) hb7) (fun _ _ _ => trivial)
         have q6 := msgR.mono (S' := fun _ => True) (msgR.keepB hr6 hb7) (fun _ _ _ => trivial)
         have q7 := msgR.mono (S' := fun _ => True) hr7 (fun _ _ _ => trivial)
         refine (same_any _ _ _ [mA, mC, mA] [mA, mC, mA] pa _ pc 3 ((sliceR msgR).keepB HP4.out (bnew (bnext (bnext hb5 hb6) hb7) _)) (three_slice q5 q6 q7)).mono ?_
         rintro e x8 ⟨rfl, hb8⟩; rw [sameB_refl]; have hS := hh.below hb8 (hh.size (Nat.le_refl _)))
      | (have _t := k59; go_at_call 23; have hh := calm_of ‹NetAt (fun k => w.heap.size ≤ k ∧ k ≠ w7.heap.size) _ w.heap.size 2 [mA, mC, mA] ∧ _ ∧ _ ∧ _›
         have hcut := cut_any _ (fun _ => True) _ _ 2 _ _ 2 [0, 1] hh.1 (slice_box (css := [[.int .i64 0], [.int .i64 1]]) (xs := [0, 1]) (box_new x8 (.cells #[.int .i64 0, .int .i64 1] 3)) trivial rfl (by unfold maxLen; simp) two_ints)
         rw [cut_ex.1] at hcut
         refine hcut.mono ?_
         intro e x9 hr9; obtain ⟨rfl, hS⟩ := hh.cut (hh.size (Nat.le_refl _)) hr9; clear k59 _t)
      | (go_at_call 23; have hh := calm_of ‹NetAt (fun k => w.heap.size ≤ k ∧ k ≠ w7.heap.size) _ w.heap.size 2 [mA, mC, mA] ∧ _ ∧ _ ∧ _›
         have hcut := cut_any _ (fun _ => True) _ _ 2 _ _ 0 [] hh.1 sliceR.nil
         rw [cut_ex.2] at hcut
         refine hcut.mono ?_
         intro e x9 hr9; obtain ⟨rfl, hS⟩ := hh.cut (hh.size (Nat.le_refl _)) hr9))
  have hh := calm_of ‹NetAt (fun k => w.heap.size ≤ k ∧ k ≠ w7.heap.size) _ w.heap.size 2 [mA, mC, mA] ∧ _ ∧ _ ∧ _›
  have hfin := hh.2.1
  go_wp2_with fail
  go_ret
  exact ⟨rfl, hfin⟩
end Go.Proofs.Ytccckjaefnojaaa
