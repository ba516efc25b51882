/- The walk of NetworkFull. -/
import Derived.Test.YtccckjaefnojaaaV
namespace Go.Proofs.Ytccckjaefnojaaa
open Go.ChangeShapes Go.WideShapes Go.ChangeAt Go.RowKit

/-- 'make([]T, n)' at a step of a region that draws its order: memory that was there is kept. -/
theorem upon_make_below {P : Program} {o : Oper} {a : Act} {K : Act → World → Prop} {Q : Exit → Act → World → Prop} {t : TypeId}
    {e : TypeId} {m bytes : Nat} (hT : ElemTy P t e m bytes) {w : World} {kl kc : IntKind} {L C : Int} {n : Nat} (hL : L = (n : Int)) (hC : C = (n : Int))
    (b2 : bytes * n ≤ 281474976710656) (b3 : n ≤ maxLen) (hK : ∀ w', Below w.heap.size w w' → K (a.put o.dst (.slice (some ⟨w.heap.size, 0, none⟩) n n)) w') :
    Oper.upon P o a K Q ((Sem.run P (Instr.makeSlice t (.int kl L) (.int kc C)) w).andThen fun a w' => Result.ok (Next.value a) w') := by
  obtain ⟨ht, hn, i, z, hi, hz, hsize, hby, hzs⟩ := hT
  obtain ⟨w', hrun, r1, r2⟩ := run_make_full (P := P) w 0 t e i z m ht hi hz hsize kl kc n (by rw [hby]; exact b2) b3 (Nat.zero_le _)
  subst hL
  subst hC
  rw [hrun]
  exact hK w' ⟨r2.os, r2.tape, r2.output, r2.size, fun k hk => r2.block k hk (by simp)⟩

def okM (nodes : Int) (m : Msg) : Prop := 0 ≤ m.frm ∧ m.frm < nodes ∧ 0 ≤ m.to ∧ m.to < nodes ∧ m.bytes.length ≤ 4194304
theorem fit_ok {nodes : Int} {n : Nat} {m : Msg} (h : okM nodes m) : fitsB nodes n m = decide (n < 4096) := by
  unfold fitsB
  unfold okM at h
  exact decide_eq_decide.2 ⟨fun q => q.2.2.2.2.2, fun q => ⟨h.1, h.2.1, h.2.2.1, h.2.2.2.1, h.2.2.2.2, q⟩⟩
theorem send_fold (nodes : Int) : ∀ (l ms : List Msg) (c : Nat), (∀ m ∈ l, okM nodes m) → ms.length ≤ 4096 → l.foldl (sendStep nodes) (ms, c) = (ms ++ l.take (4096 - ms.length), c + min l.length (4096 - ms.length))
  | [], ms, c, _, _ => by simp
  | m :: l, ms, c, hl, hms => by
    rw [List.foldl_cons]
    have hm := fit_ok (n := ms.length) (hl m (by simp))
    unfold sendStep at *
    simp only [addL, hm]
    by_cases h : ms.length < 4096
    · rw [decide_eq_true h, if_pos rfl]
      have := send_fold nodes l (ms ++ [m]) (c + Bool.toNat true) (fun x hx => hl x (by simp [hx])) (by simp; omega)
      unfold sendStep at this
      simp only [addL] at this
      rw [this]
      obtain ⟨d, hd⟩ : ∃ d, 4096 - ms.length = d + 1 := ⟨4096 - ms.length - 1, by omega⟩
      rw [hd, List.length_append, List.length_singleton, show 4096 - (ms.length + 1) = d by omega]
      simp only [List.take_succ_cons, List.append_assoc, List.singleton_append, List.length_cons, Bool.toNat_true, Prod.mk.injEq, true_and]
      omega
    · rw [decide_eq_false h, if_neg (by simp)]
      have := send_fold nodes l ms (c + Bool.toNat false) (fun x hx => hl x (by simp [hx])) hms
      unfold sendStep at this
      simp only [addL] at this
      rw [this, show 4096 - ms.length = 0 by omega]
      simp
theorem send_ok {nodes : Int} {l ms : List Msg} (hl : ∀ m ∈ l, okM nodes m) (hms : ms.length ≤ 4096) : sendL nodes ms l = (ms ++ l.take (4096 - ms.length), min l.length (4096 - ms.length)) := by
  unfold sendL
  rw [send_fold nodes l ms 0 hl hms, Nat.zero_add]

def mX : Msg := ⟨1, 0, 1, strNums ⟨#[120]⟩⟩
theorem msg_x (w : World) : Calls Try.prog 13 #[.int .i64 0, .int .i64 1, .string ⟨#[120]⟩] w (GivesA msgR (fun k => w.heap.size ≤ k) mX w) := message_any w 0 1 ⟨#[120]⟩ rfl rfl (by decide)
theorem okM_x : okM 2 mX := by unfold okM mX; exact ⟨by decide, by decide, by decide, by decide, by decide⟩
theorem okM_0 : okM 2 msg0 := by unfold okM msg0; exact ⟨by decide, by decide, by decide, by decide, by decide⟩

/-- The row's first k messages are x, the others y. -/
def Filled (x y : Msg) (g n k : Nat) (w wr : World) : Prop :=
  ∃ S, Row msgR 24 S wr g n (List.replicate k x ++ List.replicate (n - k) y) ∧ (∀ b, S b → g < b) ∧ Below w.heap.size w wr
theorem Row.mono {α : Type} {r : Rep α} {e : TypeId} {S S' : Nat → Prop} {w : World} {g cap : Nat} {xs : List α} (h : Row r e S w g cap xs) (hS : ∀ k, S k → S' k) (hg : ¬ S' g) (hlt : ∀ k, S' k → k < w.heap.size) : Row r e S' w g cap xs := by
  obtain ⟨cur, css, h1, h4, hl, hr, h5, h2, hng, h6⟩ := h
  exact ⟨cur, css, h1, h4, hl, fun i cs x hc hx => r.mono (hr i cs x hc hx) fun k _ h => hS k h, h5, h2, hg, hlt⟩
theorem Filled.start {x y : Msg} {g n : Nat} {w w' : World} (h : Own msgR g 24 (fun k => k = g) w' (.slice (some ⟨g, 0, none⟩) n n) (List.replicate n y)) (hb : Below w.heap.size w w') : Filled x y g n 0 w w' := by
  obtain ⟨-, -, -, -, S, h1, h2⟩ := h.row
  refine ⟨S, by simpa using h2, fun b hb => ?_, hb⟩
  have := h1 b hb
  exact absurd (this ▸ hb) h2.facts.1
theorem Filled.next {x y : Msg} {g n k : Nat} {w wr w1 : World} {es : List Value} (h : Filled x y g n k w wr) (hg : w.heap.size ≤ g) (hk : k < n) (hb : Below wr.heap.size wr w1) (hx : msgR.rel (fun b => wr.heap.size ≤ b) w1 es x) : Filled x y g n (k + 1) w (w1.setCells g (k * 4) es) := by
  obtain ⟨S, h1, h2, h3⟩ := h
  have hlt := h1.lt
  have h1' := (h1.keep (Kept.of_below hb)).mono (S' := fun b => (S b ∨ wr.heap.size ≤ b) ∧ b < w1.heap.size) (fun b hb' => ⟨.inl hb', Nat.lt_of_lt_of_le (h1.facts.2.1 b hb') hb.size⟩)
    (fun hq => hq.1.elim (fun q => h1.facts.1 q) fun q => by omega) (fun b hb' => hb'.2)
  obtain ⟨r1, k1⟩ := h1'.store k (by simp; omega) (msgR.mono hx fun b hb' h => ⟨.inr h, hb'⟩)
  refine ⟨fun b => (S b ∨ wr.heap.size ≤ b) ∧ b < w1.heap.size, ?_, fun b hb' => ?_, Kept.behind (bnext h3 hb) k1 (bnext h3 hb).size (fun b hb' => by omega)⟩
  · have e : (List.replicate k x ++ List.replicate (n - k) y).set k x = List.replicate (k + 1) x ++ List.replicate (n - (k + 1)) y := by
      obtain ⟨d, hd⟩ : ∃ d, n - k = d + 1 := ⟨n - k - 1, by omega⟩
      rw [hd, show n - (k + 1) = d by omega, List.set_append, if_neg (by simp), List.replicate_succ' (n := k), List.replicate_succ (n := d)]
      simp
    rw [← e]
    exact r1
  · rcases hb'.1 with q | q
    · exact h2 b q
    · omega
theorem Filled.cells {x y : Msg} {g n k : Nat} {w wr w1 : World} (h : Filled x y g n k w wr) (hk : k < n) (hb : Below wr.heap.size wr w1) :
    (∃ a b c d, w1.cell? ⟨g, k * 4, none⟩ = some a ∧ w1.cell? ⟨g, k * 4 + 1, none⟩ = some b ∧ w1.cell? ⟨g, k * 4 + 2, none⟩ = some c ∧ w1.cell? ⟨g, k * 4 + 3, none⟩ = some d) ∧ (∀ o, w1.frozen? ⟨g, o, none⟩ = false) := by
  obtain ⟨S, h1, -, -⟩ := h
  have h1' := h1.keep (Kept.of_below hb)
  obtain ⟨vb, vd, -, k0, k1, k2, k3⟩ := msgs_row h1' k (by simp; omega)
  exact ⟨⟨_, _, _, _, k0, k1, k2, k3⟩, h1'.frozen⟩
theorem Filled.done {x y : Msg} {g n : Nat} {w wr : World} (h : Filled x y g n n w wr) (hn : n ≤ maxLen) : msgsR.rel (fun b => g ≤ b) wr [.slice (some ⟨g, 0, none⟩) (List.replicate n x).length n] (List.replicate n x) := by
  obtain ⟨S, h1, h2, -⟩ := h
  simp only [Nat.sub_self, List.replicate_zero, List.append_nil] at h1
  exact msgsR.mono (h1.slice hn) fun b _ hb => hb.elim (fun q => Nat.le_of_lt (h2 b q)) fun q => by omega

theorem Below.fullw {w w1 : World} {o : Obj} (h : Below (w.alloc o).heap.size (w.alloc o) w1) : Below w.heap.size w w1 := bnext (bnew (Below.refl _ _) _) h

set_option maxRecDepth 100000 in
set_option maxHeartbeats 1600000 in
theorem full_any (w : World) (j : Nat) (hj : j ≤ 255) (m : Msg) (va : Option Addr) (vc : Nat) (hm : msgR.rel (fun k => k < w.heap.size) w (cellsOf m (.slice va m.bytes.length vc)) m) :
    Calls Try.prog 3 #[.int .u8 j, .agg #[.int .i64 m.kind, .int .i64 m.frm, .int .i64 m.to, .slice va m.bytes.length vc]] w fun e w' => e = .returned (.bool true) ∧ Below w.heap.size w w' := by
  have hby := msgR.bytes hm
  obtain ⟨-, g1, g2, -⟩ := sliceR.lens hby
  unfold maxLen at g2
  go_enter Try.func3, Try.ntmps3
  go_wp2_with fail
  refine (awake_any _).mono ?_
  rintro e w1 ⟨rfl, hb1⟩
  have hbw1 := Below.fullw hb1
  have BX1 := Lib.hid (box_after hb1 (box_new w _))
  obtain ⟨x0, x1⟩ := box_cells (box_after hb1 (box_new w _))
  by_cases hlen : 100 < m.bytes.length
  · go_wp2_with fail
    refine (awake_any w1).mono ?_
    rintro e w2 ⟨rfl, hb2⟩
    go_wp2_with fail
    go_ret
    exact ⟨rfl, bnext hbw1 hb2⟩
  · go_wp2_with fail
    refine (new_ok 2 w1 (by omega) (by omega)).mono ?_
    rintro e w2 ⟨rfl, hw2⟩
    have hp2 : TwoAt w1 w1.heap.size 2 [] [] (.slice none 0 0) w2 := by
      rw [hw2]
      exact ⟨fun k => w1.heap.size ≤ k ∧ k < w1.heap.size + 1, fun _ => False, (NetAt.new (by omega) (by omega)).mono fun k hk h => ⟨h, by simpa using hk⟩, fun x h => ⟨h.1, by simpa using h.2⟩, sliceR.nil, fun x h => h.elim, bnew (Below.refl _ _) _⟩
    clear hw2 x0 x1
    go_wp2_with (at_make; refine wpList_make_n rfl _ _ rfl msgR w2.heap.size Try.ety30 (z := .agg #[.int .i64 0, .int .i64 0, .int .i64 0, .slice none 0 0]) (by kernel_rfl) (x0 := msg0) (fun _ _ => msgR.mk (m := msg0) rfl rfl rfl sliceR.nil) (n := 4090) rfl rfl rfl rfl ?_ ?_ ?_ ?_)
    · omega
    · unfold maxLen; omega
    · exact Nat.le_refl _
    intro w3 ho3 hb3
    obtain ⟨l1, hl1, hok1, hr3⟩ : ∃ l1 : List Msg, l1.length = 4090 ∧ (∀ m ∈ l1, okM 2 m) ∧ msgsR.rel (fun k => k = w2.heap.size) w3 [.slice (some ⟨w2.heap.size, 0, none⟩) 4090 4090] l1 :=
      ⟨_, List.length_replicate, fun x hx => by rw [(List.mem_replicate.1 hx).2]; exact okM_0, ho3.slice⟩
    clear ho3
    obtain ⟨O, R, hn, hO, -, -, hbr⟩ := hp2
    have hsend := send_any O _ w3 w1.heap.size 2 [] (some ⟨w2.heap.size, 0, none⟩) 4090 l1 (hn.keep (Kept.of_below hb3)) (by rw [hl1]; exact hr3) (fun k hk h => by have := (hO k h).2; omega)
    rw [send_ok hok1 (by simp), hl1] at hsend
    have hs1 : ([] : List Msg) ++ List.take (4096 - ([] : List Msg).length) l1 = l1 := by
      rw [List.nil_append]; exact List.take_of_length_le (by rw [hl1]; simp)
    rw [hs1] at hsend
    have HS1 := Lib.hid hsend
    clear hsend hs1 hr3
    go_wp2_with fail
    refine HS1.out.mono ?_
    rintro e w4 ⟨rfl, hn4, hk4⟩
    have hp4 : TwoAt w1 w1.heap.size 2 l1 [] (.slice none 0 0) w4 :=
      TwoAt.mk (fun x h => (hO x h).1) hn4 hk4 (R := fun _ => False) sliceR.nil (fun x h _ => h.elim) (bnext hbr hb3)
    clear hn hO hbr hn4 hk4 HS1 hb3
    obtain ⟨x, hx, hx12⟩ : ∃ x : Nat, (j : Int) % 12 = (x : Int) ∧ x < 12 := ⟨j % 12, by omega, by omega⟩
    go_wp2_with (at_make; refine wpList_make_n rfl _ _ rfl msgR w4.heap.size Try.ety30 (z := .agg #[.int .i64 0, .int .i64 0, .int .i64 0, .slice none 0 0]) (by kernel_rfl) (x0 := msg0) (fun _ _ => msgR.mk (m := msg0) rfl rfl rfl sliceR.nil) (n := x) rfl rfl ?_ ?_ ?_ ?_ ?_ ?_)
    · omega
    · omega
    · omega
    · unfold maxLen; omega
    · exact Nat.le_refl _
    intro w5 ho5 hb5
    have hf5 := Filled.start (x := mX) ho5 hb5
    clear ho5 hx
    obtain ⟨g, hg⟩ : ∃ g, g = w4.heap.size := ⟨_, rfl⟩
    rw [← hg] at hf5 ⊢
    have HG := Lib.hid (Nat.le_of_eq hg.symm)
    clear hg
    go_wp2_with fail
    go_loopw [39] (fun i wr => ∃ k : Nat, k ≤ x ∧ i = .int .i64 k ∧ Filled mX msg0 g x k w4 wr) (fun i _ => x - (intOf i).toNat)
    case atStart => exact ⟨0, Nat.zero_le _, rfl, hf5⟩
    case round =>
      obtain ⟨k, hk, rfl, hfr⟩ := hrel
      clear hf5 hb5
      by_cases hlt : k < x
      · go_wp2_with fail
        refine (msg_x _).mono ?_
        rintro e w6 ⟨cs, rfl, hr6, hb6⟩
        obtain ⟨v6, rfl, -, -, -, hby6⟩ := msgR.inv hr6
        obtain ⟨va6, vc6, rfl, -, -⟩ := sliceR.form hby6
        clear hby6
        obtain ⟨⟨c0, c1, c2, c3, q0, q1, q2, q3⟩, q4⟩ := hfr.cells hlt hb6
        have hfn := hfr.next HG.out hlt hb6 hr6
        have HFN := Lib.hid hfn
        clear hfn hr6
        have n0 : (0 : Int) ≤ (k : Int) := by omega
        have n1 : (k : Int) < (x : Int) := by omega
        go_wp2_with fail
        go_roundw
        case rel => exact ⟨k + 1, by omega, by go_num, HFN.out⟩
        case measure => simp [intOf]; omega
      · obtain rfl : k = x := by omega
        obtain ⟨O4, R4, hn4, hO4, -, -, hbr4⟩ := hp4
        have hb6 : Below w4.heap.size w4 wr := hfr.choose_spec.2.2
        have hsl := hfr.done (by unfold maxLen; omega)
        have hsend := send_any O4 _ wr w1.heap.size 2 l1 (some ⟨g, 0, none⟩) k (List.replicate k mX) (hn4.keep (Kept.of_below hb6)) hsl (fun b hb h => by have := (hO4 b h).2; have := HG.out; omega)
        rw [send_ok (fun m hm => by rw [(List.mem_replicate.1 hm).2]; exact okM_x) (by rw [hl1]; omega), hl1, List.length_replicate] at hsend
        obtain ⟨ms2, hms2, hl2⟩ : ∃ ms2, l1 ++ List.take (4096 - 4090) (List.replicate k mX) = ms2 ∧ ms2.length = 4090 + min k 6 := ⟨_, rfl, by rw [List.length_append, hl1, List.length_take, List.length_replicate]; omega⟩
        rw [hms2] at hsend
        have HSE := Lib.hid hsend
        have HO4 := Lib.hid hO4
        clear hsend hms2 hsl hfr hO4 HG hok1 hl1
        have hy9 : k < 5 ∨ k = 5 ∨ k = 6 ∨ 7 ≤ k := by omega
        rcases hy9 with h6 | h6 | h6 | h6
        · have hmin : min k (4096 - 4090) = k := by omega
          rw [hmin] at HSE
          have hl2' : ms2.length = 4090 + k := by omega
          have n6 : (k : Int) < 6 := by omega
          have n7 : (k : Int) ≤ 6 := by omega
          have n8 : 4090 + (k : Int) + 1 < 4096 := by omega
          clear hmin hl2
          go_wp2_with fail
          refine HSE.out.mono ?_
          rintro e w7 ⟨rfl, hn7, hk7⟩
          have hp7 : TwoAt w1 w1.heap.size 2 ms2 [] (.slice none 0 0) w7 :=
            TwoAt.mk (fun x h => (HO4.out x h).1) hn7 hk7 (R := fun _ => False) sliceR.nil (fun x h _ => h.elim) (bnext hbr4 hb6)
          clear hn7 hk7 HSE hn4 hbr4 hb6
          obtain ⟨O7, R7, hn7, hO7, -, -, hbr7⟩ := hp7
          have hcb : copyB ms2 0 = true := by unfold copyB; exact decide_eq_true (by omega)
          have hcl : (copyL ms2 0).length = 4090 + k + 1 := by
            unfold copyL; rw [hcb]; simp; omega
          have hcall := copy_any O7 w7 w1.heap.size 2 ms2 0 hn7
          rw [hcb] at hcall
          generalize copyL ms2 0 = ms3 at *
          have HC := Lib.hid hcall
          have HO7 := Lib.hid hO7
          clear hcall hcb hO7 hl2'
          go_wp2_with fail
          refine HC.out.mono ?_
          rintro e w8 ⟨⟨rfl, hn8, hk8⟩, -⟩
          have hp8 : TwoAt w1 w1.heap.size 2 ms3 [] (.slice none 0 0) w8 :=
            TwoAt.mk (fun x h => (HO7.out x h).1) hn8 hk8 (R := fun _ => False) sliceR.nil (fun x h _ => h.elim) hbr7
          clear HC HO7 hn7 hbr7 hn8 hk8
          obtain ⟨O8, R8, hn8, hO8, -, -, hbr8⟩ := hp8
          have HB8 := Lib.hid (box_after hbr8 BX1.out)
          obtain ⟨x0, x1⟩ := box_cells HB8.out
          have hbl8 := box_lt HB8.out
          obtain ⟨y, hy2, hy3, hy4⟩ : ∃ y : Nat, ms3.length = y ∧ y ≤ 4096 ∧ y = 4090 + k + 1 := ⟨_, rfl, by omega, hcl⟩
          clear hcl
          go_wp2_with fail
          have hV : (4090 + (k : Int) + 1 : Int) = (y : Int) := by omega
          have hE : ((ms3.length : Int) == (4090 + (k : Int) + 1 : Int)) = true := by rw [beq_iff_eq, hV, hy2]
          have HV := Lib.hid hV
          have HY := Lib.hid hy2
          clear hV hy2 hy4
          go_region_held3 (fun w' => Below w8.heap.size w8 w' ∧ ∀ o, w'.cell? ⟨w.heap.size, o, none⟩ = #[.int .i64 m.kind, .int .i64 m.frm, .int .i64 m.to, .slice va m.bytes.length vc][o]?)
            (first
              | exact ⟨(Below.refl _ _).drew, x0⟩
              | (have hh := (‹Below w8.heap.size w8 _ ∧ _› : Below w8.heap.size w8 _ ∧ _).1; have h2 := bnext hh hbc; exact ⟨h2, fun o => (h2.cell (p := ⟨_, o, none⟩) hbl8).trans (x0 o)⟩)
              | (have hh := (‹Below w8.heap.size w8 _ ∧ _› : Below w8.heap.size w8 _ ∧ _).1; have h2 := bnext hh hbm; exact ⟨h2, fun o => (h2.cell (p := ⟨_, o, none⟩) hbl8).trans (x0 o)⟩))
            (first
              | (go_at_call 15; (with_reducible refine (fits_any _ 2 _ y y m va vc ?_ ?_).mono ?_); (focus omega); (focus omega); rintro e w10 ⟨rfl, hbc⟩)
              | ((with_reducible refine upon_make_below (n := y) Try.ety30 (by exact HV.out) (by exact HV.out) ?_ ?_ ?_); (focus omega); (focus (unfold maxLen; omega)); intro w9 hbm))
          have hh := (‹Below w8.heap.size w8 _ ∧ _› : Below w8.heap.size w8 _ ∧ _).1
          obtain ⟨z0, z1⟩ := box_cells (box_after hh HB8.out)
          have hbw := bnext (bnext hbw1 hbr8) hh
          have HO8 := Lib.hid hO8
          have hsl := one_slice (msgR.keepB hm hbw)
          have hbn := bnew hh (.cells (cellsOf m (.slice va m.bytes.length vc)).toArray 24)
          have zs := hh.size
          have zt := hbw1.size
          have hsend := send_any O8 _ _ w1.heap.size 2 ms3 _ 1 [m] (hn8.keep (Kept.of_below hbn)) hsl (fun b hb h => by have := HO8.out b h; rcases hb with hb | hb <;> omega)
          rw [send_one, HY.out] at hsend
          unfold cellsOf at hsend hbn
          have HSD := Lib.hid hsend
          have HBN := Lib.hid hbn
          clear hsend hsl x0 x1 hbn hO8
          generalize hff : fitsB 2 y m = ff at *
          clear hff
          go_wp2_with fail
          refine (len_any O8 _ w1.heap.size 2 ms3 (hn8.keep (Kept.of_below hh))).mono ?_
          rintro e w11 ⟨rfl, rfl⟩
          cases ff with
          | true =>
            go_wp2_with fail
            refine HSD.out.mono ?_
            rintro e w12 ⟨rfl, -, hk12⟩
            have hbf : Below w.heap.size w w12 := Kept.behind (bnext (bnext hbw1 hbr8) HBN.out) hk12 (bnext (bnext hbw1 hbr8) HBN.out).size fun b hb h => by have := HO8.out b h; omega
            go_wp2_with fail
            go_ret
            exact ⟨rfl, hbf⟩
          | false =>
            go_wp2_with fail
            refine HSD.out.mono ?_
            rintro e w12 ⟨rfl, -, hk12⟩
            have hbf : Below w.heap.size w w12 := Kept.behind (bnext (bnext hbw1 hbr8) HBN.out) hk12 (bnext (bnext hbw1 hbr8) HBN.out).size fun b hb h => by have := HO8.out b h; omega
            go_wp2_with fail
            go_ret
            exact ⟨rfl, hbf⟩
        · clear hx12 hk hlt
          subst h6
          have hmin : min 5 (4096 - 4090) = 5 := by omega
          rw [hmin] at HSE
          have hl2' : ms2.length = 4090 + 5 := by omega
          clear hmin hl2
          go_wp2_with fail
          refine HSE.out.mono ?_
          rintro e w7 ⟨rfl, hn7, hk7⟩
          have hp7 : TwoAt w1 w1.heap.size 2 ms2 [] (.slice none 0 0) w7 :=
            TwoAt.mk (fun x h => (HO4.out x h).1) hn7 hk7 (R := fun _ => False) sliceR.nil (fun x h _ => h.elim) (bnext hbr4 hb6)
          clear hn7 hk7 HSE hn4 hbr4 hb6
          obtain ⟨O7, R7, hn7, hO7, -, -, hbr7⟩ := hp7
          have hcb : copyB ms2 0 = true := by unfold copyB; exact decide_eq_true (by omega)
          have hcl : (copyL ms2 0).length = 4096 := by
            unfold copyL; rw [hcb]; simp; omega
          have hcall := copy_any O7 w7 w1.heap.size 2 ms2 0 hn7
          rw [hcb] at hcall
          generalize copyL ms2 0 = ms3 at *
          have HC := Lib.hid hcall
          have HO7 := Lib.hid hO7
          clear hcall hcb hO7 hl2'
          go_wp2_with fail
          refine HC.out.mono ?_
          rintro e w8 ⟨⟨rfl, hn8, hk8⟩, -⟩
          have hp8 : TwoAt w1 w1.heap.size 2 ms3 [] (.slice none 0 0) w8 :=
            TwoAt.mk (fun x h => (HO7.out x h).1) hn8 hk8 (R := fun _ => False) sliceR.nil (fun x h _ => h.elim) hbr7
          clear HC HO7 hn7 hbr7 hn8 hk8
          obtain ⟨O8, R8, hn8, hO8, -, -, hbr8⟩ := hp8
          have HB8 := Lib.hid (box_after hbr8 BX1.out)
          obtain ⟨x0, x1⟩ := box_cells HB8.out
          have hbl8 := box_lt HB8.out
          obtain ⟨y, hy2, hy3, hy4⟩ : ∃ y : Nat, ms3.length = y ∧ y ≤ 4096 ∧ y = 4096 := ⟨_, rfl, by omega, hcl⟩
          clear hcl
          go_wp2_with fail
          have hV : (4096 : Int) = (y : Int) := by omega
          have hE : ((ms3.length : Int) == (4096 : Int)) = true := by rw [beq_iff_eq, hV, hy2]
          have HV := Lib.hid hV
          have HY := Lib.hid hy2
          clear hV hy2 hy4
          go_region_held3 (fun w' => Below w8.heap.size w8 w' ∧ ∀ o, w'.cell? ⟨w.heap.size, o, none⟩ = #[.int .i64 m.kind, .int .i64 m.frm, .int .i64 m.to, .slice va m.bytes.length vc][o]?)
            (first
              | exact ⟨(Below.refl _ _).drew, x0⟩
              | (have hh := (‹Below w8.heap.size w8 _ ∧ _› : Below w8.heap.size w8 _ ∧ _).1; have h2 := bnext hh hbc; exact ⟨h2, fun o => (h2.cell (p := ⟨_, o, none⟩) hbl8).trans (x0 o)⟩)
              | (have hh := (‹Below w8.heap.size w8 _ ∧ _› : Below w8.heap.size w8 _ ∧ _).1; have h2 := bnext hh hbm; exact ⟨h2, fun o => (h2.cell (p := ⟨_, o, none⟩) hbl8).trans (x0 o)⟩))
            (first
              | (go_at_call 15; (with_reducible refine (fits_any _ 2 _ y y m va vc ?_ ?_).mono ?_); (focus omega); (focus omega); rintro e w10 ⟨rfl, hbc⟩)
              | ((with_reducible refine upon_make_below (n := y) Try.ety30 (by exact HV.out) (by exact HV.out) ?_ ?_ ?_); (focus omega); (focus (unfold maxLen; omega)); intro w9 hbm))
          have hh := (‹Below w8.heap.size w8 _ ∧ _› : Below w8.heap.size w8 _ ∧ _).1
          obtain ⟨z0, z1⟩ := box_cells (box_after hh HB8.out)
          have hbw := bnext (bnext hbw1 hbr8) hh
          have HO8 := Lib.hid hO8
          have hsl := one_slice (msgR.keepB hm hbw)
          have hbn := bnew hh (.cells (cellsOf m (.slice va m.bytes.length vc)).toArray 24)
          have zs := hh.size
          have zt := hbw1.size
          have hsend := send_any O8 _ _ w1.heap.size 2 ms3 _ 1 [m] (hn8.keep (Kept.of_below hbn)) hsl (fun b hb h => by have := HO8.out b h; rcases hb with hb | hb <;> omega)
          rw [send_one, HY.out] at hsend
          unfold cellsOf at hsend hbn
          have HSD := Lib.hid hsend
          have HBN := Lib.hid hbn
          clear hsend hsl x0 x1 hbn hO8
          generalize hff : fitsB 2 y m = ff at *
          clear hff
          go_wp2_with fail
          refine (len_any O8 _ w1.heap.size 2 ms3 (hn8.keep (Kept.of_below hh))).mono ?_
          rintro e w11 ⟨rfl, rfl⟩
          cases ff with
          | true =>
            go_wp2_with fail
            refine HSD.out.mono ?_
            rintro e w12 ⟨rfl, -, hk12⟩
            have hbf : Below w.heap.size w w12 := Kept.behind (bnext (bnext hbw1 hbr8) HBN.out) hk12 (bnext (bnext hbw1 hbr8) HBN.out).size fun b hb h => by have := HO8.out b h; omega
            go_wp2_with fail
            go_ret
            exact ⟨rfl, hbf⟩
          | false =>
            go_wp2_with fail
            refine HSD.out.mono ?_
            rintro e w12 ⟨rfl, -, hk12⟩
            have hbf : Below w.heap.size w w12 := Kept.behind (bnext (bnext hbw1 hbr8) HBN.out) hk12 (bnext (bnext hbw1 hbr8) HBN.out).size fun b hb h => by have := HO8.out b h; omega
            go_wp2_with fail
            go_ret
            exact ⟨rfl, hbf⟩
        · clear hx12 hk hlt
          subst h6
          have hmin : min 6 (4096 - 4090) = 6 := by omega
          rw [hmin] at HSE
          have hl2' : ms2.length = 4090 + 6 := by omega
          clear hmin hl2
          go_wp2_with fail
          refine HSE.out.mono ?_
          rintro e w7 ⟨rfl, hn7, hk7⟩
          have hp7 : TwoAt w1 w1.heap.size 2 ms2 [] (.slice none 0 0) w7 :=
            TwoAt.mk (fun x h => (HO4.out x h).1) hn7 hk7 (R := fun _ => False) sliceR.nil (fun x h _ => h.elim) (bnext hbr4 hb6)
          clear hn7 hk7 HSE hn4 hbr4 hb6
          obtain ⟨O7, R7, hn7, hO7, -, -, hbr7⟩ := hp7
          have hcb : copyB ms2 0 = false := by unfold copyB; exact decide_eq_false (by omega)
          have hcl : (copyL ms2 0).length = 4096 := by
            unfold copyL; rw [hcb]; simp; omega
          have hcall := copy_any O7 w7 w1.heap.size 2 ms2 0 hn7
          rw [hcb] at hcall
          generalize copyL ms2 0 = ms3 at *
          have HC := Lib.hid hcall
          have HO7 := Lib.hid hO7
          clear hcall hcb hO7 hl2'
          go_wp2_with fail
          refine HC.out.mono ?_
          rintro e w8 ⟨⟨rfl, hn8, hk8⟩, -⟩
          have hp8 : TwoAt w1 w1.heap.size 2 ms3 [] (.slice none 0 0) w8 :=
            TwoAt.mk (fun x h => (HO7.out x h).1) hn8 hk8 (R := fun _ => False) sliceR.nil (fun x h _ => h.elim) hbr7
          clear HC HO7 hn7 hbr7 hn8 hk8
          obtain ⟨O8, R8, hn8, hO8, -, -, hbr8⟩ := hp8
          have HB8 := Lib.hid (box_after hbr8 BX1.out)
          obtain ⟨x0, x1⟩ := box_cells HB8.out
          have hbl8 := box_lt HB8.out
          obtain ⟨y, hy2, hy3, hy4⟩ : ∃ y : Nat, ms3.length = y ∧ y ≤ 4096 ∧ y = 4096 := ⟨_, rfl, by omega, hcl⟩
          clear hcl
          go_wp2_with fail
          have hV : (4096 : Int) = (y : Int) := by omega
          have hE : ((ms3.length : Int) == (4096 : Int)) = true := by rw [beq_iff_eq, hV, hy2]
          have HV := Lib.hid hV
          have HY := Lib.hid hy2
          clear hV hy2 hy4
          go_region_held3 (fun w' => Below w8.heap.size w8 w' ∧ ∀ o, w'.cell? ⟨w.heap.size, o, none⟩ = #[.int .i64 m.kind, .int .i64 m.frm, .int .i64 m.to, .slice va m.bytes.length vc][o]?)
            (first
              | exact ⟨(Below.refl _ _).drew, x0⟩
              | (have hh := (‹Below w8.heap.size w8 _ ∧ _› : Below w8.heap.size w8 _ ∧ _).1; have h2 := bnext hh hbc; exact ⟨h2, fun o => (h2.cell (p := ⟨_, o, none⟩) hbl8).trans (x0 o)⟩)
              | (have hh := (‹Below w8.heap.size w8 _ ∧ _› : Below w8.heap.size w8 _ ∧ _).1; have h2 := bnext hh hbm; exact ⟨h2, fun o => (h2.cell (p := ⟨_, o, none⟩) hbl8).trans (x0 o)⟩))
            (first
              | (go_at_call 15; (with_reducible refine (fits_any _ 2 _ y y m va vc ?_ ?_).mono ?_); (focus omega); (focus omega); rintro e w10 ⟨rfl, hbc⟩)
              | ((with_reducible refine upon_make_below (n := y) Try.ety30 (by exact HV.out) (by exact HV.out) ?_ ?_ ?_); (focus omega); (focus (unfold maxLen; omega)); intro w9 hbm))
          have hh := (‹Below w8.heap.size w8 _ ∧ _› : Below w8.heap.size w8 _ ∧ _).1
          obtain ⟨z0, z1⟩ := box_cells (box_after hh HB8.out)
          have hbw := bnext (bnext hbw1 hbr8) hh
          have HO8 := Lib.hid hO8
          have hsl := one_slice (msgR.keepB hm hbw)
          have hbn := bnew hh (.cells (cellsOf m (.slice va m.bytes.length vc)).toArray 24)
          have zs := hh.size
          have zt := hbw1.size
          have hsend := send_any O8 _ _ w1.heap.size 2 ms3 _ 1 [m] (hn8.keep (Kept.of_below hbn)) hsl (fun b hb h => by have := HO8.out b h; rcases hb with hb | hb <;> omega)
          rw [send_one, HY.out] at hsend
          unfold cellsOf at hsend hbn
          have HSD := Lib.hid hsend
          have HBN := Lib.hid hbn
          clear hsend hsl x0 x1 hbn hO8
          generalize hff : fitsB 2 y m = ff at *
          clear hff
          go_wp2_with fail
          refine (len_any O8 _ w1.heap.size 2 ms3 (hn8.keep (Kept.of_below hh))).mono ?_
          rintro e w11 ⟨rfl, rfl⟩
          cases ff with
          | true =>
            go_wp2_with fail
            refine HSD.out.mono ?_
            rintro e w12 ⟨rfl, -, hk12⟩
            have hbf : Below w.heap.size w w12 := Kept.behind (bnext (bnext hbw1 hbr8) HBN.out) hk12 (bnext (bnext hbw1 hbr8) HBN.out).size fun b hb h => by have := HO8.out b h; omega
            go_wp2_with fail
            go_ret
            exact ⟨rfl, hbf⟩
          | false =>
            go_wp2_with fail
            refine HSD.out.mono ?_
            rintro e w12 ⟨rfl, -, hk12⟩
            have hbf : Below w.heap.size w w12 := Kept.behind (bnext (bnext hbw1 hbr8) HBN.out) hk12 (bnext (bnext hbw1 hbr8) HBN.out).size fun b hb h => by have := HO8.out b h; omega
            go_wp2_with fail
            go_ret
            exact ⟨rfl, hbf⟩
        · have hmin : min k (4096 - 4090) = 6 := by omega
          rw [hmin] at HSE
          have hl2' : ms2.length = 4090 + 6 := by omega
          have n6 : ¬ (k : Int) < 6 := by omega
          have n7 : 6 ≤ (k : Int) := by omega
          have n12 : ¬ (k : Int) ≤ 6 := by omega
          have n8 : ¬ 4090 + (k : Int) + 1 < 4096 := by omega
          have n11 : ¬ 4090 + (k : Int) < 4095 := by omega
          have n10 : 4096 ≤ 4090 + (k : Int) + 1 := by omega
          clear hmin hl2
          go_wp2_with fail
          refine HSE.out.mono ?_
          rintro e w7 ⟨rfl, hn7, hk7⟩
          have hp7 : TwoAt w1 w1.heap.size 2 ms2 [] (.slice none 0 0) w7 :=
            TwoAt.mk (fun x h => (HO4.out x h).1) hn7 hk7 (R := fun _ => False) sliceR.nil (fun x h _ => h.elim) (bnext hbr4 hb6)
          clear hn7 hk7 HSE hn4 hbr4 hb6
          obtain ⟨O7, R7, hn7, hO7, -, -, hbr7⟩ := hp7
          have hcb : copyB ms2 0 = false := by unfold copyB; exact decide_eq_false (by omega)
          have hcl : (copyL ms2 0).length = 4096 := by
            unfold copyL; rw [hcb]; simp; omega
          have hcall := copy_any O7 w7 w1.heap.size 2 ms2 0 hn7
          rw [hcb] at hcall
          generalize copyL ms2 0 = ms3 at *
          have HC := Lib.hid hcall
          have HO7 := Lib.hid hO7
          clear hcall hcb hO7 hl2'
          go_wp2_with fail
          refine HC.out.mono ?_
          rintro e w8 ⟨⟨rfl, hn8, hk8⟩, -⟩
          have hp8 : TwoAt w1 w1.heap.size 2 ms3 [] (.slice none 0 0) w8 :=
            TwoAt.mk (fun x h => (HO7.out x h).1) hn8 hk8 (R := fun _ => False) sliceR.nil (fun x h _ => h.elim) hbr7
          clear HC HO7 hn7 hbr7 hn8 hk8
          obtain ⟨O8, R8, hn8, hO8, -, -, hbr8⟩ := hp8
          have HB8 := Lib.hid (box_after hbr8 BX1.out)
          obtain ⟨x0, x1⟩ := box_cells HB8.out
          have hbl8 := box_lt HB8.out
          obtain ⟨y, hy2, hy3, hy4⟩ : ∃ y : Nat, ms3.length = y ∧ y ≤ 4096 ∧ y = 4096 := ⟨_, rfl, by omega, hcl⟩
          clear hcl
          go_wp2_with fail
          have hV : (4096 : Int) = (y : Int) := by omega
          have hE : ((ms3.length : Int) == (4096 : Int)) = true := by rw [beq_iff_eq, hV, hy2]
          have HV := Lib.hid hV
          have HY := Lib.hid hy2
          clear hV hy2 hy4
          go_region_held3 (fun w' => Below w8.heap.size w8 w' ∧ ∀ o, w'.cell? ⟨w.heap.size, o, none⟩ = #[.int .i64 m.kind, .int .i64 m.frm, .int .i64 m.to, .slice va m.bytes.length vc][o]?)
            (first
              | exact ⟨(Below.refl _ _).drew, x0⟩
              | (have hh := (‹Below w8.heap.size w8 _ ∧ _› : Below w8.heap.size w8 _ ∧ _).1; have h2 := bnext hh hbc; exact ⟨h2, fun o => (h2.cell (p := ⟨_, o, none⟩) hbl8).trans (x0 o)⟩)
              | (have hh := (‹Below w8.heap.size w8 _ ∧ _› : Below w8.heap.size w8 _ ∧ _).1; have h2 := bnext hh hbm; exact ⟨h2, fun o => (h2.cell (p := ⟨_, o, none⟩) hbl8).trans (x0 o)⟩))
            (first
              | (go_at_call 15; (with_reducible refine (fits_any _ 2 _ y y m va vc ?_ ?_).mono ?_); (focus omega); (focus omega); rintro e w10 ⟨rfl, hbc⟩)
              | ((with_reducible refine upon_make_below (n := y) Try.ety30 (by exact HV.out) (by exact HV.out) ?_ ?_ ?_); (focus omega); (focus (unfold maxLen; omega)); intro w9 hbm))
          have hh := (‹Below w8.heap.size w8 _ ∧ _› : Below w8.heap.size w8 _ ∧ _).1
          obtain ⟨z0, z1⟩ := box_cells (box_after hh HB8.out)
          have hbw := bnext (bnext hbw1 hbr8) hh
          have HO8 := Lib.hid hO8
          have hsl := one_slice (msgR.keepB hm hbw)
          have hbn := bnew hh (.cells (cellsOf m (.slice va m.bytes.length vc)).toArray 24)
          have zs := hh.size
          have zt := hbw1.size
          have hsend := send_any O8 _ _ w1.heap.size 2 ms3 _ 1 [m] (hn8.keep (Kept.of_below hbn)) hsl (fun b hb h => by have := HO8.out b h; rcases hb with hb | hb <;> omega)
          rw [send_one, HY.out] at hsend
          unfold cellsOf at hsend hbn
          have HSD := Lib.hid hsend
          have HBN := Lib.hid hbn
          clear hsend hsl x0 x1 hbn hO8
          generalize hff : fitsB 2 y m = ff at *
          clear hff
          go_wp2_with fail
          refine (len_any O8 _ w1.heap.size 2 ms3 (hn8.keep (Kept.of_below hh))).mono ?_
          rintro e w11 ⟨rfl, rfl⟩
          cases ff with
          | true =>
            go_wp2_with fail
            refine HSD.out.mono ?_
            rintro e w12 ⟨rfl, -, hk12⟩
            have hbf : Below w.heap.size w w12 := Kept.behind (bnext (bnext hbw1 hbr8) HBN.out) hk12 (bnext (bnext hbw1 hbr8) HBN.out).size fun b hb h => by have := HO8.out b h; omega
            go_wp2_with fail
            go_ret
            exact ⟨rfl, hbf⟩
          | false =>
            go_wp2_with fail
            refine HSD.out.mono ?_
            rintro e w12 ⟨rfl, -, hk12⟩
            have hbf : Below w.heap.size w w12 := Kept.behind (bnext (bnext hbw1 hbr8) HBN.out) hk12 (bnext (bnext hbw1 hbr8) HBN.out).size fun b hb h => by have := HO8.out b h; omega
            go_wp2_with fail
            go_ret
            exact ⟨rfl, hbf⟩
end Go.Proofs.Ytccckjaefnojaaa
