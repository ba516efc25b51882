/- The ledger of the program: exceeds, Credit. -/
import Derived.Test.YtphacfkcifpobaaGreatDoorLgS
set_option maxRecDepth 100000
namespace Go.Proofs.YtphacfkcifpobaaGreatDoor
open Go.ChangeShapes Go.WideShapes Go.ChangeAt Go.RowKit Go.Sort
def exceedsB (b a : Int) : Bool := decide (9223372036854775807 < b) || decide (9223372036854775807 - b < a)
theorem exceeds_any (w : World) (b a : Int) (hb : 0 ≤ b) :
   Calls Tryz.prog 313 #[.int .u64 b, .int .u64 a] w fun e w' => e = .returned (.bool (exceedsB b a)) ∧ Below w.heap.size w w' := by
 have HE : Hid (exceedsB b a = (decide (9223372036854775807 < b) || decide (9223372036854775807 - b < a))) := rfl
 by_cases h1 : 9223372036854775807 < b
 · have HF : Hid (exceedsB b a = true) := by show _ = _; rw [HE.out, decide_eq_true h1, Bool.true_or]
   go_enter Tryz.func313, Tryz.ntmps313
   go_wp2_with fail; go_ret
   exact ⟨congrArg (fun b => Ending.returned (.bool b)) HF.out.symm, Below.refl _ _⟩
 · have hw : IntKind.u64.wrap (9223372036854775807 - b) = 9223372036854775807 - b := by rw [IntKind.wrap_u64]; omega
   by_cases h2 : 9223372036854775807 - b < a
   · have HF : Hid (exceedsB b a = true) := by show _ = _; rw [HE.out, decide_eq_true h2, Bool.or_true]
     go_enter Tryz.func313, Tryz.ntmps313
     go_wp2_with fail; go_ret
     exact ⟨congrArg (fun b => Ending.returned (.bool b)) HF.out.symm, Below.refl _ _⟩
   · have HF : Hid (exceedsB b a = false) := by show _ = _; rw [HE.out, decide_eq_false h1, decide_eq_false h2]; rfl
     go_enter Tryz.func313, Tryz.ntmps313
     go_wp2_with fail; go_ret
     exact ⟨congrArg (fun b => Ending.returned (.bool b)) HF.out.symm, Below.refl _ _⟩
theorem acL_ok {S : Nat → Prop} {w : World} {a : Option Addr} {cap : Nat} {l : List AcM} (h : accsR.rel S w [.slice a l.length cap] l) (id : Int) (hid : okU id) : AcOk (acL l id) ∧ (acL l id).id = id := by
 unfold acL
 split
 · rename_i hf
   have hp := found_lt hf; obtain ⟨b, off, -, -, -, hok, -⟩ := acs_at h (posL l id) hp; rw [List.getD_eq_getElem?_getD, List.getElem?_eq_getElem hp]
   refine ⟨hok, ?_⟩
   unfold foundL at hf; rw [List.getElem?_eq_getElem hp] at hf
   simpa using hf
 · exact ⟨⟨hid, okU_of (by show (0 : Int) ≤ 0; omega) (by show (0 : Int) < _; omega), okU_of (by show (0 : Int) ≤ 0; omega) (by show (0 : Int) < _; omega)⟩, rfl⟩
theorem lset_f (S : Nat → Prop) (w : World) (a : Option Addr) (cap : Nat) (l : List AcM) (h : accsR.rel S w [.slice a l.length cap] l) (hl : l.length ≤ 100000) (hup : upL l) (id bal nonce : Int) (hx : AcOk ⟨id, bal, nonce⟩) :
   Calls Tryz.prog 289 #[.agg #[.slice a l.length cap], .agg #[.int .u64 id, .int .u64 bal, .int .u64 nonce]] w fun e w' => ∃ (a' : Option Addr) (c' : Nat), e = .returned (.agg #[.slice a' (setL l ⟨id, bal, nonce⟩).length c']) ∧ accsR.rel (fun k => w.heap.size ≤ k) w' [.slice a' (setL l ⟨id, bal, nonce⟩).length c'] (setL l ⟨id, bal, nonce⟩) ∧ Below w.heap.size w w' :=
 lset_any S w a cap l h hl hup ⟨id, bal, nonce⟩ hx
def creditB (l : List AcM) (id amt : Int) : Bool := exceedsB (acL l id).bal amt
def creditE (l : List AcM) (id amt : Int) : Int := if creditB l id amt = true then 1 else 0
def creditL (l : List AcM) (id amt : Int) : List AcM := if creditB l id amt = true then [] else setL l ⟨id, (acL l id).bal + amt, (acL l id).nonce⟩
def LgOut (l : List AcM) (err : Int) (w : World) (e : Ending) (w' : World) : Prop := ∃ (a : Option Addr) (c : Nat), e = .returned (.tuple #[.agg #[.slice a l.length c], .int .i64 err]) ∧ accsR.rel (fun k => w.heap.size ≤ k) w' [.slice a l.length c] l ∧ Below w.heap.size w w'
set_option maxHeartbeats 400000 in
theorem credit_any (S : Nat → Prop) (w : World) (a : Option Addr) (cap : Nat) (l : List AcM) (h : accsR.rel S w [.slice a l.length cap] l) (hl : l.length ≤ 100000) (hup : upL l) (id amt : Int) (hid : okU id) (hamt : okU amt) :
   Calls Tryz.prog 257 #[.agg #[.slice a l.length cap], .int .u64 id, .int .u64 amt] w (LgOut (creditL l id amt) (creditE l id amt) w) := by
 obtain ⟨HOA, -⟩ := acL_ok h id hid; have hbA := bnew (bnew (Below.refl w.heap.size w) (.cells #[.slice a l.length cap] 155)) (.cells #[.slice none 0 0] 155); have HX := Lib.hid (two_new w (.cells #[.slice a l.length cap] 155) (.cells #[.slice none 0 0] 155)).2; have HR := Lib.hid (two_new w (.cells #[.slice a l.length cap] 155) (.cells #[.slice none 0 0] 155)).1; have H := Lib.hid ((accsR).keepB h hbA); have HB := Lib.hid hbA
 have HSZ : Hid (((w.alloc (.cells #[.slice a l.length cap] 155)).alloc (.cells #[.slice none 0 0] 155)).heap.size = w.heap.size + 2) := by show _ = _; rw [World.size_alloc, World.size_alloc]
 have HOAH := Lib.hid HOA; have HCL : Hid (creditL l id amt = if creditB l id amt = true then [] else setL l ⟨id, (acL l id).bal + amt, (acL l id).nonce⟩) := rfl; have HCB : Hid (creditB l id amt = exceedsB (acL l id).bal amt) := rfl; have HCE : Hid (creditE l id amt = if creditB l id amt = true then 1 else 0) := rfl
 have HEX : Hid (exceedsB (acL l id).bal amt = false → (acL l id).bal + amt ≤ 9223372036854775807) := fun hh => by
   unfold exceedsB at hh; simp at hh; omega
 clear hbA h HOA
 go_enter Tryz.func257, Tryz.ntmps257
 go_upto_region 1 with (fail)
 generalize (w.alloc (.cells #[.slice a l.length cap] 155)).alloc (.cells #[.slice none 0 0] 155) = W at *; obtain ⟨x0, x1⟩ := box_cells HX.out; go_wp2_with fail
 refine (lGet_any S W a cap l H.out (by omega) hup id).mono ?_
 rintro e w1 ⟨rfl, hb1⟩; clear x0 x1; obtain ⟨m, hm⟩ : ∃ m, acL l id = m := ⟨_, rfl⟩; rw [hm] at HOAH HCL HCB HEX ⊢; clear hm; have hb0 := (okU_in HOAH.out.bal).1; go_wp2_with fail
 refine (exceeds_any w1 m.bal amt hb0).mono ?_
 rintro e w2 ⟨rfl, hb2⟩; have HB2 := Lib.hid (bnext hb1 hb2); clear hb1 hb2; have HR2 := Lib.hid (box_after HB2.out HR.out)
 cases hx : exceedsB m.bal amt with
 | true =>
   have HF : Hid (creditL l id amt = []) := by show _ = _; rw [HCL.out, HCB.out, if_pos hx]
   have HE : Hid (creditE l id amt = 1) := by show _ = _; rw [HCE.out, HCB.out, if_pos hx]
   clear hx; have HRK := HR2; have HBK := HB2
   have HW1 : Hid (w.heap.size + 2 ≤ w2.heap.size) := by show _ ≤ _; have := HBK.out.size; have := HSZ.out; omega
   have hR := cells_box (old := [.slice none 0 0]) HRK.out [.slice none 0 0] rfl
   have hK := kept_cells w2 (q := w.heap.size + 1) (S := fun k => k ≠ w.heap.size + 1) (fun h => h rfl) [.slice none 0 0] 0
   obtain ⟨wf, hwf⟩ : ∃ wf, wf = w2.setCells (w.heap.size + 1) 0 [.slice none 0 0] := ⟨_, rfl⟩; rw [← hwf] at hR hK
   simp only [World.setCells] at hwf
   have HW := Lib.hid hwf; have HRF := Lib.hid hR; have HK := Lib.hid hK; clear hwf hR hK; obtain ⟨r0, r1⟩ := box_cells HRK.out; go_wp2_with fail; rw [← HW.out]; obtain ⟨g0, -⟩ := box_cells HRF.out
   refine bodyPost_ret (v := .tuple #[.agg #[.slice none 0 0], .int .i64 1]) (by simp [results, Tryz.results257, go_sem, g0]) rfl ?_
   rw [HF.out, HE.out]
   have hbel : Below w.heap.size w wf := by
     have h0 : Kept (fun i => i < w.heap.size) w w2 := (Kept.of_below (S := fun i => i < w.heap.size) HB.out).trans (Kept.of_below (S := fun i => i < w.heap.size) HBK.out) fun _ _ h => h
     have h1 : Kept (fun i => i < w.heap.size) w wf := h0.trans HK.out fun i _ h => by have h' : i < w.heap.size := h; show i ≠ _; omega
     exact h1.below (Nat.le_refl _)
   exact ⟨none, 0, rfl, sliceR.nil, hbel⟩
 | false =>
   have HF : Hid (creditL l id amt = setL l ⟨id, m.bal + amt, m.nonce⟩) := by show _ = _; rw [HCL.out, HCB.out, if_neg (by rw [hx]; simp)]
   have HE : Hid (creditE l id amt = 0) := by show _ = _; rw [HCE.out, HCB.out, if_neg (by rw [hx]; simp)]
   have hle := HEX.out hx; have ha0 := (okU_in hamt).1
   have hwr : IntKind.u64.wrap (m.bal + amt) = m.bal + amt := by rw [IntKind.wrap_u64]; omega
   have HAC : Hid (AcOk ⟨id, m.bal + amt, m.nonce⟩) := ⟨hid, okU_of (by show (0 : Int) ≤ m.bal + amt; omega) (by show m.bal + amt < _; omega), HOAH.out.nonce⟩
   obtain ⟨B, hB⟩ : ∃ B, m.bal + amt = B := ⟨_, rfl⟩; rw [hB] at HF HAC hwr; clear hx hle; obtain ⟨x0, x1⟩ := box_cells (box_after HB2.out HX.out); go_wp2_with fail
   refine (lset_f S w2 a cap l ((accsR).keepB H.out HB2.out) hl hup id B m.nonce HAC.out).mono ?_
   rintro e w3 ⟨a3, c3, rfl, hr3, hb3⟩; clear x0 x1; have HR3 := Lib.hid hr3; have HBK := Lib.hid (bnext HB2.out hb3); have HRK := Lib.hid (box_after hb3 HR2.out)
   have HW2 : Hid (w.heap.size + 2 ≤ w2.heap.size) := by show _ ≤ _; have := HB2.out.size; have := HSZ.out; omega
   obtain ⟨L3, hL3⟩ : ∃ L, setL l ⟨id, B, m.nonce⟩ = L := ⟨_, rfl⟩; rw [hL3] at HR3 HF ⊢; clear hL3 hr3 hb3
   have HW1 : Hid (w.heap.size + 2 ≤ w3.heap.size) := by show _ ≤ _; have := HBK.out.size; have := HSZ.out; omega
   have hR := cells_box (old := [.slice none 0 0]) HRK.out [.slice a3 L3.length c3] rfl
   have hK := kept_cells w3 (q := w.heap.size + 1) (S := fun k => k ≠ w.heap.size + 1) (fun h => h rfl) [.slice a3 L3.length c3] 0
   obtain ⟨wf, hwf⟩ : ∃ wf, wf = w3.setCells (w.heap.size + 1) 0 [.slice a3 L3.length c3] := ⟨_, rfl⟩; rw [← hwf] at hR hK
   simp only [World.setCells] at hwf
   have HW := Lib.hid hwf; have HRF := Lib.hid hR; have HK := Lib.hid hK; clear hwf hR hK; obtain ⟨r0, r1⟩ := box_cells HRK.out; go_wp2_with fail; rw [← HW.out]; obtain ⟨g0, -⟩ := box_cells HRF.out
   refine bodyPost_ret (v := .tuple #[.agg #[.slice a3 L3.length c3], .int .i64 0]) (by simp [results, Tryz.results257, go_sem, g0]) rfl ?_
   rw [HF.out, HE.out]
   have hbel : Below w.heap.size w wf := by
     have h0 : Kept (fun i => i < w.heap.size) w w3 := (Kept.of_below (S := fun i => i < w.heap.size) HB.out).trans (Kept.of_below (S := fun i => i < w.heap.size) HBK.out) fun _ _ h => h
     have h1 : Kept (fun i => i < w.heap.size) w wf := h0.trans HK.out fun i _ h => by have h' : i < w.heap.size := h; show i ≠ _; omega
     exact h1.below (Nat.le_refl _)
   refine ⟨a3, c3, rfl, ?_, hbel⟩
   have h1 := (accsR).keep HR3.out (HK.out.mono fun k _ h => by have h' : w2.heap.size ≤ k := h; have := HW2.out; show k ≠ _; omega)
   exact (accsR).mono h1 fun k _ h => by have h' : w2.heap.size ≤ k := h; have := HW2.out; show _ ≤ _; omega
end Go.Proofs.YtphacfkcifpobaaGreatDoor
/- The ledger of the program: Debit. -/
namespace Go.Proofs.YtphacfkcifpobaaGreatDoor
open Go.ChangeShapes Go.WideShapes Go.ChangeAt Go.RowKit Go.Sort
def debitE (l : List AcM) (id amt nonce : Int) : Int := if amt = 0 then 1 else if nonce ≠ (acL l id).nonce ∨ nonce = 18446744073709551615 then 20 else if (acL l id).bal < amt then 15 else 0
def debitL (l : List AcM) (id amt nonce : Int) : List AcM := if debitE l id amt nonce = 0 then setL l ⟨id, (acL l id).bal - amt, nonce + 1⟩ else []
set_option maxHeartbeats 400000 in
theorem debit_any (S : Nat → Prop) (w : World) (a : Option Addr) (cap : Nat) (l : List AcM) (h : accsR.rel S w [.slice a l.length cap] l) (hl : l.length ≤ 100000) (hup : upL l) (id amt nonce : Int) (hid : okU id) (hamt : okU amt) (hno : okU nonce) :
   Calls Tryz.prog 221 #[.agg #[.slice a l.length cap], .int .u64 id, .int .u64 amt, .int .u64 nonce] w (LgOut (debitL l id amt nonce) (debitE l id amt nonce) w) := by
 obtain ⟨HOA, -⟩ := acL_ok h id hid; have hbA := bnew (bnew (Below.refl w.heap.size w) (.cells #[.slice a l.length cap] 155)) (.cells #[.slice none 0 0] 155); have HX := Lib.hid (two_new w (.cells #[.slice a l.length cap] 155) (.cells #[.slice none 0 0] 155)).2; have HR := Lib.hid (two_new w (.cells #[.slice a l.length cap] 155) (.cells #[.slice none 0 0] 155)).1; have H := Lib.hid ((accsR).keepB h hbA); have HB := Lib.hid hbA
 have HSZ : Hid (((w.alloc (.cells #[.slice a l.length cap] 155)).alloc (.cells #[.slice none 0 0] 155)).heap.size = w.heap.size + 2) := by show _ = _; rw [World.size_alloc, World.size_alloc]
 have HOAH := Lib.hid HOA; have HCL : Hid (debitL l id amt nonce = if debitE l id amt nonce = 0 then setL l ⟨id, (acL l id).bal - amt, nonce + 1⟩ else []) := rfl; have HCE : Hid (debitE l id amt nonce = if amt = 0 then 1 else if nonce ≠ (acL l id).nonce ∨ nonce = 18446744073709551615 then 20 else if (acL l id).bal < amt then 15 else 0) := rfl; clear hbA h HOA
 go_enter Tryz.func221, Tryz.ntmps221
 go_upto_region 1 with (fail)
 generalize (w.alloc (.cells #[.slice a l.length cap] 155)).alloc (.cells #[.slice none 0 0] 155) = W at *; obtain ⟨x0, x1⟩ := box_cells HX.out; go_wp2_with fail
 refine (lGet_any S W a cap l H.out (by omega) hup id).mono ?_
 rintro e w2 ⟨rfl, hb1⟩; clear x0 x1; obtain ⟨m, hm⟩ : ∃ m, acL l id = m := ⟨_, rfl⟩; rw [hm] at HOAH HCL HCE ⊢; clear hm; have HB2 := Lib.hid hb1; clear hb1; have HR2 := Lib.hid (box_after HB2.out HR.out); have HRK := HR2; have HBK := HB2; have ha0 := okU_in hamt; have hn0 := okU_in hno; have hm0 := okU_in HOAH.out.bal
 by_cases h1 : amt = 0
 · have HE : Hid (debitE l id amt nonce = 1) := by show _ = _; rw [HCE.out, if_pos h1]
   have HF : Hid (debitL l id amt nonce = []) := by show _ = _; rw [HCL.out, if_neg (by rw [HE.out]; omega)]
   have z1 : (amt == 0) = true := by rw [beq_iff_eq]; exact h1
   clear h1
   have HW1 : Hid (w.heap.size + 2 ≤ w2.heap.size) := by show _ ≤ _; have := HBK.out.size; have := HSZ.out; omega
   have hR := cells_box (old := [.slice none 0 0]) HRK.out [.slice none 0 0] rfl
   have hK := kept_cells w2 (q := w.heap.size + 1) (S := fun k => k ≠ w.heap.size + 1) (fun h => h rfl) [.slice none 0 0] 0
   obtain ⟨wf, hwf⟩ : ∃ wf, wf = w2.setCells (w.heap.size + 1) 0 [.slice none 0 0] := ⟨_, rfl⟩; rw [← hwf] at hR hK
   simp only [World.setCells] at hwf
   have HW := Lib.hid hwf; have HRF := Lib.hid hR; have HK := Lib.hid hK; clear hwf hR hK; obtain ⟨r0, r1⟩ := box_cells HRK.out; go_wp2_with fail; rw [← HW.out]; obtain ⟨g0, -⟩ := box_cells HRF.out
   refine bodyPost_ret (v := .tuple #[.agg #[.slice none 0 0], .int .i64 1]) (by simp [results, Tryz.results221, go_sem, g0]) rfl ?_
   rw [HF.out, HE.out]
   have hbel : Below w.heap.size w wf := by
     have h0 : Kept (fun i => i < w.heap.size) w w2 := (Kept.of_below (S := fun i => i < w.heap.size) HB.out).trans (Kept.of_below (S := fun i => i < w.heap.size) HBK.out) fun _ _ h => h
     have h1 : Kept (fun i => i < w.heap.size) w wf := h0.trans HK.out fun i _ h => by have h' : i < w.heap.size := h; show i ≠ _; omega
     exact h1.below (Nat.le_refl _)
   exact ⟨none, 0, rfl, sliceR.nil, hbel⟩
 · have z1 : (amt == 0) = false := by rw [beq_eq_false_iff_ne]; exact h1
   by_cases h2 : nonce = m.nonce
   · by_cases h3 : nonce = 18446744073709551615
     · have HE : Hid (debitE l id amt nonce = 20) := by show _ = _; rw [HCE.out, if_neg h1, if_pos (.inr h3)]
       have HF : Hid (debitL l id amt nonce = []) := by show _ = _; rw [HCL.out, if_neg (by rw [HE.out]; omega)]
       have z2 : (nonce != m.nonce) = false := by rw [bne_eq_false_iff_eq]; exact h2
       have z3 : (nonce == 18446744073709551615) = true := by rw [beq_iff_eq]; exact h3
       clear h1 h2 h3
       have HW1 : Hid (w.heap.size + 2 ≤ w2.heap.size) := by show _ ≤ _; have := HBK.out.size; have := HSZ.out; omega
       have hR := cells_box (old := [.slice none 0 0]) HRK.out [.slice none 0 0] rfl
       have hK := kept_cells w2 (q := w.heap.size + 1) (S := fun k => k ≠ w.heap.size + 1) (fun h => h rfl) [.slice none 0 0] 0
       obtain ⟨wf, hwf⟩ : ∃ wf, wf = w2.setCells (w.heap.size + 1) 0 [.slice none 0 0] := ⟨_, rfl⟩; rw [← hwf] at hR hK
       simp only [World.setCells] at hwf
       have HW := Lib.hid hwf; have HRF := Lib.hid hR; have HK := Lib.hid hK; clear hwf hR hK; obtain ⟨r0, r1⟩ := box_cells HRK.out; go_wp2_with fail; rw [← HW.out]; obtain ⟨g0, -⟩ := box_cells HRF.out
       refine bodyPost_ret (v := .tuple #[.agg #[.slice none 0 0], .int .i64 20]) (by simp [results, Tryz.results221, go_sem, g0]) rfl ?_
       rw [HF.out, HE.out]
       have hbel : Below w.heap.size w wf := by
         have h0 : Kept (fun i => i < w.heap.size) w w2 := (Kept.of_below (S := fun i => i < w.heap.size) HB.out).trans (Kept.of_below (S := fun i => i < w.heap.size) HBK.out) fun _ _ h => h
         have h1 : Kept (fun i => i < w.heap.size) w wf := h0.trans HK.out fun i _ h => by have h' : i < w.heap.size := h; show i ≠ _; omega
         exact h1.below (Nat.le_refl _)
       exact ⟨none, 0, rfl, sliceR.nil, hbel⟩
     · have z2 : (nonce != m.nonce) = false := by rw [bne_eq_false_iff_eq]; exact h2
       have z3 : (nonce == 18446744073709551615) = false := by rw [beq_eq_false_iff_ne]; exact h3
       by_cases h4 : m.bal < amt
       · have HE : Hid (debitE l id amt nonce = 15) := by show _ = _; rw [HCE.out, if_neg h1, if_neg (by rintro (h | h); exact h h2; exact h3 h), if_pos h4]
         have HF : Hid (debitL l id amt nonce = []) := by show _ = _; rw [HCL.out, if_neg (by rw [HE.out]; omega)]
         clear h1 h2 h3
         have HW1 : Hid (w.heap.size + 2 ≤ w2.heap.size) := by show _ ≤ _; have := HBK.out.size; have := HSZ.out; omega
         have hR := cells_box (old := [.slice none 0 0]) HRK.out [.slice none 0 0] rfl
         have hK := kept_cells w2 (q := w.heap.size + 1) (S := fun k => k ≠ w.heap.size + 1) (fun h => h rfl) [.slice none 0 0] 0
         obtain ⟨wf, hwf⟩ : ∃ wf, wf = w2.setCells (w.heap.size + 1) 0 [.slice none 0 0] := ⟨_, rfl⟩; rw [← hwf] at hR hK
         simp only [World.setCells] at hwf
         have HW := Lib.hid hwf; have HRF := Lib.hid hR; have HK := Lib.hid hK; clear hwf hR hK; obtain ⟨r0, r1⟩ := box_cells HRK.out; go_wp2_with fail; rw [← HW.out]; obtain ⟨g0, -⟩ := box_cells HRF.out
         refine bodyPost_ret (v := .tuple #[.agg #[.slice none 0 0], .int .i64 15]) (by simp [results, Tryz.results221, go_sem, g0]) rfl ?_
         rw [HF.out, HE.out]
         have hbel : Below w.heap.size w wf := by
           have h0 : Kept (fun i => i < w.heap.size) w w2 := (Kept.of_below (S := fun i => i < w.heap.size) HB.out).trans (Kept.of_below (S := fun i => i < w.heap.size) HBK.out) fun _ _ h => h
           have h1 : Kept (fun i => i < w.heap.size) w wf := h0.trans HK.out fun i _ h => by have h' : i < w.heap.size := h; show i ≠ _; omega
           exact h1.below (Nat.le_refl _)
         exact ⟨none, 0, rfl, sliceR.nil, hbel⟩
       · have HE : Hid (debitE l id amt nonce = 0) := by show _ = _; rw [HCE.out, if_neg h1, if_neg (by rintro (h | h); exact h h2; exact h3 h), if_neg h4]
         have HF : Hid (debitL l id amt nonce = setL l ⟨id, m.bal - amt, nonce + 1⟩) := by show _ = _; rw [HCL.out, if_pos HE.out]
         have hwr : IntKind.u64.wrap (m.bal - amt) = m.bal - amt := by rw [IntKind.wrap_u64]; omega
         have hwn : IntKind.u64.wrap (nonce + 1) = nonce + 1 := by rw [IntKind.wrap_u64]; omega
         have HAC : Hid (AcOk ⟨id, m.bal - amt, nonce + 1⟩) := ⟨hid, okU_of (by show (0 : Int) ≤ m.bal - amt; omega) (by show m.bal - amt < _; omega), okU_of (by show (0 : Int) ≤ nonce + 1; omega) (by show nonce + 1 < _; omega)⟩
         obtain ⟨B, hB⟩ : ∃ B, m.bal - amt = B := ⟨_, rfl⟩; obtain ⟨N, hN⟩ : ∃ N, nonce + 1 = N := ⟨_, rfl⟩; rw [hB] at HF HAC hwr; rw [hN] at HF HAC hwn; clear h1 h2 h3 HRK HBK; obtain ⟨x0, x1⟩ := box_cells (box_after HB2.out HX.out); go_wp2_with fail
         refine (lset_f S w2 a cap l ((accsR).keepB H.out HB2.out) hl hup id B N HAC.out).mono ?_
         rintro e w3 ⟨a3, c3, rfl, hr3, hb3⟩; clear x0 x1; have HR3 := Lib.hid hr3; have HBK := Lib.hid (bnext HB2.out hb3); have HRK := Lib.hid (box_after hb3 HR2.out)
         have HW2 : Hid (w.heap.size + 2 ≤ w2.heap.size) := by show _ ≤ _; have := HB2.out.size; have := HSZ.out; omega
         obtain ⟨L3, hL3⟩ : ∃ L, setL l ⟨id, B, N⟩ = L := ⟨_, rfl⟩; rw [hL3] at HR3 HF ⊢; clear hL3 hr3 hb3
         have HW1 : Hid (w.heap.size + 2 ≤ w3.heap.size) := by show _ ≤ _; have := HBK.out.size; have := HSZ.out; omega
         have hR := cells_box (old := [.slice none 0 0]) HRK.out [.slice a3 L3.length c3] rfl
         have hK := kept_cells w3 (q := w.heap.size + 1) (S := fun k => k ≠ w.heap.size + 1) (fun h => h rfl) [.slice a3 L3.length c3] 0
         obtain ⟨wf, hwf⟩ : ∃ wf, wf = w3.setCells (w.heap.size + 1) 0 [.slice a3 L3.length c3] := ⟨_, rfl⟩; rw [← hwf] at hR hK
         simp only [World.setCells] at hwf
         have HW := Lib.hid hwf; have HRF := Lib.hid hR; have HK := Lib.hid hK; clear hwf hR hK; obtain ⟨r0, r1⟩ := box_cells HRK.out; go_wp2_with fail; rw [← HW.out]; obtain ⟨g0, -⟩ := box_cells HRF.out
         refine bodyPost_ret (v := .tuple #[.agg #[.slice a3 L3.length c3], .int .i64 0]) (by simp [results, Tryz.results221, go_sem, g0]) rfl ?_
         rw [HF.out, HE.out]
         have hbel : Below w.heap.size w wf := by
           have h0 : Kept (fun i => i < w.heap.size) w w3 := (Kept.of_below (S := fun i => i < w.heap.size) HB.out).trans (Kept.of_below (S := fun i => i < w.heap.size) HBK.out) fun _ _ h => h
           have h1 : Kept (fun i => i < w.heap.size) w wf := h0.trans HK.out fun i _ h => by have h' : i < w.heap.size := h; show i ≠ _; omega
           exact h1.below (Nat.le_refl _)
         refine ⟨a3, c3, rfl, ?_, hbel⟩
         have h1 := (accsR).keep HR3.out (HK.out.mono fun k _ h => by have h' : w2.heap.size ≤ k := h; have := HW2.out; show k ≠ _; omega)
         exact (accsR).mono h1 fun k _ h => by have h' : w2.heap.size ≤ k := h; have := HW2.out; show _ ≤ _; omega
   · have HE : Hid (debitE l id amt nonce = 20) := by show _ = _; rw [HCE.out, if_neg h1, if_pos (.inl h2)]
     have HF : Hid (debitL l id amt nonce = []) := by show _ = _; rw [HCL.out, if_neg (by rw [HE.out]; omega)]
     have z2 : (nonce != m.nonce) = true := by rw [bne_iff_ne]; exact h2
     clear h1 h2
     have HW1 : Hid (w.heap.size + 2 ≤ w2.heap.size) := by show _ ≤ _; have := HBK.out.size; have := HSZ.out; omega
     have hR := cells_box (old := [.slice none 0 0]) HRK.out [.slice none 0 0] rfl
     have hK := kept_cells w2 (q := w.heap.size + 1) (S := fun k => k ≠ w.heap.size + 1) (fun h => h rfl) [.slice none 0 0] 0
     obtain ⟨wf, hwf⟩ : ∃ wf, wf = w2.setCells (w.heap.size + 1) 0 [.slice none 0 0] := ⟨_, rfl⟩; rw [← hwf] at hR hK
     simp only [World.setCells] at hwf
     have HW := Lib.hid hwf; have HRF := Lib.hid hR; have HK := Lib.hid hK; clear hwf hR hK; obtain ⟨r0, r1⟩ := box_cells HRK.out; go_wp2_with fail; rw [← HW.out]; obtain ⟨g0, -⟩ := box_cells HRF.out
     refine bodyPost_ret (v := .tuple #[.agg #[.slice none 0 0], .int .i64 20]) (by simp [results, Tryz.results221, go_sem, g0]) rfl ?_
     rw [HF.out, HE.out]
     have hbel : Below w.heap.size w wf := by
       have h0 : Kept (fun i => i < w.heap.size) w w2 := (Kept.of_below (S := fun i => i < w.heap.size) HB.out).trans (Kept.of_below (S := fun i => i < w.heap.size) HBK.out) fun _ _ h => h
       have h1 : Kept (fun i => i < w.heap.size) w wf := h0.trans HK.out fun i _ h => by have h' : i < w.heap.size := h; show i ≠ _; omega
       exact h1.below (Nat.le_refl _)
     exact ⟨none, 0, rfl, sliceR.nil, hbel⟩
end Go.Proofs.YtphacfkcifpobaaGreatDoor
/- The state of a chain of the program: plain values, representation in memory. -/
namespace Go.Proofs.YtphacfkcifpobaaGreatDoor
open Go.ChangeShapes Go.WideShapes Go.ChangeAt Go.RowKit Go.Sort
structure RuM where
 mode : Int
 depth : Int
 bl : Int
 bu : Int
 qu : Int
 rew : Int
 win : Int
 fin : Int
 work : Int
abbrev i64R : Rep Int := intR .i64
structure BefM where
 tree : FrM
 leaves : Int
 marks : List Int
 book : List AcM
 hidden : Int
def befR : Rep BefM := mapR (fun b => (b.tree.depth, b.tree.count, b.tree.left, b.leaves, b.marks, b.book, b.hidden)) (pairR i64R (pairR i64R (pairR numsR (pairR i64R (pairR numsR (pairR accsR u64R))))))
theorem befR.n : befR.n = 7 := rfl
structure PoM where
 tree : FrM
 leaves : List Int
 marks : List Int
 book : List AcM
 hidden : Int
 roots : List Int
 past : List BefM
structure PoV where
 ta : Option Addr
 tc : Nat
 la : Option Addr
 lc : Nat
 sb : Nat
 mb : Nat
 ba : Option Addr
 bc : Nat
 ra : Option Addr
 rc : Nat
 pa : Option Addr
 pc : Nat
structure BefIn (I : Nat → Prop) (w : World) (b : BefM) (ta ma ba : Option Addr) (tc mc bc : Nat) : Prop where
 depth : okI b.tree.depth
 count : okI b.tree.count
 tree : numsR.rel I w [.slice ta b.tree.left.length tc] b.tree.left
 leaves : okI b.leaves
 marks : numsR.rel I w [.slice ma b.marks.length mc] b.marks
 book : accsR.rel I w [.slice ba b.book.length bc] b.book
 hidden : okU b.hidden
theorem befR.inv {S : Nat → Prop} {w : World} {cs : List Value} {b : BefM} (h : befR.rel S w cs b) :
   ∃ ta ma ba tc mc bc, cs = [.int .i64 b.tree.depth, .int .i64 b.tree.count, .slice ta b.tree.left.length tc, .int .i64 b.leaves, .slice ma b.marks.length mc, .slice ba b.book.length bc, .int .u64 b.hidden] ∧ BefIn S w b ta ma ba tc mc bc := by
 obtain ⟨_, _, rfl, ⟨rfl, w1⟩, _, _, rfl, ⟨rfl, w2⟩, _, _, rfl, h3, _, _, rfl, ⟨rfl, w4⟩, _, _, rfl, h5, _, _, rfl, h6, ⟨rfl, w7⟩⟩ := h; obtain ⟨a3, c3, rfl⟩ := one_form h3; obtain ⟨a5, c5, rfl⟩ := one_form h5; obtain ⟨a6, c6, rfl⟩ := one_form h6
 exact ⟨a3, a5, a6, c3, c5, c6, rfl, w1, w2, h3, w4, h5, h6, w7⟩
theorem befR.mk {S : Nat → Prop} {w : World} {b : BefM} {ta ma ba : Option Addr} {tc mc bc : Nat} (h : BefIn S w b ta ma ba tc mc bc) :
   befR.rel S w [.int .i64 b.tree.depth, .int .i64 b.tree.count, .slice ta b.tree.left.length tc, .int .i64 b.leaves, .slice ma b.marks.length mc, .slice ba b.book.length bc, .int .u64 b.hidden] b :=
 ⟨[_], _, rfl, ⟨rfl, h.depth⟩, [_], _, rfl, ⟨rfl, h.count⟩, [_], _, rfl, h.tree, [_], _, rfl, ⟨rfl, h.leaves⟩, [_], _, rfl, h.marks, [_], _, rfl, h.book, ⟨rfl, h.hidden⟩⟩
theorem BefIn.keep {S : Nat → Prop} {w w' : World} {b : BefM} {ta ma ba : Option Addr} {tc mc bc : Nat} (h : BefIn S w b ta ma ba tc mc bc) (hk : Kept S w w') : BefIn S w' b ta ma ba tc mc bc :=
 ⟨h.depth, h.count, numsR.keep h.tree hk, h.leaves, numsR.keep h.marks hk, (accsR).keep h.book hk, h.hidden⟩
theorem BefIn.keepB {S : Nat → Prop} {w w' : World} {b : BefM} {ta ma ba : Option Addr} {tc mc bc : Nat} (h : BefIn S w b ta ma ba tc mc bc) (hb : Below w.heap.size w w') : BefIn S w' b ta ma ba tc mc bc := h.keep (Kept.of_below hb)
theorem BefIn.mono {S S' : Nat → Prop} {w : World} {b : BefM} {ta ma ba : Option Addr} {tc mc bc : Nat} (h : BefIn S w b ta ma ba tc mc bc) (hk : ∀ k, k < w.heap.size → S k → S' k) : BefIn S' w b ta ma ba tc mc bc :=
 ⟨h.depth, h.count, numsR.mono h.tree hk, h.leaves, numsR.mono h.marks hk, (accsR).mono h.book hk, h.hidden⟩
abbrev blkO (a : Option Addr) : Option Nat := a.map (·.block)
theorem own_blk (a : Option Addr) (l c : Nat) : (Value.slice a l c).ownBlock = blkO a := by cases a <;> rfl
def PoMut (p : Nat) (v : PoV) (k : Nat) : Prop := k = p ∨ k = v.sb ∨ k = v.mb ∨ blkO v.la = some k ∨ blkO v.ra = some k ∨ blkO v.pa = some k
abbrev poCells (r : RuM) (s : PoM) (v : PoV) : Array Value :=
 #[.int .i64 r.mode, .int .i64 r.depth, .int .i64 r.bl, .int .i64 r.bu, .int .i64 r.qu, .int .u64 r.rew, .int .i64 r.win, .int .i64 r.fin, .int .u64 r.work,
   .int .i64 s.tree.depth, .int .i64 s.tree.count, .slice v.ta s.tree.left.length v.tc, .slice v.la s.leaves.length v.lc, .pointer (some ⟨v.sb, 0, none⟩), .slice v.ba s.book.length v.bc, .int .u64 s.hidden, .slice v.ra s.roots.length v.rc, .slice v.pa s.past.length v.pc]
structure PoD (I : Nat → Prop) (w : World) (s : PoM) (v : PoV) : Prop where
 tree : numsR.rel I w [.slice v.ta s.tree.left.length v.tc] s.tree.left
 leaves : Own u64R 0 24 (fun k => blkO v.la = some k) w (.slice v.la s.leaves.length v.lc) s.leaves
 marks : MkAt v.sb v.mb w s.marks
 book : accsR.rel I w [.slice v.ba s.book.length v.bc] s.book
 hidden : okU s.hidden
 roots : Own u64R 0 24 (fun k => blkO v.ra = some k) w (.slice v.ra s.roots.length v.rc) s.roots
 past : Own befR 0 300 (fun k => I k ∨ blkO v.pa = some k) w (.slice v.pa s.past.length v.pc) s.past
structure PoAt (p : Nat) (I : Nat → Prop) (w : World) (r : RuM) (s : PoM) (v : PoV) : Prop where
 cell : w.heap[p]? = some (.cells (poCells r s v) 158 (0, 0))
 data : PoD I w s v
 apart : ∀ k, blkO v.la = some k → blkO v.ra = some k → False
 free : ∀ k, PoMut p v k → ¬ I k
 lt : ∀ k, I k → k < w.heap.size
theorem own_obj {α : Type} {r : Rep α} {base : Nat} {e : TypeId} {F : Nat → Prop} {w : World} {a : Option Addr} {l c k : Nat} {xs : List α} (h : Own r base e F w (.slice a l c) xs) (hk : blkO a = some k) : ∃ cur, w.heap[k]? = some (.cells cur e (0, 0)) := by
 obtain ⟨S, css, hS, hv, hl, hr, ho⟩ := h
 rcases ho.2 with ⟨h1, -⟩ | ⟨g, cap', cur, h1, hb, hg, h2, h3, h4, h5⟩
 · simp only [Value.slice.injEq] at h1; obtain ⟨rfl, -, -⟩ := h1; simp at hk
 · simp only [Value.slice.injEq] at h1; obtain ⟨rfl, -, -⟩ := h1
   simp at hk; subst hk; exact ⟨cur, hg⟩
theorem own_form {α : Type} {r : Rep α} {base : Nat} {e : TypeId} {F : Nat → Prop} {w : World} {u : Value} {xs : List α} (h : Own r base e F w u xs) : ∃ a c, u = .slice a xs.length c ∧ xs.length ≤ c ∧ c ≤ maxLen := by
 obtain ⟨a, c, h1, h2, h3⟩ := sliceR.form h.slice
 exact ⟨a, c, h1, h2, h3⟩
section
variable {p : Nat} {I : Nat → Prop} {w w' : World} {r : RuM} {s : PoM} {v : PoV}
theorem PoD.keep (h : PoD I w s v) {S : Nat → Prop} (hk : Kept S w w') (hI : ∀ k, I k → S k) (hs : S v.sb) (hm : S v.mb) (hl : ∀ k, blkO v.la = some k → S k) (hr : ∀ k, blkO v.ra = some k → S k) (hp : ∀ k, blkO v.pa = some k → S k) : PoD I w' s v :=
 ⟨numsR.keep h.tree (hk.mono fun k _ h => hI k h), h.leaves.keep (hk.mono fun k _ h => hl k h), h.marks.keep hk hs hm, (accsR).keep h.book (hk.mono fun k _ h => hI k h), h.hidden, h.roots.keep (hk.mono fun k _ h => hr k h),
  h.past.keep (hk.mono fun k _ h => h.elim (hI k) (hp k))⟩
theorem PoAt.keep (h : PoAt p I w r s v) {S : Nat → Prop} (hk : Kept S w w') (hI : ∀ k, I k → S k) (hM : ∀ k, PoMut p v k → S k) : PoAt p I w' r s v :=
 ⟨(hk.block p (box_lt h.cell) (hM p (.inl rfl))).trans h.cell,
  h.data.keep hk hI (hM _ (.inr (.inl rfl))) (hM _ (.inr (.inr (.inl rfl)))) (fun k e => hM k (.inr (.inr (.inr (.inl e))))) (fun k e => hM k (.inr (.inr (.inr (.inr (.inl e)))))) (fun k e => hM k (.inr (.inr (.inr (.inr (.inr e)))))),
  h.apart, h.free, fun k hi => Nat.lt_of_lt_of_le (h.lt k hi) hk.size⟩
theorem PoAt.mut_lt (h : PoAt p I w r s v) (k : Nat) (hk : PoMut p v k) : k < w.heap.size := by
 rcases hk with rfl | rfl | rfl | e | e | e
 · exact box_lt h.cell
 · exact h.data.marks.lt
 · exact h.data.marks.set.map.lt
 · obtain ⟨cur, hc⟩ := own_obj h.data.leaves e; exact box_lt hc
 · obtain ⟨cur, hc⟩ := own_obj h.data.roots e; exact box_lt hc
 · obtain ⟨cur, hc⟩ := own_obj h.data.past e; exact box_lt hc
theorem PoAt.keepB (h : PoAt p I w r s v) (hb : Below w.heap.size w w') : PoAt p I w' r s v :=
 h.keep (Kept.of_below (S := fun k => k < w.heap.size) hb) h.lt h.mut_lt
theorem PoAt.ne_sb (h : PoAt p I w r s v) : p ≠ v.sb := by
 intro e; have h1 := h.cell; rw [e, h.data.marks.cell] at h1; simp at h1
theorem PoAt.ne_mb (h : PoAt p I w r s v) : p ≠ v.mb := by
 intro e; obtain ⟨es, clock, hb, _⟩ := h.data.marks.set.map; rw [← e, h.cell] at hb; simp at hb
theorem PoAt.ne_la (h : PoAt p I w r s v) : blkO v.la ≠ some p := by
 intro e; obtain ⟨cur, hc⟩ := own_obj h.data.leaves e; rw [h.cell] at hc; simp at hc
theorem PoAt.ne_ra (h : PoAt p I w r s v) : blkO v.ra ≠ some p := by
 intro e; obtain ⟨cur, hc⟩ := own_obj h.data.roots e; rw [h.cell] at hc; simp at hc
theorem PoAt.ne_pa (h : PoAt p I w r s v) : blkO v.pa ≠ some p := by
 intro e; obtain ⟨cur, hc⟩ := own_obj h.data.past e; rw [h.cell] at hc; simp at hc
theorem PoD.sb_row (h : PoD I w s v) : blkO v.la ≠ some v.sb ∧ blkO v.ra ≠ some v.sb ∧ blkO v.pa ≠ some v.sb := by
 refine ⟨fun e => ?_, fun e => ?_, fun e => ?_⟩
 · obtain ⟨cur, hc⟩ := own_obj h.leaves e; rw [h.marks.cell] at hc; simp at hc
 · obtain ⟨cur, hc⟩ := own_obj h.roots e; rw [h.marks.cell] at hc; simp at hc
 · obtain ⟨cur, hc⟩ := own_obj h.past e; rw [h.marks.cell] at hc; simp at hc
theorem PoD.mb_row (h : PoD I w s v) : blkO v.la ≠ some v.mb ∧ blkO v.ra ≠ some v.mb ∧ blkO v.pa ≠ some v.mb := by
 obtain ⟨es, clock, hb, _⟩ := h.marks.set.map
 refine ⟨fun e => ?_, fun e => ?_, fun e => ?_⟩
 · obtain ⟨cur, hc⟩ := own_obj h.leaves e; rw [hb] at hc; simp at hc
 · obtain ⟨cur, hc⟩ := own_obj h.roots e; rw [hb] at hc; simp at hc
 · obtain ⟨cur, hc⟩ := own_obj h.past e; rw [hb] at hc; simp at hc
theorem PoD.pa_row (h : PoD I w s v) : ∀ k, blkO v.pa = some k → blkO v.la ≠ some k ∧ blkO v.ra ≠ some k := by
 intro k e
 obtain ⟨cur, hc⟩ := own_obj h.past e
 refine ⟨fun e => ?_, fun e => ?_⟩
 · obtain ⟨cur', hc'⟩ := own_obj h.leaves e; rw [hc] at hc'; simp at hc'
 · obtain ⟨cur', hc'⟩ := own_obj h.roots e; rw [hc] at hc'; simp at hc'
end
end Go.Proofs.YtphacfkcifpobaaGreatDoor
/- The state of a chain of the program: what a transaction and a block do to it, in plain Lean. -/
namespace Go.Proofs.YtphacfkcifpobaaGreatDoor
open Go.ChangeShapes Go.WideShapes Go.ChangeAt Go.RowKit Go.Sort
theorem posL_take : ∀ (l : List AcM) (id : Int), ∀ y ∈ l.take (posL l id), y.id < id
 | [], _, y, h => by simp at h
 | x :: l, id, y, h => by
   unfold posL at h
   split at h
   · rename_i hx
     rw [List.take_succ_cons, List.mem_cons] at h
     rcases h with rfl | h
     · exact hx
     · exact posL_take l id y h
   · simp at h
theorem posL_rest : ∀ (l : List AcM) (id : Int), upL l → ∀ y ∈ l.drop (if foundL l id = true then posL l id + 1 else posL l id), id < y.id
 | [], _, _, y, h => by simp [posL, foundL] at h
 | x :: l, id, hu, y, h => by
   obtain ⟨h1, h2⟩ := List.pairwise_cons.1 hu
   by_cases hx : x.id < id
   · have e1 : posL (x :: l) id = posL l id + 1 := if_pos hx
     have e2 : foundL (x :: l) id = foundL l id := by unfold foundL; rw [e1, List.getElem?_cons_succ]
     rw [e1, e2] at h
     refine posL_rest l id h2 y ?_
     split at h
     · rw [List.drop_succ_cons] at h; rename_i hf; rw [if_pos hf]; exact h
     · rw [List.drop_succ_cons] at h; rename_i hf; rw [if_neg hf]; exact h
   · have e1 : posL (x :: l) id = 0 := if_neg hx
     have e2 : foundL (x :: l) id = (x.id == id) := by unfold foundL; rw [e1]; rfl
     rw [e1, e2] at h
     split at h
     · rw [List.drop_succ_cons, List.drop_zero] at h
       have := h1 y h
       omega
     · rename_i hf
       rw [beq_iff_eq] at hf; rw [List.drop_zero, List.mem_cons] at h
       rcases h with rfl | h
       · omega
       · have := h1 y h; omega
theorem setL_up {l : List AcM} (h : upL l) (x : AcM) : upL (setL l x) := by
 unfold setL
 refine List.pairwise_append.2 ⟨List.pairwise_append.2 ⟨h.sublist (List.take_sublist _ _), ?_, ?_⟩, h.sublist (List.drop_sublist _ _), ?_⟩
 · split
   · exact List.pairwise_singleton _ _
   · exact List.Pairwise.nil
 · intro a ha b hb
   split at hb
   · rw [List.mem_singleton] at hb; subst hb; exact posL_take l _ a ha
   · simp at hb
 · intro a ha b hb
   have h2 := posL_rest l x.id h b hb
   rcases List.mem_append.1 ha with ha | ha
   · have := posL_take l x.id a ha; omega
   · split at ha
     · rw [List.mem_singleton] at ha; subst ha; exact h2
     · simp at ha
theorem setL_len (l : List AcM) (x : AcM) : (setL l x).length ≤ l.length + 1 := by
 unfold setL; have h := posL_le l x.id; rw [List.length_append, List.length_append, List.length_take, List.length_drop]
 split <;> split <;> simp <;> omega
theorem debitL_up {l : List AcM} (h : upL l) (id amt no : Int) : upL (debitL l id amt no) := by
 unfold debitL; split
 · exact setL_up h _
 · exact List.Pairwise.nil
theorem debitL_len (l : List AcM) (id amt no : Int) : (debitL l id amt no).length ≤ l.length + 1 := by
 unfold debitL; split
 · exact setL_len l _
 · simp
theorem creditL_up {l : List AcM} (h : upL l) (id amt : Int) : upL (creditL l id amt) := by
 unfold creditL; split
 · exact List.Pairwise.nil
 · exact setL_up h _
theorem creditL_len (l : List AcM) (id amt : Int) : (creditL l id amt).length ≤ l.length + 1 := by
 unfold creditL; split
 · simp
 · exact setL_len l _
abbrev wrapU (x : Int) : Int := IntKind.u64.wrap x
def anchM (win : Int) (roots : List Int) : List Int := roots.drop (roots.length - win.toNat)
def poCheckE (r : RuM) (s : PoM) (t : TxM) : Int :=
 if validE t = 0 then
   if t.exp < s.past.length + 1 then 14
   else if hasB (anchM r.win s.roots) t.anchor = true then
     if (t.marks.any fun x => decide (x ∈ s.marks)) = true then 12
     else if 0 < t.dep ∧ debitE s.book t.acc t.dep t.nonce ≠ 0 then debitE s.book t.acc t.dep t.nonce
     else if wrapU (s.hidden + t.dep) < wrapU (t.wd + t.fee) then 13
     else if (2 : Int) ^ r.depth.toNat < s.leaves.length + t.outs.length then 16
     else 0
   else 11
 else validE t
def appAll (f : FrM) (cs : List Int) : FrM := cs.foldl appF f
abbrev commitsT (t : TxM) : List Int := t.outs.map (·.commit)
def book1 (s : PoM) (t : TxM) : List AcM := if 0 < t.dep then debitL s.book t.acc t.dep t.nonce else s.book
def perfE (s : PoM) (t : TxM) : Int := if 0 < t.wd then creditE (book1 s t) t.acc t.wd else 0
def perfW (s : PoM) (t : TxM) : PoM :=
 ⟨appAll s.tree (commitsT t), s.leaves ++ commitsT t, addS s.marks t.marks,
  if 0 < t.wd ∧ perfE s t = 0 then creditL (book1 s t) t.acc t.wd else book1 s t,
  if perfE s t = 0 then wrapU (wrapU (wrapU (s.hidden + t.dep) - t.wd) - t.fee) else s.hidden, s.roots, s.past⟩
def txsE (r : RuM) : PoM → List TxM → Int
 | _, [] => 0
 | s, t :: l => if poCheckE r s t = 0 then (if perfE s t = 0 then txsE r (perfW s t) l else perfE s t) else poCheckE r s t
def txsW : PoM → List TxM → PoM
 | s, [] => s
 | s, t :: l => txsW (perfW s t) l
def feesL : Int → List TxM → Int
 | f, [] => f
 | f, t :: l => feesL (wrapU (f + t.fee)) l
def marksL (l : List TxM) : List Int := l.flatMap (·.marks)
def blockE (r : RuM) (s : PoM) (b : BlkM) : Int := if txsE r s b.txs = 0 then creditE (txsW s b.txs).book b.miner (wrapU (r.rew + feesL 0 b.txs)) else txsE r s b.txs
def blockW (r : RuM) (s : PoM) (b : BlkM) : PoM := { txsW s b.txs with book := creditL (txsW s b.txs).book b.miner (wrapU (r.rew + feesL 0 b.txs)) }
def befM (s : PoM) (b : BlkM) : BefM := ⟨s.tree, s.leaves.length, marksL b.txs, s.book, s.hidden⟩
def applyE (r : RuM) (s : PoM) (b : BlkM) : Int :=
 if b.height = s.past.length + 1 then (if b.miner < 18446744069414584321 then blockE r s b else 1) else 18
def applyW (r : RuM) (s : PoM) (b : BlkM) : PoM :=
 { blockW r s b with roots := s.roots ++ [rootF (blockW r s b).tree r.depth.toNat], past := s.past ++ [befM s b] }
def newP (r : RuM) : PoM := ⟨newF r.depth.toNat, [], [], [], 0, [rootF (newF r.depth.toNat) r.depth.toNat], []⟩
structure RuOK (r : RuM) : Prop where
 d0 : 1 ≤ r.depth
 d1 : r.depth ≤ 12
 w0 : 1 ≤ r.win
 w1 : r.win ≤ 100
 f0 : 1 ≤ r.fin
 f1 : r.fin ≤ 1048576
 rew : r.rew ≤ 4294967296
 rew0 : okU r.rew
 k0 : 1 ≤ r.work
 k1 : r.work ≤ 65536
structure PoOK (r : RuM) (s : PoM) (n : Nat) : Prop where
 tree : FrOK s.tree r.depth.toNat
 count : s.tree.count = s.leaves.length
 leaves : ∀ x ∈ s.leaves, 0 ≤ x ∧ x < 18446744069414584321
 marks : s.marks.length ≤ n
 up : upL s.book
 book : s.book.length ≤ n
 hidden : okU s.hidden
 roots : s.roots.length = s.past.length + 1
structure Part (s0 s : PoM) (m : List Int) : Prop where
 leaves : s.leaves.take s0.leaves.length = s0.leaves
 marks : s.marks = addS s0.marks m
 nodup : m.Nodup
 fresh : ∀ x ∈ m, x ∉ s0.marks
 roots : s.roots = s0.roots
 past : s.past = s0.past
theorem Part.refl (s : PoM) : Part s s [] := ⟨List.take_length, rfl, List.nodup_nil, by simp, rfl, rfl⟩
theorem addS_app (l m1 m2 : List Int) : addS l (m1 ++ m2) = addS (addS l m1) m2 := by unfold addS; rw [List.foldl_append]
theorem hasUp_mem {l : List Int} {x : Int} : ∀ n, n ≤ l.length → (hasUp l x n = true ↔ x ∈ l.take n)
 | 0, _ => by simp [hasUp]
 | n + 1, h => by
   unfold hasUp
   rw [Bool.or_eq_true, hasUp_mem n (by omega), beq_iff_eq, getD_at l 0 n (by omega), List.take_succ_eq_append_getElem (by omega), List.mem_append, List.mem_singleton]
theorem marksB_nodup {l : List Int} (h : marksB l = true) : l.length ≤ 4 ∧ l.Nodup := by
 unfold marksB at h; rw [Bool.and_eq_true, decide_eq_true_eq] at h
 refine ⟨h.1, List.pairwise_iff_getElem.2 fun i j hi hj hij => ?_⟩
 have h1 : markB l j = true := by
   rcases hm : markB l j with _ | _
   · rw [allUp_false hm hj] at h; simp at h
   · rfl
 unfold markB at h1; rw [Bool.and_eq_true, Bool.not_eq_true'] at h1
 intro e
 rw [getD_at l 0 j hj] at h1
 have : hasUp l l[j] j = true := (hasUp_mem j (by omega)).2 (by rw [← e]; exact List.mem_take_iff_getElem.2 ⟨i, by omega, rfl⟩)
 rw [this] at h1; simp at h1
theorem validE_parts {t : TxM} (h : validE t = 0) : marksB t.marks = true ∧ outsB t.outs = true ∧ amountsB t = true := by
 unfold validE at h
 split at h
 · rename_i hb
   simp only [Bool.and_eq_true] at hb
   exact ⟨hb.1, hb.2.1, hb.2.2.1⟩
 · simp at h
theorem validE_commits {t : TxM} (h : validE t = 0) : ∀ o ∈ t.outs, o.commit < 18446744069414584321 := by
 have h1 := (validE_parts h).2.1; unfold outsB at h1; rw [Bool.and_eq_true] at h1
 intro o ho
 have h2 := List.all_eq_true.1 h1.2 o ho; unfold outB elemB at h2; rw [Bool.and_eq_true, decide_eq_true_eq] at h2
 exact h2.1
theorem appAll_snoc (f : FrM) (cs : List Int) (k : Nat) (h : k < cs.length) : appAll f (cs.take (k + 1)) = appF (appAll f (cs.take k)) cs[k] := by
 unfold appAll; rw [List.take_succ_eq_append_getElem h, List.foldl_append]; rfl
theorem appAll_ok {D : Nat} : ∀ (cs : List Int) (f : FrM), FrOK f D → f.count + cs.length ≤ 2 ^ D → (∀ x ∈ cs, 0 ≤ x ∧ x < 18446744069414584321) → FrOK (appAll f cs) D ∧ (appAll f cs).count = f.count + cs.length
 | [], f, h, _, _ => ⟨h, by simp [appAll]⟩
 | x :: cs, f, h, hc, hx => by
   simp only [List.length_cons] at hc
   push_cast at hc
   have h1 := appF_ok h (by omega) x (hx x (by simp))
   have h2 := appAll_ok cs (appF f x) h1 (by show f.count + 1 + _ ≤ _; omega) fun y hy => hx y (by simp [hy])
   refine ⟨h2.1, ?_⟩
   show (appAll (appF f x) cs).count = _
   rw [h2.2]
   show f.count + 1 + _ = _
   simp only [List.length_cons]; push_cast; omega
theorem wrapU_ok (x : Int) : okU (wrapU x) := by
 have : wrapU x = x % 18446744073709551616 := IntKind.wrap_u64 x
 rw [this]; exact okU_of (by omega) (by omega)
theorem poCheck_facts {r : RuM} {s : PoM} {t : TxM} (h : poCheckE r s t = 0) :
   validE t = 0 ∧ (∀ x ∈ t.marks, x ∉ s.marks) ∧ (0 < t.dep → debitE s.book t.acc t.dep t.nonce = 0) ∧ (s.leaves.length : Int) + t.outs.length ≤ 2 ^ r.depth.toNat := by
 unfold poCheckE at h
 by_cases hv : validE t = 0
 · rw [if_pos hv] at h
   split at h
   · simp at h
   · split at h
     · split at h
       · simp at h
       · rename_i hm
         split at h
         · rename_i hd; exact absurd h hd.2
         · rename_i hd
           split at h
           · simp at h
           · split at h
             · simp at h
             · rename_i hl
               refine ⟨hv, fun x hx hs => hm (List.any_eq_true.2 ⟨x, hx, by simpa using hs⟩), fun hp => ?_, by omega⟩
               exact Classical.byContradiction fun hn => hd ⟨hp, hn⟩
     · simp at h
 · rw [if_neg hv] at h; exact absurd h hv
theorem any_mem_false {l m : List Int} (h : ∀ x ∈ l, x ∉ m) : (l.any fun x => decide (x ∈ m) == true) = false := by
 rw [List.any_eq_false]
 intro x hx
 simp [h x hx]
theorem addE_zero {l m : List Int} (h1 : ∀ x ∈ m, x ∉ l) (h2 : m.Nodup) : addE l m = 0 := by
 unfold addE; rw [if_neg]; rintro (h | h)
 · rw [any_mem_false h1] at h; simp at h
 · rw [(repB_nodup m []).2 ⟨h2, by simp⟩] at h; simp at h
theorem remW_add {l m : List Int} (hl : l.Pairwise (· < ·)) (h1 : ∀ x ∈ m, x ∉ l) (h2 : m.Nodup) : remW (addS l m) m = l := by
 have h0 : remE (addS l m) m = 0 := by
   unfold remE; rw [if_neg]; rintro (h | h)
   · obtain ⟨x, hx, hd⟩ := List.any_eq_true.1 h
     have : x ∈ addS l m := (mem_addS x m l).2 (.inl hx)
     simp [this] at hd
   · rw [(repB_nodup m []).2 ⟨h2, by simp⟩] at h; simp at h
 unfold remW; rw [if_pos h0, rem_add l m hl h1]
theorem perf_ok {r : RuM} {s : PoM} {n : Nat} (h : PoOK r s n) {t : TxM} (hc : poCheckE r s t = 0) (hpos : ∀ o ∈ t.outs, 0 ≤ o.commit) : PoOK r (perfW s t) (n + 4) := by
 obtain ⟨hv, hm, hd, hl⟩ := poCheck_facts hc
 have hcs : ∀ x ∈ commitsT t, 0 ≤ x ∧ x < 18446744069414584321 := by
   intro x hx
   obtain ⟨o, ho, rfl⟩ := List.mem_map.1 hx
   exact ⟨hpos o ho, validE_commits hv o ho⟩
 have ht := appAll_ok (commitsT t) s.tree h.tree (by rw [h.count]; simp only [commitsT, List.length_map]; exact hl) hcs
 have hb1 : upL (book1 s t) ∧ (book1 s t).length ≤ n + 1 := by
   unfold book1; split
   · exact ⟨debitL_up h.up _ _ _, by have := debitL_len s.book t.acc t.dep t.nonce; have := h.book; omega⟩
   · exact ⟨h.up, by have := h.book; omega⟩
 refine ⟨ht.1, ?_, ?_, ?_, ?_, ?_, ?_, h.roots⟩
 · show (appAll s.tree (commitsT t)).count = ((s.leaves ++ commitsT t).length : Int)
   rw [ht.2, h.count, List.length_append]; push_cast; rfl
 · intro x hx
   rcases List.mem_append.1 hx with hx | hx
   · exact h.leaves x hx
   · exact hcs x hx
 · show (addS s.marks t.marks).length ≤ _
   have := addS_len t.marks s.marks; have := (marksB_nodup (validE_parts hv).1).1; have := h.marks; omega
 · show upL (if 0 < t.wd ∧ perfE s t = 0 then creditL (book1 s t) t.acc t.wd else book1 s t)
   split
   · exact creditL_up hb1.1 _ _
   · exact hb1.1
 · show (if 0 < t.wd ∧ perfE s t = 0 then creditL (book1 s t) t.acc t.wd else book1 s t).length ≤ _
   split
   · have := creditL_len (book1 s t) t.acc t.wd; omega
   · omega
 · show okU (if perfE s t = 0 then wrapU (wrapU (wrapU (s.hidden + t.dep) - t.wd) - t.fee) else s.hidden)
   split
   · exact wrapU_ok _
   · exact h.hidden
theorem perf_part {r : RuM} {s0 s : PoM} {m : List Int} (h : Part s0 s m) {t : TxM} (hc : poCheckE r s t = 0) : Part s0 (perfW s t) (m ++ t.marks) := by
 obtain ⟨hv, hm, hd, hl⟩ := poCheck_facts hc
 have hle : s0.leaves.length ≤ s.leaves.length := by
   have := congrArg List.length h.leaves; rw [List.length_take] at this; omega
 refine ⟨?_, ?_, ?_, ?_, h.roots, h.past⟩
 · show (s.leaves ++ commitsT t).take _ = _
   rw [List.take_append_of_le_length hle, h.leaves]
 · show addS s.marks t.marks = _
   rw [addS_app, ← h.marks]
 · refine List.nodup_append.2 ⟨h.nodup, (marksB_nodup (validE_parts hv).1).2, ?_⟩
   intro a ha b hb e
   subst e
   refine hm a hb ?_
   rw [h.marks, mem_addS]; exact .inl ha
 · intro x hx hs
   rcases List.mem_append.1 hx with hx | hx
   · exact h.fresh x hx hs
   · refine hm x hx ?_
     rw [h.marks, mem_addS]; exact .inr hs
def restW (s : PoM) (b : BefM) : PoM := ⟨b.tree, s.leaves.take b.leaves.toNat, remW s.marks b.marks, b.book, b.hidden, s.roots, s.past⟩
theorem rest_part {s0 s : PoM} {m : List Int} (h : Part s0 s m) (hup : s0.marks.Pairwise (· < ·)) : restW s ⟨s0.tree, s0.leaves.length, m, s0.book, s0.hidden⟩ = s0 := by
 have e1 := h.leaves
 have e2 : remW s.marks m = s0.marks := by rw [h.marks]; exact remW_add hup h.fresh h.nodup
 unfold restW
 simp only [Int.toNat_natCast]
 rw [e1, e2, h.roots, h.past]
end Go.Proofs.YtphacfkcifpobaaGreatDoor
