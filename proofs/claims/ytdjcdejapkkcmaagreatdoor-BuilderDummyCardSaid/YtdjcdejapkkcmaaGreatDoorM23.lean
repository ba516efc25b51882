/- BuilderDummy in plain Lean: the transaction of one dummy note. -/
import Derived.Test.YtdjcdejapkkcmaaGreatDoorM22
import Derived.Test.YtdjcdejapkkcmaaGreatDoorM18
import Derived.Test.YtdjcdejapkkcmaaGreatDoorTxD
import Derived.Test.YtdjcdejapkkcmaaGreatDoorM02
import Derived.Test.YtdjcdejapkkcmaaGreatDoorM04
import Derived.Test.YtdjcdejapkkcmaaGreatDoorM12
import Derived.Deep.CutRange
namespace Go.Proofs.YtdjcdejapkkcmaaGreatDoor
open Go.ChangeShapes Go.WideShapes Go.ChangeAt Go.RowKit

theorem allUp_of {p : Nat → Bool} : ∀ {n : Nat}, (∀ k, k < n → p k = true) → allUp p n = true
  | 0, _ => rfl
  | n + 1, h => allUp_step (allUp_of fun k hk => h k (by omega)) (h n (by omega))
theorem elems_of {l : List Int} (h : ∀ x ∈ l, x < 18446744069414584321) : elemsB l = true := by
  refine allUp_of fun k hk => decide_eq_true ?_
  rw [getD_at l 0 k hk]
  exact h _ (List.getElem_mem hk)
/-- A dummy note. -/
def duS (k r b : Int) (D : Nat) : SpentM := ⟨⟨0, ownerS k 0, r, b⟩, k, 0, 0, List.replicate D 0, true⟩
def duQ (s : SpentM) : ReqM := ⟨5, [s], [], 0, 0, 0, 0, 0, 0, 1, 0⟩
def duT (v : Int) : TxM := ⟨5, [v], [], 0, 0, 0, 0, 0, 1, []⟩
def duX (s : SpentM) : WitM := ⟨[s], [], 0⟩
structure DuOk (k r b : Int) (D : Nat) : Prop where
  kk : k < 18446744069414584321
  rr : r < 18446744069414584321
  bb : b < 18446744069414584321
  oo : ownerS k 0 < 18446744069414584321
  d0 : 1 ≤ D
  d1 : D ≤ 12
theorem owner_lt (k : Int) : ownerS k 0 < 18446744069414584321 := by
  unfold ownerS
  rw [if_pos (by omega)]
  exact (hashS_in _ _).2
theorem path_el (D : Nat) : elemsB (List.replicate D 0) = true := elems_of fun x hx => by
  rw [List.eq_of_mem_replicate hx]; omega
theorem note_du {k r b : Int} {D : Nat} (h : DuOk k r b D) : noteB (duS k r b D).note = true := decide_eq_true ⟨by show (0 : Int) ≤ _; omega, h.oo, h.rr, h.bb⟩
theorem pow_pos2 (D : Nat) : (0 : Int) < 2 ^ D := Int.pow_pos (by omega)
theorem in_du {k r b : Int} {D : Nat} (h : DuOk k r b D) : inB D (duS k r b D) = true := by
  unfold inB
  rw [note_du h, show (duS k r b D).path = List.replicate D 0 from rfl, path_el, elems_of (l := [(duS k r b D).key]) (by intro x hx; rw [List.mem_singleton] at hx; subst hx; exact h.kk), List.length_replicate, decide_eq_true (rfl : D = D), decide_eq_true (⟨by show (0 : Int) ≤ 0; omega, by show (0 : Int) < 4; omega⟩ : 0 ≤ (duS k r b D).number ∧ (duS k r b D).number < 4), decide_eq_true (⟨by show (0 : Int) ≤ 0; omega, pow_pos2 D⟩ : 0 ≤ (duS k r b D).position ∧ (duS k r b D).position < 2 ^ D)]
  rfl
theorem ins_du {k r b : Int} {D : Nat} (h : DuOk k r b D) : insB D (duS k r b D) = true := by
  have hd := h.d1
  unfold insB spendableB
  rw [note_du h, show (duS k r b D).path = List.replicate D 0 from rfl, path_el, elems_of (l := [(duS k r b D).key]) (by intro x hx; rw [List.mem_singleton] at hx; subst hx; exact h.kk), List.length_replicate, decide_eq_true (rfl : D = D), decide_eq_true (⟨by show (0 : Int) ≤ 0; omega, by show (0 : Int) < 4; omega, by show (0 : Int) ≤ 0; omega, by show (0 : Int) ≤ 4095; omega, hd⟩ : 0 ≤ (duS k r b D).number ∧ (duS k r b D).number < 4 ∧ 0 ≤ (duS k r b D).position ∧ (duS k r b D).position ≤ 4095 ∧ D ≤ 12), decide_eq_true (show (duS k r b D).position < 2 ^ D from pow_pos2 D)]
  rfl
theorem exIn_zero {a v : Int} {c : Bool} {i : SpentM} (h1 : i.note.owner = ownerS i.key i.number) (h2 : i.dummy = true) (h3 : i.note.value = 0) : exInG a i v c = 0 := by
  unfold exInG
  rw [if_pos h1, if_pos h2, if_pos h3]
theorem chkIn_zero {m : OrM} {a v : Int} {i : SpentM} (h1 : i.note.owner = ownerS i.key i.number) (h2 : i.dummy = true) (h3 : i.note.value = 0) (h4 : m.mkd i.key i.note.rho = (v, true)) : checkInG m a i v = 0 := by
  unfold checkInG
  rw [if_pos h1, h4, if_pos ⟨rfl, rfl⟩, if_pos h2, if_pos h3]
theorem buildG_of {m m1 m2 m3 : OrM} {r : RuM} {D : Nat} {q : ReqM} {ms pf : List Int} {os : List OutM} {ns : List NoteM} (he : examE m (settE m.ideal r.mode r.depth r.bl r.bu r.qu r.rew r.win r.fin r.work) D q = 0) (hm : markL m q.ins q.ins.length = (ms, true, m1)) (ho : outL m1 (originS ms q.acc q.nonce) q.seed q.outs q.outs.length = (os, ns, m2))
    (hv : validE ⟨q.anchor, ms, os, q.dep, q.wd, q.fee, q.acc, q.nonce, q.exp, []⟩ = 0) (hp : proveG m2 r.mode D (stOf D ⟨q.anchor, ms, os, q.dep, q.wd, q.fee, q.acc, q.nonce, q.exp, []⟩ (bindS ⟨q.anchor, ms, os, q.dep, q.wd, q.fee, q.acc, q.nonce, q.exp, []⟩)) ⟨q.ins, ns, q.secret⟩ = (0, pf, m3)) :
    buildG m r D q = (0, ⟨q.anchor, ms, os, q.dep, q.wd, q.fee, q.acc, q.nonce, q.exp, pf⟩, ⟨q.ins, ns, q.secret⟩, m3) := by
  unfold buildG
  simp only [he, hm, ho, hv, hp, if_true]
theorem sett_du {D : Nat} (h0 : 1 ≤ D) (h1 : D ≤ 12) : settE false 2 D 0 0 0 0 1 1 1 = 0 := by
  unfold settE
  rw [if_pos (rulesE_zero (m := 2) (d := D) (bl := 0) (bu := 0) (q := 0) (rew := 0) (win := 1) (fin := 1) (work := 1) (by omega) (by omega)).symm]
  rfl
theorem parts_du {k r b : Int} {D : Nat} (h : DuOk k r b D) : partsB D (duQ (duS k r b D)) = true := by
  unfold partsB
  have e1 : reqB (duQ (duS k r b D)) = true := by
    rw [reqB_of (by rfl)]
    rfl
  have e2 : insOk D (duQ (duS k r b D)).ins = true := by
    refine allUp_of fun j hj => ?_
    obtain rfl : j = 0 := by
      have : j < 1 := hj
      omega
    show (inB D (duS k r b D) && _) = true
    rw [in_du h]
    rfl
  rw [e1, e2]
  rfl
def m0D : OrM := ⟨false, 0, 0, []⟩
def m1D (k r : Int) : OrM := ⟨false, 0, 0, [⟨3, [k, r], hashS 3 [k, r]⟩]⟩
theorem exam_du {k r b : Int} {D : Nat} (h : DuOk k r b D) : examE m0D (settE false 2 D 0 0 0 0 1 1 1) D (duQ (duS k r b D)) = 0 := by
  unfold examE
  rw [if_pos (sett_du h.d0 h.d1), if_pos (parts_du h)]
  have e1 : firstE (exAt m0D (duQ (duS k r b D))) (duQ (duS k r b D)).ins.length = 0 := by
    show (if (0 : Int) = 0 then exAt m0D (duQ (duS k r b D)) 0 else 0) = 0
    rw [if_pos rfl]
    exact exIn_zero rfl rfl rfl
  rw [if_pos e1, if_pos (by rfl), if_pos (by rfl)]
theorem mk_el {k r : Int} (h1 : k < 18446744069414584321) (h2 : r < 18446744069414584321) : elemsB [k, r] = true := elems_of fun x hx => by
  simp only [List.mem_cons, List.mem_nil_iff, or_false] at hx
  rcases hx with rfl | rfl <;> assumption
theorem markK_du {k r : Int} (h1 : k < 18446744069414584321) (h2 : r < 18446744069414584321) : markK k r = true := decide_eq_true ⟨h1, h2⟩
theorem mark_du {k r : Int} (h1 : k < 18446744069414584321) (h2 : r < 18446744069414584321) : m0D.mark k r = (hashS 3 [k, r], m1D k r) := by
  unfold OrM.mark
  rw [if_pos (markK_du h1 h2), ask_new (mk_el h1 h2) rfl]
  rfl
theorem mkd_du {k r : Int} (h1 : k < 18446744069414584321) (h2 : r < 18446744069414584321) : (m1D k r).mkd k r = (hashS 3 [k, r], true) := by
  unfold OrM.mkd
  rw [if_pos (markK_du h1 h2), peek_known (a := hashS 3 [k, r]) (mk_el h1 h2) (by simp [OrM.know, m1D])]
theorem markL_du {k r b : Int} {D : Nat} (h : DuOk k r b D) : markL m0D [duS k r b D] 1 = ([hashS 3 [k, r]], true, m1D k r) :=
  markL_step (m := m0D) (l := [duS k r b D]) (k := 0) rfl (by show 0 < 1; omega) (mark_du h.kk h.rr)
theorem valid_du {v : Int} (h : v < 18446744069414584321) : validE (duT v) = 0 := by
  have e1 : marksB [v] = true := by
    unfold marksB
    rw [allUp_of fun j hj => ?_]
    · rfl
    · obtain rfl : j = 0 := by
        have : j < 1 := hj
        omega
      show (decide (v < 18446744069414584321) && _) = true
      rw [decide_eq_true h]
      rfl
  have e2 : amountsB (duT v) = true := rfl
  have e3 : restB (duT v) = true := rfl
  unfold validE
  rw [show (duT v).marks = [v] from rfl, e1, e2, e3]
  rfl
theorem validB_du {k r b : Int} {D : Nat} (h : DuOk k r b D) {bd : Int} (hb : bd < 18446744069414584321) : validB D (stOf D (duT (hashS 3 [k, r])) bd) (duX (duS k r b D)) = true := by
  unfold validB
  have e1 : elemsB [(stOf D (duT (hashS 3 [k, r])) bd).anchor, (stOf D (duT (hashS 3 [k, r])) bd).acc, (stOf D (duT (hashS 3 [k, r])) bd).bind, (duX (duS k r b D)).secret] = true := elems_of fun x hx => by
    have hx : x ∈ [(5 : Int), 0, bd, 0] := hx
    simp only [List.mem_cons, List.mem_nil_iff, or_false] at hx
    omega
  have e2 : elemsB (stOf D (duT (hashS 3 [k, r])) bd).marks = true := elems_of fun x hx => by
    have hx : x ∈ [hashS 3 [k, r]] := hx
    rw [List.mem_singleton] at hx
    subst hx
    exact (hashS_in _ _).2
  have e3 : (duX (duS k r b D)).ins.all (insB D) = true := by
    show ((insB D (duS k r b D)) && true) = true
    rw [ins_du h]
    rfl
  rw [e1, e2, e3]
  rfl
theorem rel_du {k r b : Int} {D : Nat} (h : DuOk k r b D) {bd : Int} (hb : bd < 18446744069414584321) : relG (m1D k r) D (stOf D (duT (hashS 3 [k, r])) bd) (duX (duS k r b D)) = 0 := by
  unfold relG
  rw [if_pos (validB_du h hb)]
  have e1 : firstE (inAtG (m1D k r) (stOf D (duT (hashS 3 [k, r])) bd) (duX (duS k r b D))) (duX (duS k r b D)).ins.length = 0 := by
    show (if (0 : Int) = 0 then inAtG (m1D k r) (stOf D (duT (hashS 3 [k, r])) bd) (duX (duS k r b D)) 0 else 0) = 0
    rw [if_pos rfl]
    exact chkIn_zero rfl rfl rfl (mkd_du h.kk h.rr)
  rw [if_pos e1, if_pos (by rfl), if_neg (by show ¬ ((0 : Int) < 0 ∧ _); omega), if_pos (by rfl)]
/-- What Build makes of one dummy in the open mode. -/
theorem build_du {k r b : Int} {D : Nat} (h : DuOk k r b D) : buildG m0D (openR 2 D) D (duQ (duS k r b D)) = (0, { duT (hashS 3 [k, r]) with proof := witS (duX (duS k r b D)) }, duX (duS k r b D), m1D k r) := by
  have hb : bindS (duT (hashS 3 [k, r])) < 18446744069414584321 := (hashS_in _ _).2
  have e0 : examE m0D (settE m0D.ideal (openR 2 D).mode (openR 2 D).depth (openR 2 D).bl (openR 2 D).bu (openR 2 D).qu (openR 2 D).rew (openR 2 D).win (openR 2 D).fin (openR 2 D).work) D (duQ (duS k r b D)) = 0 := exam_du h
  have e1 : markL m0D (duQ (duS k r b D)).ins (duQ (duS k r b D)).ins.length = ([hashS 3 [k, r]], true, m1D k r) := markL_du h
  have e2 : proveG (m1D k r) (openR 2 D).mode D (stOf D (duT (hashS 3 [k, r])) (bindS (duT (hashS 3 [k, r])))) (duX (duS k r b D)) = (0, witS (duX (duS k r b D)), m1D k r) := by
    unfold proveG
    rw [if_pos (validB_du h hb), if_pos (rel_du h hb), if_pos (by rfl)]
  exact buildG_of (q := duQ (duS k r b D)) (ns := []) (os := []) e0 e1 rfl (valid_du (hashS_in _ _).2) e2
end Go.Proofs.YtdjcdejapkkcmaaGreatDoor
/- BuilderDummy in plain Lean: the bytes of its witness are read back. -/
namespace Go.Proofs.YtdjcdejapkkcmaaGreatDoor
open Go.ChangeShapes Go.WideShapes Go.ChangeAt Go.RowKit

theorem leN_digs : ∀ (k : Nat) (n : Int), 0 ≤ n → n < 256 ^ k → leN (digs k n) = n
  | 0, n, h0, h1 => by
    simp only [Int.pow_zero] at h1
    simp only [digs, leN]
    omega
  | k + 1, n, h0, h1 => by
    rw [Int.pow_succ] at h1
    simp only [digs, leN]
    rw [leN_digs k (n / 256) (by omega) (by omega)]
    omega
/-- Unread bytes. -/
structure Rds (r : RdM) (rest : List Int) : Prop where
  ok : r.failed = false
  le : r.pos ≤ r.bytes.length
  at_ : r.bytes.drop r.pos = rest
theorem Rds.len {r : RdM} {rest : List Int} (h : Rds r rest) : r.bytes.length = r.pos + rest.length := by
  have := congrArg List.length h.at_
  rw [List.length_drop] at this
  have := h.le
  omega
theorem Rds.dig {r : RdM} {size : Nat} {n : Int} {rest : List Int} (h : Rds r (digs size n ++ rest)) (h0 : 0 ≤ n) (h1 : n < 256 ^ size) : r.dig size = (n, true, r.to size) ∧ Rds (r.to size) rest := by
  have hl := h.len
  rw [List.length_append, digs_len] at hl
  constructor
  · have hb : r.bad size = false := by
      unfold RdM.bad
      rw [h.ok, decide_eq_false (by omega)]
      rfl
    unfold RdM.dig
    rw [hb, if_neg (by simp)]
    unfold RdM.num
    rw [h.at_, List.take_left' (digs_len _ _), leN_digs _ _ h0 h1]
  · refine ⟨h.ok, by show r.pos + size ≤ r.bytes.length; omega, ?_⟩
    show r.bytes.drop (r.pos + size) = rest
    rw [← List.drop_drop, h.at_, List.drop_left' (digs_len _ _)]
theorem Rds.uint {r : RdM} {n : Int} {rest : List Int} (h : Rds r (digs 8 n ++ rest)) (most : Int) (h0 : 0 ≤ n) (h1 : n ≤ most) (h2 : n < 18446744073709551616) : (r.uint most).1 = n ∧ Rds (r.uint most).2 rest := by
  obtain ⟨e, hr⟩ := h.dig h0 (by omega)
  unfold RdM.uint
  rw [e, if_neg (by simp only [Bool.true_eq_false, false_or]; omega)]
  exact ⟨rfl, hr⟩
theorem Rds.int {r : RdM} {n : Int} {rest : List Int} (h : Rds r (digs 4 n ++ rest)) (most : Int) (h0 : 0 ≤ n) (h1 : n ≤ most) (h2 : n < 4294967296) : (r.int most).1 = n ∧ Rds (r.int most).2 rest := by
  obtain ⟨e, hr⟩ := h.dig h0 (by omega)
  unfold RdM.int
  rw [e, if_neg (by simp only [Bool.true_eq_false, false_or]; omega)]
  exact ⟨rfl, hr⟩
theorem Rds.many : ∀ {l : List Int} {r : RdM} {rest : List Int} (acc : List Int), Rds r (digsAll l ++ rest) → (∀ x ∈ l, 0 ≤ x ∧ x < 18446744069414584321) → (RdM.many 18446744069414584321 l.length r acc).1 = acc ++ l ∧ Rds (RdM.many 18446744069414584321 l.length r acc).2 rest
  | [], r, rest, acc, h, _ => ⟨by simp [RdM.many], h⟩
  | x :: l, r, rest, acc, h, hx => by
    have h' : Rds r (digs 8 x ++ (digsAll l ++ rest)) := by
      rw [← List.append_assoc]
      exact h
    obtain ⟨x0, x1⟩ := hx x (by simp)
    obtain ⟨e, hr⟩ := h'.dig x0 (by omega)
    have ih := Rds.many (acc ++ [x]) hr (fun y hy => hx y (by simp [hy]))
    show (RdM.many 18446744069414584321 (l.length + 1) r acc).1 = _ ∧ Rds (RdM.many 18446744069414584321 (l.length + 1) r acc).2 rest
    unfold RdM.many
    rw [e, if_neg (by show ¬ _ ≤ x; omega)]
    refine ⟨?_, ih.2⟩
    have := ih.1
    rw [List.append_assoc] at this
    exact this
theorem Rds.list {r : RdM} {l rest : List Int} (h : Rds r (listS l ++ rest)) (hl : l.length ≤ 12) (hx : ∀ x ∈ l, 0 ≤ x ∧ x < 18446744069414584321) : (r.list 12 18446744069414584321).1 = l ∧ Rds (r.list 12 18446744069414584321).2 rest := by
  unfold listS at h
  rw [List.append_assoc] at h
  obtain ⟨e1, h1⟩ := h.int 12 (by omega) (by omega) (by omega)
  have hn := h1.len
  rw [List.length_append, digsAll_len] at hn
  have h2 := h1.many [] hx
  unfold RdM.list
  rw [e1, h1.ok, if_neg (by simp only [Bool.false_eq_true, false_or]; omega), Int.toNat_natCast]
  exact ⟨h2.1, h2.2⟩
structure NoteIn (n : NoteM) : Prop where
  v : 0 ≤ n.value ∧ n.value ≤ 4294967295
  o : 0 ≤ n.owner ∧ n.owner ≤ 18446744069414584320
  r : 0 ≤ n.rho ∧ n.rho ≤ 18446744069414584320
  b : 0 ≤ n.blind ∧ n.blind ≤ 18446744069414584320
theorem Rds.note {r : RdM} {n : NoteM} {rest : List Int} (h : Rds r (noteS n ++ rest)) (hn : NoteIn n) : r.note = n ∧ Rds r.n4 rest := by
  have hv := hn.v
  have ho := hn.o
  have hr := hn.r
  have hb := hn.b
  unfold noteS at h
  rw [List.append_assoc, List.append_assoc, List.append_assoc] at h
  obtain ⟨e1, h1⟩ := h.uint 4294967295 hv.1 hv.2 (by omega)
  obtain ⟨e2, h2⟩ := h1.uint 18446744069414584320 ho.1 ho.2 (by omega)
  obtain ⟨e3, h3⟩ := h2.uint 18446744069414584320 hr.1 hr.2 (by omega)
  obtain ⟨e4, h4⟩ := h3.uint 18446744069414584320 hb.1 hb.2 (by omega)
  refine ⟨?_, h4⟩
  show NoteM.mk (r.uint 4294967295).1 (r.n1.uint 18446744069414584320).1 (r.n2.uint 18446744069414584320).1 (r.n3.uint 18446744069414584320).1 = n
  rw [show (r.n1.uint 18446744069414584320).1 = n.owner from e2, show (r.n2.uint 18446744069414584320).1 = n.rho from e3, show (r.n3.uint 18446744069414584320).1 = n.blind from e4, e1]
structure SpentIn (s : SpentM) : Prop where
  note : NoteIn s.note
  key : 0 ≤ s.key ∧ s.key ≤ 18446744069414584320
  num : 0 ≤ s.number ∧ s.number ≤ 3
  pos : 0 ≤ s.position ∧ s.position ≤ 4095
  len : s.path.length ≤ 12
  path : ∀ x ∈ s.path, 0 ≤ x ∧ x < 18446744069414584321
theorem Rds.spent {r : RdM} {s : SpentM} {rest : List Int} (h : Rds r (spentS s ++ rest)) (hs : SpentIn s) : r.spent = s ∧ Rds r.s5 rest := by
  have hk := hs.key
  have hu := hs.num
  have hp := hs.pos
  unfold spentS at h
  simp only [List.append_assoc] at h
  obtain ⟨e0, h0⟩ := h.note hs.note
  obtain ⟨e1, h1⟩ := h0.uint 18446744069414584320 hk.1 hk.2 (by omega)
  obtain ⟨e2, h2⟩ := h1.int 3 hu.1 hu.2 (by omega)
  obtain ⟨e3, h3⟩ := h2.int 4095 hp.1 hp.2 (by omega)
  obtain ⟨e4, h4⟩ := h3.list hs.len hs.path
  have hd : (0 : Int) ≤ (dumN s.dummy : Nat) ∧ ((dumN s.dummy : Nat) : Int) ≤ 1 := by
    unfold dumN
    split <;> constructor <;> simp
  obtain ⟨e5, h5⟩ := h4.int 1 hd.1 hd.2 (by omega)
  refine ⟨?_, h5⟩
  show SpentM.mk r.note (r.n4.uint 18446744069414584320).1 (r.s1.int 3).1 (r.s2.int 4095).1 (r.s3.list 12 18446744069414584321).1 ((r.s4.int 1).1 == 1) = s
  rw [e0, show (r.n4.uint 18446744069414584320).1 = s.key from e1, show (r.s1.int 3).1 = s.number from e2, show (r.s2.int 4095).1 = s.position from e3, show (r.s3.list 12 18446744069414584321).1 = s.path from e4, show (r.s4.int 1).1 = ((dumN s.dummy : Nat) : Int) from e5]
  obtain ⟨n, k, u, p, pa, d⟩ := s
  cases d <;> rfl
/-- The witness of one spent note. -/
theorem decode_one {s : SpentM} (hs : SpentIn s) : decodeS (witS (duX s)) = some (duX s) := by
  have hw : witS (duX s) = digs 4 ((1 : Nat) : Int) ++ (spentS s ++ (digs 4 ((0 : Nat) : Int) ++ (digs 8 0 ++ []))) := by
    show digs 4 ((1 : Nat) : Int) ++ ((spentS s ++ []) ++ (digs 4 ((0 : Nat) : Int) ++ ([] ++ digs 8 0))) = _
    simp only [List.append_nil, List.nil_append]
  have h : Rds (RdM.mk (witS (duX s)) 0 false) (digs 4 ((1 : Nat) : Int) ++ (spentS s ++ (digs 4 ((0 : Nat) : Int) ++ (digs 8 0 ++ [])))) := ⟨rfl, Nat.zero_le _, hw⟩
  obtain ⟨e1, h1⟩ := h.int 4 (by omega) (by omega) (by omega)
  obtain ⟨e2, h2⟩ := h1.spent hs
  obtain ⟨e3, h3⟩ := h2.int 4 (by omega) (by omega) (by omega)
  obtain ⟨e4, h4⟩ := h3.uint 18446744069414584320 (by omega) (by omega) (by omega)
  have hd := h4.len
  have hf : (((((RdM.mk (witS (duX s)) 0 false).int 4).2.s5).int 4).2.uint 18446744069414584320).2.done = true := by
    unfold RdM.done
    rw [h4.ok, decide_eq_true (by rw [hd]; rfl)]
    rfl
  obtain ⟨ra, hra⟩ : ∃ x, (RdM.mk (witS (duX s)) 0 false).int 4 = x := ⟨_, rfl⟩
  rw [hra] at e1 e2 e3 e4 hf
  obtain ⟨n1, r1⟩ := ra
  obtain ⟨rb, hrb⟩ : ∃ x, (RdM.s5 r1).int 4 = x := ⟨_, rfl⟩
  simp only at e1 e2 e3 e4 hf
  rw [hrb] at e3 e4 hf
  obtain ⟨n2, r2⟩ := rb
  simp only at e3 e4 hf
  unfold decodeS
  simp only [hra, e1, Int.toNat_natCast, RdM.spents, hrb, e3, RdM.notes, hf, e4, e2, if_true, List.nil_append]
  rfl
end Go.Proofs.YtdjcdejapkkcmaaGreatDoor
/- BuilderDummy in plain Lean: its transaction is accepted. -/
namespace Go.Proofs.YtdjcdejapkkcmaaGreatDoor
open Go.ChangeShapes Go.WideShapes Go.ChangeAt Go.RowKit

theorem chkE_zero {a v : Int} {i : SpentM} (h1 : i.note.owner = ownerS i.key i.number) (h2 : i.dummy = true) (h3 : i.note.value = 0) (h4 : markK i.key i.note.rho = true) (h5 : markV i.key i.note.rho = v) : checkInE a i v = 0 := by
  unfold checkInE
  rw [if_pos h1, if_pos ⟨h4, h5⟩, if_pos h2, if_pos h3]
theorem relE_du {k r b : Int} {D : Nat} (h : DuOk k r b D) : relE D (stOf D (duT (hashS 3 [k, r])) 0) (duX (duS k r b D)) = 0 := by
  have hk := markK_du h.kk h.rr
  unfold relE
  rw [if_pos (validB_du h (by omega))]
  have e1 : firstE (inAt (stOf D (duT (hashS 3 [k, r])) 0) (duX (duS k r b D))) (duX (duS k r b D)).ins.length = 0 := by
    show (if (0 : Int) = 0 then inAt (stOf D (duT (hashS 3 [k, r])) 0) (duX (duS k r b D)) 0 else 0) = 0
    rw [if_pos rfl]
    exact chkE_zero (a := 5) (i := duS k r b D) (v := hashS 3 [k, r]) rfl rfl rfl hk (show (if markK k r = true then hashS 3 [k, r] else 0) = _ from if_pos hk)
  rw [if_pos e1, if_pos (by rfl), if_neg (by show ¬ ((0 : Int) < 0 ∧ _); omega), if_pos (by rfl)]
structure DuIn (k r b : Int) : Prop where
  k0 : 0 ≤ k
  r0 : 0 ≤ r
  b0 : 0 ≤ b
theorem owner_ge (k : Int) : 0 ≤ ownerS k 0 := by
  unfold ownerS
  rw [if_pos (by omega)]
  exact (hashS_in _ _).1
theorem spent_in {k r b : Int} {D : Nat} (h : DuOk k r b D) (g : DuIn k r b) : SpentIn (duS k r b D) := by
  have h1 := h.kk
  have h2 := h.rr
  have h3 := h.bb
  have h4 := h.oo
  have h5 := h.d1
  refine ⟨⟨⟨by show (0 : Int) ≤ 0; omega, by show (0 : Int) ≤ _; omega⟩, ⟨owner_ge k, by show ownerS k 0 ≤ _; omega⟩, ⟨g.r0, by show r ≤ _; omega⟩, ⟨g.b0, by show b ≤ _; omega⟩⟩, ⟨g.k0, by show k ≤ _; omega⟩, ⟨by show (0 : Int) ≤ 0; omega, by show (0 : Int) ≤ 3; omega⟩, ⟨by show (0 : Int) ≤ 0; omega, by show (0 : Int) ≤ 4095; omega⟩, ?_, fun x hx => ?_⟩
  · show (List.replicate D (0 : Int)).length ≤ 12
    rw [List.length_replicate]
    omega
  · rw [List.eq_of_mem_replicate hx]
    omega
theorem wit_len {s : SpentM} (h : s.path.length ≤ 12) : (witS (duX s)).length ≤ 1000 := by
  show (digs 4 ((1 : Nat) : Int) ++ ((spentS s ++ []) ++ (digs 4 ((0 : Nat) : Int) ++ ([] ++ digs 8 0)))).length ≤ 1000
  unfold spentS noteS
  simp only [List.length_append, digs_len, listS_len, List.length_nil]
  omega
/-- The transaction of one dummy note. -/
def duTx (k r b : Int) (D : Nat) : TxM := { duT (hashS 3 [k, r]) with proof := witS (duX (duS k r b D)) }
theorem check_du {k r b : Int} {D : Nat} (h : DuOk k r b D) (g : DuIn k r b) : checkE D 0 0 0 0 1 1 1 (duTx k r b D) = 0 := by
  have hl := wit_len (s := duS k r b D) (spent_in h g).len
  have d0 := h.d0
  have d1 := h.d1
  unfold checkE
  rw [if_pos (rulesE_zero (m := 2) (d := D) (bl := 0) (bu := 0) (q := 0) (rew := 0) (win := 1) (fin := 1) (work := 1) (by omega) (by omega)).symm]
  rw [if_pos (show validE (duTx k r b D) = 0 from validE_proof (t := duT (hashS 3 [k, r])) (valid_du (hashS_in _ _).2) (by omega))]
  have ha : accB D (stOf D (duT (hashS 3 [k, r])) 0) (witS (duX (duS k r b D))) = true := by
    unfold accB
    rw [decode_one (spent_in h g)]
    show (relE D (stOf D (duT (hashS 3 [k, r])) 0) (duX (duS k r b D)) == 0) = true
    rw [relE_du h]
    rfl
  rw [Int.toNat_natCast]
  exact if_pos ha
end Go.Proofs.YtdjcdejapkkcmaaGreatDoor
/- The reference's equality of lists of numbers. -/
namespace Go.Proofs.YtdjcdejapkkcmaaGreatDoor
open Go.ChangeShapes Go.WideShapes Go.ChangeAt Go.RowKit Go.Sort

theorem nums_cell {S : Nat → Prop} {w : World} {a : Option Addr} {len cap : Nat} {l : List Int} (h : numsR.rel S w [.slice a len cap] l) (k : Nat) (hk : k < l.length) : ∃ b off, a = some ⟨b, off, none⟩ ∧ w.cell? ⟨b, off + k, none⟩ = some (.int .u64 l[k]) := by
  obtain ⟨b, off, h1, -, -, -, hc⟩ := nums_at h k hk
  exact ⟨b, off, h1, hc⟩
def sameTo (l m : List Int) (k : Nat) : Prop := ∀ j, j < k → l.getD j 0 = m.getD j 0
theorem same_of {l m : List Int} (h : l.length = m.length) (hs : sameTo l m l.length) : l = m := by
  apply List.ext_getElem h
  intro j h1 h2
  have := hs j h1
  rwa [getD_at l 0 j h1, getD_at m 0 j h2] at this
set_option maxRecDepth 100000 in
set_option maxHeartbeats 2000000 in
theorem rsame_any (S S' : Nat → Prop) (w : World) (a b : Option Addr) (la lb ca cb : Nat) (l m : List Int) (hla : l.length = la) (hlb : m.length = lb) (h : numsR.rel S w [.slice a la ca] l) (h' : numsR.rel S' w [.slice b lb cb] m) (hm : la ≤ 1000000) :
    Calls Tryz.prog 40 #[.slice a la ca, .slice b lb cb] w fun e w' => e = .returned (.bool (decide (l = m))) ∧ Below w.heap.size w w' := by
  have H := Lib.hid h
  have H' := Lib.hid h'
  have HA := Lib.hid hla
  have HB := Lib.hid hlb
  clear h h'
  by_cases hll : la = lb
  · have z1 : ((la : Int) == (lb : Int)) = true := by rw [beq_iff_eq]; omega
    have z2 : ((la : Int) != (lb : Int)) = false := by rw [bne_eq_false_iff_eq]; omega
    have HLL := Lib.hid hll
    clear hla hlb hll
    go_enter Tryz.func40, Tryz.ntmps40
    go_wp2_with fail
    go_loopw [5] (fun vi wr => ∃ k : Nat, k ≤ la ∧ vi = .int .i64 k ∧ Hid (sameTo l m k) ∧ Below w.heap.size w wr) (fun vi _ => la - (intOf vi).toNat)
    case atStart => exact ⟨0, Nat.zero_le _, rfl, fun j h => absurd h (Nat.not_lt_zero _), Below.refl _ _⟩
    case round =>
      obtain ⟨k, hk, rfl, hs, hbr⟩ := hrel
      by_cases hlt : k < la
      · obtain ⟨b1, o1, rfl, c1⟩ := nums_cell (numsR.keepB H.out hbr) k (by have := HA.out; omega)
        obtain ⟨b2, o2, rfl, c2⟩ := nums_cell (numsR.keepB H'.out hbr) k (by have := HB.out; have := HLL.out; omega)
        have HX : Hid (l.getD k 0 = l[k]'(by have := HA.out; omega)) := getD_at l 0 k _
        have HY : Hid (m.getD k 0 = m[k]'(by have := HB.out; have := HLL.out; omega)) := getD_at m 0 k _
        generalize l[k]'(by have := HA.out; omega) = x at *
        generalize m[k]'(by have := HB.out; have := HLL.out; omega) = y at *
        have x0 := cell_in c1
        have y0 := cell_in c2
        have hkb : k < lb := by have := HLL.out; omega
        have i0 : (0 : Int) ≤ (k : Int) := by omega
        have i1 : (k : Int) < (la : Int) := by omega
        have i2 : (k : Int) < (lb : Int) := by omega
        clear c1 c2
        go_wp2_with fail
        refine wp_region_quiet_below (by kernel_rfl) (by kernel_rfl) ?_
        repeat (first | go_big_quiet_step (fail) | quiet_step (fail))
        refine wpQuiet_nil ?_
        intro wq hw'
        obtain ⟨⟨dq, osq⟩, hw''⟩ := hw'
        have hbwq := below_regrown wr dq osq
        rw [← hw''] at hbwq
        clear hw'' x0 y0
        by_cases hxy : x = y
        · have z1 : (x == y) = true := by simpa using hxy
          have z2 : (x != y) = false := by simpa using hxy
          have HS2 : Hid (sameTo l m (k + 1)) := fun j hj => by
            rcases Nat.lt_or_ge j k with h | h
            · exact hs.out j h
            · obtain rfl : j = k := by omega
              rw [HX.out, HY.out, hxy]
          clear hxy
          go_wp2_with fail
          go_roundw
          case rel => exact ⟨k + 1, by omega, by go_num, HS2, bnext hbr hbwq⟩
          case measure => simp [intOf]; omega
        · have z1 : (x == y) = false := by simpa using hxy
          have z2 : (x != y) = true := by simpa using hxy
          have HF : Hid (decide (l = m) = false) := decide_eq_false fun e => hxy (by rw [← HX.out, ← HY.out, e])
          clear hxy
          go_wp2_with fail
          go_ret
          exact ⟨ret_bool HF.out.symm, bnext hbr hbwq⟩
      · obtain rfl : k = la := by omega
        have HF : Hid (decide (l = m) = true) := decide_eq_true (same_of (by have := HA.out; have := HB.out; have := HLL.out; omega) (by rw [HA.out]; exact hs.out))
        go_wp2_with fail
        go_ret
        exact ⟨ret_bool HF.out.symm, hbr⟩
  · have z1 : ((la : Int) == (lb : Int)) = false := by rw [beq_eq_false_iff_ne]; omega
    have z2 : ((la : Int) != (lb : Int)) = true := by rw [bne_iff_ne]; omega
    have HF : Hid (decide (l = m) = false) := decide_eq_false fun e => hll (by rw [← hla, ← hlb, e])
    clear hla hlb hll
    go_enter Tryz.func40, Tryz.ntmps40
    go_wp2_with fail
    go_ret
    exact ⟨ret_bool HF.out.symm, Below.refl _ _⟩

end Go.Proofs.YtdjcdejapkkcmaaGreatDoor
