/- The reference's reader, in plain numbers, and that it reads the same witnesses; no conditions. -/
import Derived.Test.YtgjemeeeignlnaaGreatDoorMRd
import Derived.Test.YtgjemeeeignlnaaGreatDoorMSp
import Derived.Test.YtgjemeeeignlnaaGreatDoorMRef
import Derived.Test.YtgjemeeeignlnaaGreatDoorMRel
namespace Go.Proofs.YtgjemeeeignlnaaGreatDoor

structure RfM where
  b : List Int
  fail : Bool
def RfM.bad (r : RfM) : RfM := ⟨r.b, true⟩
def RfM.take (r : RfM) (n : Nat) : List Int × RfM := if r.fail = true ∨ r.b.length < n then ([], r.bad) else (r.b.take n, ⟨r.b.drop n, false⟩)
def RfM.uint (r : RfM) (most : Int) : Int × RfM := if (r.take 8).2.fail = true ∨ most < leN (r.take 8).1 then (0, (r.take 8).2.bad) else (leN (r.take 8).1, (r.take 8).2)
def RfM.int (r : RfM) (most : Int) : Int × RfM := if (r.take 4).2.fail = true ∨ most < leN (r.take 4).1 then (0, (r.take 4).2.bad) else (leN (r.take 4).1, (r.take 4).2)
def RfM.many (p : Int) : Nat → RfM → List Int → List Int × RfM
  | 0, r, acc => (acc, r)
  | k + 1, r, acc => if p ≤ leN (r.take 8).1 then ([], (r.take 8).2.bad) else RfM.many p k (r.take 8).2 (acc ++ [leN (r.take 8).1])
def RfM.list (r : RfM) (most p : Int) : List Int × RfM :=
  if (r.int most).2.fail = true ∨ ((r.int most).2.b.length : Int) / 8 < (r.int most).1 then ([], (r.int most).2.bad) else RfM.many p (r.int most).1.toNat (r.int most).2 []
def RfM.n1 (r : RfM) : RfM := (r.uint 18446744073709551615).2
def RfM.n2 (r : RfM) : RfM := (r.n1.uint 18446744073709551615).2
def RfM.n3 (r : RfM) : RfM := (r.n2.uint 18446744073709551615).2
def RfM.n4 (r : RfM) : RfM := (r.n3.uint 18446744073709551615).2
def RfM.note (r : RfM) : NoteM := ⟨(r.uint 18446744073709551615).1, (r.n1.uint 18446744073709551615).1, (r.n2.uint 18446744073709551615).1, (r.n3.uint 18446744073709551615).1⟩
def RfM.s1 (r : RfM) : RfM := (r.n4.uint 18446744073709551615).2
def RfM.s2 (r : RfM) : RfM := (r.s1.int 4294967296).2
def RfM.s3 (r : RfM) : RfM := (r.s2.int 4294967296).2
def RfM.s4 (r : RfM) : RfM := (r.s3.list 12 18446744069414584321).2
def RfM.s5 (r : RfM) : RfM := (r.s4.int 1).2
def RfM.spent (r : RfM) : SpentM := ⟨r.note, (r.n4.uint 18446744073709551615).1, (r.s1.int 4294967296).1, (r.s2.int 4294967296).1, (r.s3.list 12 18446744069414584321).1, (r.s4.int 1).1 == 1⟩
def RfM.spents : Nat → RfM → List SpentM → List SpentM × RfM
  | 0, r, acc => (acc, r)
  | k + 1, r, acc => if r.fail = true then (acc, r) else RfM.spents k r.s5 (acc ++ [r.spent])
def RfM.notes : Nat → RfM → List NoteM → List NoteM × RfM
  | 0, r, acc => (acc, r)
  | k + 1, r, acc => if r.fail = true then (acc, r) else RfM.notes k r.n4 (acc ++ [r.note])
/-- One of the Ins has bytes. -/
def rightIn (x : SpentM) : Bool := decide (x.path.length ≤ 12 ∧ 0 ≤ x.position ∧ x.position < 4096) && (noteB x.note && (elemB x.key && (decide (0 ≤ x.number ∧ x.number < 4) && elemsB x.path)))
def rightB (t : WitM) : Bool := decide (t.ins.length ≤ 4 ∧ t.outs.length ≤ 4) && (elemB t.secret && (t.ins.all rightIn && t.outs.all noteB))
def refDecodeS (bs : List Int) : Option WitM :=
  match RfM.spents (RfM.int ⟨bs, false⟩ 4).1.toNat (RfM.int ⟨bs, false⟩ 4).2 [] with
  | (ins, r) => match RfM.notes (r.int 4).1.toNat (r.int 4).2 [] with
    | (outs, r') => if (r'.uint 18446744073709551615).2.fail = true ∨ (r'.uint 18446744073709551615).2.b.length > 0 ∨ rightB ⟨ins, outs, (r'.uint 18446744073709551615).1⟩ = false then none else some ⟨ins, outs, (r'.uint 18446744073709551615).1⟩

theorem and5 {a b c d e : Bool} (ha : a = true) (hb : b = true) (hc : c = true) (hd : d = true) (he : e = true) : (a && (b && (c && (d && e)))) = true := by subst ha hb hc hd he; rfl
theorem and4f {a b c d e : Bool} (h : d = false) : (a && (b && (c && (d && e)))) = false := by subst h; simp
theorem and1f {a b : Bool} (h : a = false) : (a && b) = false := by subst h; rfl
/-- Both readers are at the same place. -/
structure Sim (r : RdM) (q : RfM) : Prop where
  rok : r.failed = false
  qok : q.fail = false
  pos : r.pos ≤ r.bytes.length
  same : q.b = r.bytes.drop r.pos
  bytes : ∀ d ∈ r.bytes, 0 ≤ d ∧ d < 256
theorem Sim.dig {r : RdM} {q : RfM} (h : Sim r q) (n : Nat) :
    ((r.dig n).2.1 = true ∧ (q.take n).2.fail = false ∧ (r.dig n).1 = leN (q.take n).1 ∧ Sim (r.dig n).2.2 (q.take n).2 ∧ 0 ≤ (r.dig n).1 ∧ (r.dig n).1 < 256 ^ n) ∨
    ((r.dig n).2.1 = false ∧ (r.dig n).2.2.failed = true ∧ (q.take n).2.fail = true) := by
  have hl : q.b.length = r.bytes.length - r.pos := by rw [h.same, List.length_drop]
  have hpos := h.pos
  unfold RdM.dig RfM.take RdM.bad
  by_cases hb : r.bytes.length < r.pos + n
  · right
    have e1 : (r.failed || decide (r.bytes.length < r.pos + n)) = true := by simp [hb]
    have e2 : q.fail = true ∨ q.b.length < n := .inr (by omega)
    rw [if_pos e1, if_pos e2]
    exact ⟨rfl, rfl, rfl⟩
  · left
    have e1 : ¬ (r.failed || decide (r.bytes.length < r.pos + n)) = true := by simp [h.rok, hb]
    have e2 : ¬ (q.fail = true ∨ q.b.length < n) := by rw [h.qok]; rintro (h | h); cases h; omega
    rw [if_neg e1, if_neg e2]
    have h2 := leN_in ((r.bytes.drop r.pos).take n) fun d hd => h.bytes d (List.mem_of_mem_drop (List.mem_of_mem_take hd))
    have h3 : ((r.bytes.drop r.pos).take n).length = n := by simp; omega
    rw [h3] at h2
    refine ⟨rfl, rfl, ?_, ⟨h.rok, rfl, by simp only [RdM.to]; omega, ?_, h.bytes⟩, h2.1, h2.2⟩
    · simp only [RdM.num, h.same]
    · simp only [RdM.to, h.same, List.drop_drop]
theorem dig_failed {r : RdM} (h : r.failed = true) (n : Nat) : (r.dig n).2.1 = false ∧ (r.dig n).2.2.failed = true ∧ (r.dig n).1 = 0 := by
  unfold RdM.dig RdM.bad; simp [h, RdM.fail]
theorem take_failed {q : RfM} (h : q.fail = true) (n : Nat) : (q.take n).2.fail = true := by
  unfold RfM.take; simp [h, RfM.bad]
theorem uint_failed {r : RdM} (h : r.failed = true) (m : Int) : (r.uint m).2.failed = true := by
  unfold RdM.uint; rw [if_pos (.inl (dig_failed h 8).1)]; rfl
theorem int_failed {r : RdM} (h : r.failed = true) (m : Int) : (r.int m).2.failed = true := by
  unfold RdM.int; rw [if_pos (.inl (dig_failed h 4).1)]; rfl
theorem list_failed {r : RdM} (h : r.failed = true) (m p : Int) : (r.list m p).2.failed = true := by
  unfold RdM.list; rw [if_pos (.inl (int_failed h m))]; rfl
theorem ruint_failed {q : RfM} (h : q.fail = true) (m : Int) : (q.uint m).2.fail = true := by
  unfold RfM.uint; rw [if_pos (.inl (take_failed h 8))]; rfl
theorem rint_failed {q : RfM} (h : q.fail = true) (m : Int) : (q.int m).2.fail = true := by
  unfold RfM.int; rw [if_pos (.inl (take_failed h 4))]; rfl
theorem rlist_failed {q : RfM} (h : q.fail = true) (m p : Int) : (q.list m p).2.fail = true := by
  unfold RfM.list; rw [if_pos (.inl (rint_failed h m))]; rfl
/-- A number with a bound m, which the reference reads with a greater one. -/
theorem Sim.uint {r : RdM} {q : RfM} (h : Sim r q) (m M : Int) (hm : m ≤ M) (hM : 18446744073709551615 ≤ M ∨ M = m) :
    ((r.uint m).1 = (q.uint M).1 ∧ Sim (r.uint m).2 (q.uint M).2 ∧ 0 ≤ (r.uint m).1 ∧ (r.uint m).1 ≤ m) ∨ ((r.uint m).2.failed = true ∧ ((q.uint M).2.fail = true ∨ m < (q.uint M).1)) := by
  unfold RdM.uint RfM.uint
  rcases h.dig 8 with ⟨h1, h2, h3, h4, h5, h6⟩ | ⟨h1, h2, h3⟩
  · rw [h3] at h5 h6
    rw [h1, h2, h3]
    by_cases hb : m < leN (q.take 8).1
    · right
      rw [if_pos (.inr hb)]
      refine ⟨rfl, ?_⟩
      rcases hM with hM | rfl
      · rw [if_neg (by simp; omega)]; exact .inr hb
      · rw [if_pos (.inr hb)]; exact .inl rfl
    · left
      rw [if_neg (by simp; omega), if_neg (by simp; omega)]
      exact ⟨rfl, h4, h5, by show leN (q.take 8).1 ≤ m; omega⟩
  · right
    rw [if_pos (.inl h1), if_pos (.inl h3)]
    exact ⟨rfl, .inl rfl⟩
theorem Sim.int {r : RdM} {q : RfM} (h : Sim r q) (m M : Int) (hm : m ≤ M) (hM : 4294967295 ≤ M ∨ M = m) :
    ((r.int m).1 = (q.int M).1 ∧ Sim (r.int m).2 (q.int M).2 ∧ 0 ≤ (r.int m).1 ∧ (r.int m).1 ≤ m) ∨ ((r.int m).2.failed = true ∧ ((q.int M).2.fail = true ∨ m < (q.int M).1)) := by
  unfold RdM.int RfM.int
  rcases h.dig 4 with ⟨h1, h2, h3, h4, h5, h6⟩ | ⟨h1, h2, h3⟩
  · rw [h3] at h5 h6
    rw [h1, h2, h3]
    by_cases hb : m < leN (q.take 4).1
    · right
      rw [if_pos (.inr hb)]
      refine ⟨rfl, ?_⟩
      rcases hM with hM | rfl
      · rw [if_neg (by simp; omega)]; exact .inr hb
      · rw [if_pos (.inr hb)]; exact .inl rfl
    · left
      rw [if_neg (by simp; omega), if_neg (by simp; omega)]
      exact ⟨rfl, h4, h5, by show leN (q.take 4).1 ≤ m; omega⟩
  · right
    rw [if_pos (.inl h1), if_pos (.inl h3)]
    exact ⟨rfl, .inl rfl⟩
/-- With the same bound both fail or none. -/
theorem Sim.int' {r : RdM} {q : RfM} (h : Sim r q) (m : Int) :
    ((r.int m).1 = (q.int m).1 ∧ Sim (r.int m).2 (q.int m).2 ∧ 0 ≤ (r.int m).1 ∧ (r.int m).1 ≤ m) ∨ ((r.int m).2.failed = true ∧ (q.int m).2.fail = true) := by
  unfold RdM.int RfM.int
  rcases h.dig 4 with ⟨h1, h2, h3, h4, h5, h6⟩ | ⟨h1, h2, h3⟩
  · rw [h3] at h5 h6
    rw [h1, h2, h3]
    by_cases hb : m < leN (q.take 4).1
    · right
      rw [if_pos (.inr hb), if_pos (.inr hb)]
      exact ⟨rfl, rfl⟩
    · left
      rw [if_neg (by simp; omega), if_neg (by simp; omega)]
      exact ⟨rfl, h4, h5, by show leN (q.take 4).1 ≤ m; omega⟩
  · right
    rw [if_pos (.inl h1), if_pos (.inl h3)]
    exact ⟨rfl, rfl⟩
theorem Sim.many (p : Int) : ∀ (k : Nat) (r : RdM) (q : RfM) (acc : List Int), Sim r q → k * 8 ≤ q.b.length → (∀ x ∈ acc, x < p) →
    ((RdM.many p k r acc).1 = (RfM.many p k q acc).1 ∧ Sim (RdM.many p k r acc).2 (RfM.many p k q acc).2 ∧ (∀ x ∈ (RfM.many p k q acc).1, x < p) ∧ (RfM.many p k q acc).1.length = acc.length + k) ∨
    ((RdM.many p k r acc).2.failed = true ∧ (RfM.many p k q acc).2.fail = true)
  | 0, r, q, acc, h, _, ha => .inl ⟨rfl, h, ha, rfl⟩
  | k + 1, r, q, acc, h, hl, ha => by
    have hlen : (q.take 8).2.b.length = q.b.length - 8 := by
      unfold RfM.take
      rw [if_neg (by rw [h.qok]; rintro (h | h); cases h; omega)]
      simp
    rcases h.dig 8 with ⟨h1, h2, h3, h4, h5, h6⟩ | ⟨h1, h2, h3⟩
    · unfold RdM.many RfM.many
      rw [h3]
      by_cases hp : p ≤ leN (q.take 8).1
      · rw [if_pos hp, if_pos hp]
        exact .inr ⟨rfl, rfl⟩
      · rw [if_neg hp, if_neg hp]
        have := Sim.many p k (r.dig 8).2.2 (q.take 8).2 (acc ++ [leN (q.take 8).1]) h4 (by omega) (by
          intro x hx
          rcases List.mem_append.1 hx with hx | hx
          · exact ha x hx
          · simp at hx; omega)
        rw [List.length_append, List.length_singleton] at this
        rcases this with ⟨a1, a2, a3, a4⟩ | h
        · exact .inl ⟨a1, a2, a3, by omega⟩
        · exact .inr h
    · exfalso
      unfold RfM.take at h3
      rw [if_neg (by rw [h.qok]; rintro (h | h); cases h; omega)] at h3
      cases h3
theorem allUp_all {p : Nat → Bool} : ∀ {n : Nat}, (∀ k, k < n → p k = true) → allUp p n = true
  | 0, _ => rfl
  | n + 1, h => allUp_step (allUp_all fun k hk => h k (by omega)) (h n (by omega))
theorem elemsB_of {l : List Int} (h : ∀ x ∈ l, x < 18446744069414584321) : elemsB l = true := by
  refine allUp_all fun k hk => decide_eq_true ?_
  rw [getD_at l 0 k hk]
  exact h _ (List.getElem_mem hk)
theorem Sim.list {r : RdM} {q : RfM} (h : Sim r q) (m : Int) :
    ((r.list m 18446744069414584321).1 = (q.list m 18446744069414584321).1 ∧ Sim (r.list m 18446744069414584321).2 (q.list m 18446744069414584321).2 ∧ elemsB (q.list m 18446744069414584321).1 = true ∧ ((q.list m 18446744069414584321).1.length : Int) ≤ m) ∨
    ((r.list m 18446744069414584321).2.failed = true ∧ (q.list m 18446744069414584321).2.fail = true) := by
  unfold RdM.list RfM.list
  rcases h.int' m with ⟨h1, h2, h3, h4⟩ | ⟨h1, h2⟩
  · have hl : (q.int m).2.b.length = (r.int m).2.bytes.length - (r.int m).2.pos := by rw [h2.same, List.length_drop]
    rw [h2.rok, h2.qok, hl, h1]
    by_cases hb : (((r.int m).2.bytes.length - (r.int m).2.pos : Nat) : Int) / 8 < (q.int m).1
    · rw [if_pos (.inr hb), if_pos (.inr hb)]
      exact .inr ⟨rfl, rfl⟩
    · rw [if_neg (by simp; omega), if_neg (by simp; omega)]
      rw [h1] at h3 h4
      rcases Sim.many 18446744069414584321 (q.int m).1.toNat _ _ [] h2 (by omega) (fun x hx => by cases hx) with ⟨a1, a2, a3, a4⟩ | h
      · exact .inl ⟨a1, a2, elemsB_of a3, by rw [a4]; simp; omega⟩
      · exact .inr h
  · rw [if_pos (.inl h1), if_pos (.inl h2)]
    exact .inr ⟨rfl, rfl⟩
theorem note_failed {r : RdM} (h : r.failed = true) : r.n4.failed = true := uint_failed (uint_failed (uint_failed (uint_failed h _) _) _) _
theorem rnote_failed {q : RfM} (h : q.fail = true) : q.n4.fail = true := ruint_failed (ruint_failed (ruint_failed (ruint_failed h _) _) _) _
theorem spent_failed {r : RdM} (h : r.failed = true) : r.s5.failed = true := int_failed (list_failed (int_failed (int_failed (uint_failed (note_failed h) _) _) _) _ _) _
theorem rspent_failed {q : RfM} (h : q.fail = true) : q.s5.fail = true := rint_failed (rlist_failed (rint_failed (rint_failed (ruint_failed (rnote_failed h) _) _) _) _ _) _
theorem Sim.note {r : RdM} {q : RfM} (h : Sim r q) : (r.note = q.note ∧ Sim r.n4 q.n4 ∧ noteB q.note = true) ∨ (r.n4.failed = true ∧ (q.n4.fail = true ∨ noteB q.note = false)) := by
  rcases h.uint 4294967295 18446744073709551615 (by omega) (.inl (by omega)) with ⟨a1, s1, a2, a3⟩ | ⟨f, g⟩
  · rcases Sim.uint (r := r.n1) (q := q.n1) s1 18446744069414584320 18446744073709551615 (by omega) (.inl (by omega)) with ⟨b1, s2, b2, b3⟩ | ⟨f, g⟩
    · rcases Sim.uint (r := r.n2) (q := q.n2) s2 18446744069414584320 18446744073709551615 (by omega) (.inl (by omega)) with ⟨c1, s3, c2, c3⟩ | ⟨f, g⟩
      · rcases Sim.uint (r := r.n3) (q := q.n3) s3 18446744069414584320 18446744073709551615 (by omega) (.inl (by omega)) with ⟨d1, s4, d2, d3⟩ | ⟨f, g⟩
        · left
          refine ⟨by simp only [RdM.note, RfM.note, a1, b1, c1, d1], s4, ?_⟩
          exact decide_eq_true (by simp only [RfM.note]; omega)
        · right
          refine ⟨f, g.imp id fun g => ?_⟩
          exact decide_eq_false (by simp only [RfM.note]; omega)
      · right
        refine ⟨uint_failed f _, g.imp (fun g => ruint_failed g _) fun g => ?_⟩
        exact decide_eq_false (by simp only [RfM.note]; omega)
    · right
      refine ⟨uint_failed (uint_failed f _) _, g.imp (fun g => ruint_failed (ruint_failed g _) _) fun g => ?_⟩
      exact decide_eq_false (by simp only [RfM.note]; omega)
  · right
    refine ⟨uint_failed (uint_failed (uint_failed f _) _) _, g.imp (fun g => ruint_failed (ruint_failed (ruint_failed g _) _) _) fun g => ?_⟩
    exact decide_eq_false (by simp only [RfM.note]; omega)
theorem Sim.spent {r : RdM} {q : RfM} (h : Sim r q) : (r.spent = q.spent ∧ Sim r.s5 q.s5 ∧ rightIn q.spent = true) ∨ (r.s5.failed = true ∧ (q.s5.fail = true ∨ rightIn q.spent = false)) := by
  rcases h.note with ⟨a1, s1, a2⟩ | ⟨f, g⟩
  · rcases Sim.uint (r := r.n4) (q := q.n4) s1 18446744069414584320 18446744073709551615 (by omega) (.inl (by omega)) with ⟨b1, s2, b2, b3⟩ | ⟨f, g⟩
    · rcases Sim.int (r := r.s1) (q := q.s1) s2 3 4294967296 (by omega) (.inl (by omega)) with ⟨c1, s3, c2, c3⟩ | ⟨f, g⟩
      · rcases Sim.int (r := r.s2) (q := q.s2) s3 4095 4294967296 (by omega) (.inl (by omega)) with ⟨d1, s4, d2, d3⟩ | ⟨f, g⟩
        · rcases Sim.list (r := r.s3) (q := q.s3) s4 12 with ⟨e1, s5, e2, e3⟩ | ⟨f, g⟩
          · rcases Sim.int' (r := r.s4) (q := q.s4) s5 1 with ⟨g1, s6, g2, g3⟩ | ⟨f, g⟩
            · left
              refine ⟨by simp only [RdM.spent, RfM.spent, a1, b1, c1, d1, e1, g1], s6, ?_⟩
              have k1 : elemB (q.n4.uint 18446744073709551615).1 = true := decide_eq_true (by omega)
              have k2 : decide (0 ≤ (q.s1.int 4294967296).1 ∧ (q.s1.int 4294967296).1 < 4) = true := decide_eq_true (by omega)
              have k3 : decide ((q.s3.list 12 18446744069414584321).1.length ≤ 12 ∧ 0 ≤ (q.s2.int 4294967296).1 ∧ (q.s2.int 4294967296).1 < 4096) = true := decide_eq_true (by omega)
              exact and5 k3 a2 k1 k2 e2
            · exact .inr ⟨f, .inl g⟩
          · exact .inr ⟨int_failed f _, .inl (rint_failed g _)⟩
        · right
          refine ⟨int_failed (list_failed f _ _) _, g.imp (fun g => rint_failed (rlist_failed g _ _) _) fun g => ?_⟩
          have k3 : decide ((q.s3.list 12 18446744069414584321).1.length ≤ 12 ∧ 0 ≤ (q.s2.int 4294967296).1 ∧ (q.s2.int 4294967296).1 < 4096) = false := decide_eq_false (by omega)
          exact and1f k3
      · right
        refine ⟨int_failed (list_failed (int_failed f _) _ _) _, g.imp (fun g => rint_failed (rlist_failed (rint_failed g _) _ _) _) fun g => ?_⟩
        have hd : decide (0 ≤ (q.s1.int 4294967296).1 ∧ (q.s1.int 4294967296).1 < 4) = false := decide_eq_false (by omega)
        exact and4f hd
    · right
      refine ⟨int_failed (list_failed (int_failed (int_failed f _) _) _ _) _, g.imp (fun g => rint_failed (rlist_failed (rint_failed (rint_failed g _) _) _ _) _) fun g => ?_⟩
      have hd : elemB (q.n4.uint 18446744073709551615).1 = false := decide_eq_false (by omega)
      simp only [rightIn, RfM.spent, hd, Bool.false_and, Bool.and_false]
  · right
    refine ⟨int_failed (list_failed (int_failed (int_failed (uint_failed f _) _) _) _ _) _, g.imp (fun g => rint_failed (rlist_failed (rint_failed (rint_failed (ruint_failed g _) _) _) _ _) _) fun g => ?_⟩
    simp only [rightIn, RfM.spent, g, Bool.false_and, Bool.and_false]
theorem spents_failed : ∀ (k : Nat) (r : RdM) (acc : List SpentM), r.failed = true → (RdM.spents k r acc).2.failed = true
  | 0, _, _, h => h
  | k + 1, _, _, h => spents_failed k _ _ (spent_failed h)
theorem notes_failed : ∀ (k : Nat) (r : RdM) (acc : List NoteM), r.failed = true → (RdM.notes k r acc).2.failed = true
  | 0, _, _, h => h
  | k + 1, _, _, h => notes_failed k _ _ (note_failed h)
theorem rspents_failed : ∀ (k : Nat) (q : RfM) (acc : List SpentM), q.fail = true → (RfM.spents k q acc).2.fail = true
  | 0, _, _, h => h
  | k + 1, _, _, h => by unfold RfM.spents; rw [if_pos h]; exact h
theorem rnotes_failed : ∀ (k : Nat) (q : RfM) (acc : List NoteM), q.fail = true → (RfM.notes k q acc).2.fail = true
  | 0, _, _, h => h
  | k + 1, _, _, h => by unfold RfM.notes; rw [if_pos h]; exact h
theorem rspents_bad : ∀ (k : Nat) (q : RfM) (acc : List SpentM), acc.all rightIn = false → (RfM.spents k q acc).1.all rightIn = false
  | 0, _, _, h => h
  | k + 1, q, acc, h => by
    unfold RfM.spents
    split
    · exact h
    · exact rspents_bad k _ _ (by rw [List.all_append, h, Bool.false_and])
theorem rnotes_bad : ∀ (k : Nat) (q : RfM) (acc : List NoteM), acc.all noteB = false → (RfM.notes k q acc).1.all noteB = false
  | 0, _, _, h => h
  | k + 1, q, acc, h => by
    unfold RfM.notes
    split
    · exact h
    · exact rnotes_bad k _ _ (by rw [List.all_append, h, Bool.false_and])
theorem Sim.spents : ∀ (k : Nat) (r : RdM) (q : RfM) (acc : List SpentM), Sim r q → acc.all rightIn = true →
    ((RdM.spents k r acc).1 = (RfM.spents k q acc).1 ∧ Sim (RdM.spents k r acc).2 (RfM.spents k q acc).2 ∧ (RfM.spents k q acc).1.all rightIn = true ∧ (RfM.spents k q acc).1.length = acc.length + k) ∨
    ((RdM.spents k r acc).2.failed = true ∧ ((RfM.spents k q acc).2.fail = true ∨ (RfM.spents k q acc).1.all rightIn = false))
  | 0, r, q, acc, h, ha => .inl ⟨rfl, h, ha, rfl⟩
  | k + 1, r, q, acc, h, ha => by
    unfold RdM.spents RfM.spents
    rw [if_neg (by rw [h.qok]; simp)]
    rcases h.spent with ⟨a1, s1, a2⟩ | ⟨f, g⟩
    · rw [a1]
      have := Sim.spents k r.s5 q.s5 (acc ++ [q.spent]) s1 (by rw [List.all_append, ha]; simp [a2])
      rw [List.length_append, List.length_singleton] at this
      rcases this with ⟨b1, b2, b3, b4⟩ | h
      · exact .inl ⟨b1, b2, b3, by omega⟩
      · exact .inr h
    · right
      refine ⟨spents_failed _ _ _ f, ?_⟩
      rcases g with g | g
      · exact .inl (rspents_failed _ _ _ g)
      · exact .inr (rspents_bad _ _ _ (by rw [List.all_append]; simp [g]))
theorem Sim.notes : ∀ (k : Nat) (r : RdM) (q : RfM) (acc : List NoteM), Sim r q → acc.all noteB = true →
    ((RdM.notes k r acc).1 = (RfM.notes k q acc).1 ∧ Sim (RdM.notes k r acc).2 (RfM.notes k q acc).2 ∧ (RfM.notes k q acc).1.all noteB = true ∧ (RfM.notes k q acc).1.length = acc.length + k) ∨
    ((RdM.notes k r acc).2.failed = true ∧ ((RfM.notes k q acc).2.fail = true ∨ (RfM.notes k q acc).1.all noteB = false))
  | 0, r, q, acc, h, ha => .inl ⟨rfl, h, ha, rfl⟩
  | k + 1, r, q, acc, h, ha => by
    unfold RdM.notes RfM.notes
    rw [if_neg (by rw [h.qok]; simp)]
    rcases h.note with ⟨a1, s1, a2⟩ | ⟨f, g⟩
    · rw [a1]
      have := Sim.notes k r.n4 q.n4 (acc ++ [q.note]) s1 (by rw [List.all_append, ha]; simp [a2])
      rw [List.length_append, List.length_singleton] at this
      rcases this with ⟨b1, b2, b3, b4⟩ | h
      · exact .inl ⟨b1, b2, b3, by omega⟩
      · exact .inr h
    · right
      refine ⟨notes_failed _ _ _ f, ?_⟩
      rcases g with g | g
      · exact .inl (rnotes_failed _ _ _ g)
      · exact .inr (rnotes_bad _ _ _ (by rw [List.all_append]; simp [g]))
theorem done_failed {r : RdM} (h : r.failed = true) : r.done = false := by unfold RdM.done; rw [h]; rfl
theorem refDecode_eq (bs : List Int) (hbs : ∀ d ∈ bs, 0 ≤ d ∧ d < 256) : refDecodeS bs = decodeS bs := by
  have h0 : Sim ⟨bs, 0, false⟩ ⟨bs, false⟩ := ⟨rfl, rfl, Nat.zero_le _, rfl, hbs⟩
  unfold refDecodeS decodeS
  have none_eq : ∀ (x : List SpentM × RdM) (y : List SpentM × RfM), x.2.failed = true → (y.2.fail = true ∨ y.1.all rightIn = false) →
      (match y with
        | (ins, r) => match RfM.notes (r.int 4).1.toNat (r.int 4).2 [] with
          | (outs, r') => if (r'.uint 18446744073709551615).2.fail = true ∨ (r'.uint 18446744073709551615).2.b.length > 0 ∨ rightB ⟨ins, outs, (r'.uint 18446744073709551615).1⟩ = false then none else some (⟨ins, outs, (r'.uint 18446744073709551615).1⟩ : WitM)) =
      (match x with
        | (ins, r) => match RdM.notes (r.int 4).1.toNat (r.int 4).2 [] with
          | (outs, r') => if (r'.uint 18446744069414584320).2.done = true then some (⟨ins, outs, (r'.uint 18446744069414584320).1⟩ : WitM) else none) := by
    rintro ⟨ins, r⟩ ⟨jns, q⟩ hr hq
    simp only at hr hq ⊢
    refine (if_pos ?_).trans (if_neg (by rw [done_failed (uint_failed (notes_failed _ _ _ (int_failed hr _)) _)]; simp)).symm
    rcases hq with hq | hq
    · exact .inl (ruint_failed (rnotes_failed _ _ _ (rint_failed hq _)) _)
    · refine .inr (.inr ?_)
      simp only [rightB, hq, Bool.false_and, Bool.and_false]
  rcases h0.int' 4 with ⟨a1, s1, a2, a3⟩ | ⟨f, g⟩
  · rw [a1] at a2 a3 ⊢
    rcases Sim.spents (RfM.int ⟨bs, false⟩ 4).1.toNat _ _ [] s1 rfl with ⟨b1, s2, b2, b3⟩ | ⟨f, g⟩
    · revert b1 s2 b2 b3
      generalize RdM.spents _ _ _ = x
      generalize RfM.spents _ _ _ = y
      obtain ⟨ins, r⟩ := x
      obtain ⟨jns, q⟩ := y
      intro b1 s2 b2 b3
      simp only at b1 s2 b2 b3 ⊢
      subst b1
      rcases s2.int' 4 with ⟨c1, s3, c2, c3⟩ | ⟨f, g⟩
      · rw [c1] at c2 c3 ⊢
        rcases Sim.notes (q.int 4).1.toNat _ _ [] s3 rfl with ⟨d1, s4, d2, d3⟩ | ⟨f, g⟩
        · revert d1 s4 d2 d3
          generalize RdM.notes _ _ _ = x
          generalize RfM.notes _ _ _ = y
          obtain ⟨outs, r'⟩ := x
          obtain ⟨kuts, q'⟩ := y
          intro d1 s4 d2 d3
          simp only at d1 s4 d2 d3 ⊢
          subst d1
          rcases s4.uint 18446744069414584320 18446744073709551615 (by omega) (.inl (by omega)) with ⟨e1, s5, e2, e3⟩ | ⟨f, g⟩
          · have hr : rightB ⟨ins, outs, (q'.uint 18446744073709551615).1⟩ = true := by
              simp only [rightB, b2, d2, elemB, Bool.and_true]
              rw [← e1, Bool.and_eq_true, decide_eq_true_eq, decide_eq_true_eq]
              simp at b3 d3
              omega
            have hd : (r'.uint 18446744069414584320).2.done = decide ((q'.uint 18446744073709551615).2.b.length = 0) := by
              unfold RdM.done
              rw [s5.rok, s5.same, List.length_drop, Bool.eq_iff_iff]
              have := s5.pos
              simp; omega
            rw [s5.qok, hr, hd, e1]
            by_cases hz : (q'.uint 18446744073709551615).2.b.length = 0
            · rw [if_neg (by simp [hz]), if_pos (decide_eq_true hz)]
            · rw [if_pos (.inr (.inl (by omega))), if_neg (by simp [hz])]
          · refine (if_pos ?_).trans (if_neg (by rw [done_failed f]; simp)).symm
            rcases g with g | g
            · exact .inl g
            · refine .inr (.inr ?_)
              have hd : elemB (q'.uint 18446744073709551615).1 = false := decide_eq_false (by omega)
              simp only [rightB, hd, Bool.false_and, Bool.and_false]
        · revert f g
          generalize RdM.notes _ _ _ = x
          generalize RfM.notes _ _ _ = y
          obtain ⟨outs, r'⟩ := x
          obtain ⟨kuts, q'⟩ := y
          intro f g
          simp only at f g ⊢
          refine (if_pos ?_).trans (if_neg (by rw [done_failed (uint_failed f _)]; simp)).symm
          rcases g with g | g
          · exact .inl (ruint_failed g _)
          · exact .inr (.inr (by simp only [rightB, g, Bool.and_false]))
      · have f2 := notes_failed (r.int 4).1.toNat _ [] f
        have g2 := rnotes_failed (q.int 4).1.toNat _ [] g
        revert f2 g2
        generalize RdM.notes _ _ _ = x
        generalize RfM.notes _ _ _ = y
        obtain ⟨outs, r'⟩ := x
        obtain ⟨kuts, q'⟩ := y
        intro f2 g2
        simp only at f2 g2 ⊢
        exact (if_pos (.inl (ruint_failed g2 _))).trans (if_neg (by rw [done_failed (uint_failed f2 _)]; simp)).symm
    · exact none_eq _ _ f g
  · exact none_eq _ _ (spents_failed _ _ _ f) (.inl (rspents_failed _ _ _ g))
end Go.Proofs.YtgjemeeeignlnaaGreatDoor
/- The reference's reader: take, Value, Uint, Int, List. -/
namespace Go.Proofs.YtgjemeeeignlnaaGreatDoor
open Go.ChangeShapes Go.WideShapes Go.ChangeAt Go.RowKit Go.Sort

theorem sliceR.takeN {α : Type} {r : Rep α} {S : Nat → Prop} {w : World} {a : Option Addr} {len cap : Nat} {xs : List α} (h : (sliceR r).rel S w [.slice a len cap] xs) (n : Nat) (hn : n ≤ xs.length) : (sliceR r).rel S w [.slice a n cap] (xs.take n) := by
  obtain ⟨a', len', cap', hv, h1, h2, h3, h4, h5⟩ := h
  simp at hv
  obtain ⟨rfl, rfl, rfl⟩ := hv
  refine ⟨_, n, _, rfl, by simp; omega, by omega, h3, h4, fun i x hx => ?_⟩
  have hi : i < n := by
    have := (List.getElem?_eq_some_iff.1 hx).1
    simp at this; omega
  rw [List.getElem?_take, if_pos hi] at hx
  exact h5 i x hx
theorem sliceR.dropN {α : Type} {r : Rep α} {S : Nat → Prop} {w : World} {b off len cap : Nat} {xs : List α} (h : (sliceR r).rel S w [.slice (some ⟨b, off, none⟩) len cap] xs) (n : Nat) (hn : n ≤ xs.length) : (sliceR r).rel S w [.slice (some ⟨b, off + n * r.n, none⟩) (len - n) (cap - n)] (xs.drop n) := by
  obtain ⟨a', len', cap', hv, h1, h2, h3, h4, h5⟩ := h
  simp at hv
  obtain ⟨rfl, rfl, rfl⟩ := hv
  refine ⟨_, _, _, rfl, by simp; omega, by omega, by omega, (fun h => by cases h), fun i x hx => ?_⟩
  rw [List.getElem?_drop] at hx
  obtain ⟨b', off', es, ha, hb, hr, hc, hlt⟩ := h5 (n + i) x hx
  simp at ha
  obtain ⟨rfl, rfl⟩ := ha
  refine ⟨_, _, es, rfl, hb, hr, ?_, hlt⟩
  rw [show off + n * r.n + i * r.n = off + (n + i) * r.n by rw [Nat.add_mul]; omega]
  exact hc
theorem bytes_in {S : Nat → Prop} {w : World} {a : Option Addr} {len cap : Nat} {l : List Int} (h : bytesR.rel S w [.slice a len cap] l) : ∀ x ∈ l, 0 ≤ x ∧ x < 256 := by
  intro x hx
  obtain ⟨k, hk, rfl⟩ := List.getElem_of_mem hx
  obtain ⟨b, off, -, -, -, h1, h2, -⟩ := bytes_at h k hk
  exact ⟨h1, h2⟩
theorem pow256 : ∀ k : Fin 9, ((k.val ≤ 4 → (256 : Int) ^ k.val ≤ 4294967296) ∧ (256 : Int) ^ k.val ≤ 18446744073709551616) ∧ (k.val ≤ 7 → (256 : Int) ^ k.val ≤ 72057594037927936) := by decide +kernel
theorem leN_drop (l : List Int) (j : Nat) (h : j < l.length) : leN (l.drop j) = l[j] + 256 * leN (l.drop (j + 1)) := by rw [List.drop_eq_getElem_cons h]; rfl
set_option maxHeartbeats 1000000 in
theorem rvalue_any (S : Nat → Prop) (w : World) (a : Option Addr) (cap : Nat) (l : List Int) (h : bytesR.rel S w [.slice a l.length cap] l) (hl : l.length ≤ 8) :
    Calls Tryz.prog 113 #[.slice a l.length cap] w fun e w' => e = .returned (.int .u64 (leN l)) ∧ w = w' := by
  have H := Lib.hid h
  have HB := Lib.hid (bytes_in h)
  clear h
  go_enter Tryz.func113, Tryz.ntmps113
  go_wp2_with fail
  go_loop [3, 4] (fun vn vi => ∃ k : Nat, k ≤ l.length ∧ vi = .int .i64 ((k : Int) - 1) ∧ vn = .int .u64 (leN (l.drop k))) (fun _ vi => (intOf vi + 1).toNat)
  case atStart => exact ⟨l.length, Nat.le_refl _, by go_num, by rw [List.drop_length]; rfl⟩
  case round =>
    obtain ⟨k, hk, rfl, rfl⟩ := hrel
    by_cases hk0 : k = 0
    · subst hk0
      go_wp2_with fail
      go_ret
      exact ⟨rfl, rfl⟩
    · obtain ⟨j, rfl⟩ : ∃ j, k = j + 1 := ⟨k - 1, by omega⟩
      obtain ⟨b, off, rfl, hbl, -, n0, n1, hc⟩ := bytes_at H.out j (by omega)
      have HS := Lib.hid (leN_drop l j (by omega))
      have hin := leN_in (l.drop (j + 1)) fun d hd => HB.out d (List.mem_of_mem_drop hd)
      have hpw := (pow256 ⟨(l.drop (j + 1)).length, by simp; omega⟩).2 (by simp; omega)
      simp only at hpw
      have v0 := hin.1
      have v1 : leN (l.drop (j + 1)) < 72057594037927936 := by omega
      clear hin hpw
      generalize l[j]'(by omega) = x at *
      generalize leN (l.drop (j + 1)) = m at *
      have i0 : (0 : Int) ≤ (j : Int) := by omega
      have i1 : (j : Int) < (l.length : Int) := by omega
      have e0 : ((j + 1 : Nat) : Int) - 1 = (j : Int) := by omega
      have e1 : IntKind.u64.wrap (m * 256) = m * 256 := by rw [IntKind.wrap_u64]; omega
      have e2 : IntKind.u64.wrap (m * 256 + x) = m * 256 + x := by rw [IntKind.wrap_u64]; omega
      have e3 : IntKind.u64.wrap x = x := by rw [IntKind.wrap_u64]; omega
      rw [e0]
      go_wp2_with fail
      go_round
      case rel => exact ⟨j, by omega, by go_num, by rw [HS.out]; congr 1; omega⟩
      case measure => simp [intOf]

/-- At block p: the reference's reader. -/
def RfAt (p : Nat) (w : World) (r : RfM) : Prop :=
  ∃ a cap, w.heap[p]? = some (.cells #[.slice a r.b.length cap, .bool r.fail] 177 (0, 0)) ∧ bytesR.rel (fun k => k < p) w [.slice a r.b.length cap] r.b ∧ r.b.length ≤ 1000000
theorem RfAt.keep {p : Nat} {w w' : World} {r : RfM} (h : RfAt p w r) (hk : Below w.heap.size w w') : RfAt p w' r := by
  obtain ⟨a, cap, h1, h2, h3⟩ := h
  exact ⟨a, cap, box_after hk h1, bytesR.keepB h2 hk, h3⟩
theorem RfAt.kept {p : Nat} {w w' : World} {r : RfM} (h : RfAt p w r) (hk : Kept (fun k => k ≤ p) w w') : RfAt p w' r := by
  obtain ⟨a, cap, h1, h2, h3⟩ := h
  exact ⟨a, cap, box_kept hk h1 (Nat.le_refl _), bytesR.keep h2 (hk.mono fun k _ h => Nat.le_of_lt h), h3⟩
theorem RfAt.lt {p : Nat} {w : World} {r : RfM} (h : RfAt p w r) : p < w.heap.size := by
  obtain ⟨a, cap, h1, -⟩ := h
  exact box_lt h1
def RfTo (p : Nat) (w : World) (r : RfM) (w' : World) : Prop := RfAt p w' r ∧ Kept (fun k => k ≠ p) w w'
theorem RfTo.next {p : Nat} {w w1 w2 : World} {r r' : RfM} (h : RfTo p w r w1) (k : RfTo p w1 r' w2) : RfTo p w r' w2 := ⟨k.1, kept_next h.2 k.2⟩
theorem RfAt.refl {p : Nat} {w : World} {r : RfM} (h : RfAt p w r) : RfTo p w r w := ⟨h, Kept.refl _ _⟩
theorem RfTo.bad {p : Nat} {w w1 : World} {r : RfM} (h : RfTo p w r w1) : RfTo p w r.bad (w1.setCell ⟨p, 1, none⟩ (.bool true)) := by
  obtain ⟨⟨a, cap, h1, h2, h3⟩, hk⟩ := h
  refine ⟨⟨a, cap, box_set h1, bytesR.keep h2 ((Kept.refl _ _).setCell (fun _ h => by have h' : p < p := h; omega) _), h3⟩, hk.setCell (fun _ h => h rfl) _⟩
theorem RfAt.cut {p : Nat} {w : World} {r : RfM} {b off cap : Nat} (h1 : w.heap[p]? = some (.cells #[.slice (some ⟨b, off, none⟩) r.b.length cap, .bool r.fail] 177 (0, 0))) (h2 : bytesR.rel (fun k => k < p) w [.slice (some ⟨b, off, none⟩) r.b.length cap] r.b) (h3 : r.b.length ≤ 1000000) (hf : r.fail = false) (n : Nat) (hn : n ≤ r.b.length) :
    RfTo p w ⟨r.b.drop n, false⟩ (w.setCell ⟨p, 0, none⟩ (.slice (some ⟨b, off + n, none⟩) (r.b.length - n) (cap - n))) ∧ bytesR.rel (fun k => k < p) (w.setCell ⟨p, 0, none⟩ (.slice (some ⟨b, off + n, none⟩) (r.b.length - n) (cap - n))) [.slice (some ⟨b, off, none⟩) n cap] (r.b.take n) := by
  have hk : Kept (fun k => k < p) w (w.setCell ⟨p, 0, none⟩ (.slice (some ⟨b, off + n, none⟩) (r.b.length - n) (cap - n))) := (Kept.refl _ _).setCell (fun _ h => by have h' : p < p := h; omega) _
  have hd := sliceR.dropN h2 n hn
  have e1 : (intR .u8).n = 1 := rfl
  rw [e1, Nat.mul_one] at hd
  have el : (r.b.drop n).length = r.b.length - n := by simp
  refine ⟨⟨⟨some ⟨b, off + n, none⟩, cap - n, ?_, ?_, ?_⟩, (Kept.refl _ _).setCell (fun _ h => h rfl) _⟩, bytesR.keep (sliceR.takeN h2 n hn) hk⟩
  · have := box_set (i := 0) (v := .slice (some ⟨b, off + n, none⟩) (r.b.length - n) (cap - n)) h1
    rw [hf] at this
    rw [el]
    exact this
  · rw [el]; exact bytesR.keep hd hk
  · rw [el]; omega
theorem RfAt.cut0 {p : Nat} {w : World} {r : RfM} {b off n : Nat} (h1 : w.heap[p]? = some (.cells #[.slice (some ⟨b, off, none⟩) r.b.length n, .bool r.fail] 177 (0, 0))) (h2 : bytesR.rel (fun k => k < p) w [.slice (some ⟨b, off, none⟩) r.b.length n] r.b) (hf : r.fail = false) (hn : n ≤ r.b.length) :
    RfTo p w ⟨r.b.drop n, false⟩ (w.setCell ⟨p, 0, none⟩ (.slice (some ⟨b, off, none⟩) 0 0)) ∧ bytesR.rel (fun k => k < p) (w.setCell ⟨p, 0, none⟩ (.slice (some ⟨b, off, none⟩) 0 0)) [.slice (some ⟨b, off, none⟩) n n] (r.b.take n) := by
  have hk : Kept (fun k => k < p) w (w.setCell ⟨p, 0, none⟩ (.slice (some ⟨b, off, none⟩) 0 0)) := (Kept.refl _ _).setCell (fun _ h => by have h' : p < p := h; omega) _
  have hl := (sliceR.lens h2).2.1
  have el : (r.b.drop n).length = 0 := by simp; omega
  refine ⟨⟨⟨some ⟨b, off, none⟩, 0, ?_, ?_, ?_⟩, (Kept.refl _ _).setCell (fun _ h => h rfl) _⟩, bytesR.keep (sliceR.takeN h2 n hn) hk⟩
  · have := box_set (i := 0) (v := .slice (some ⟨b, off, none⟩) 0 0) h1
    rw [hf] at this
    rw [el]
    exact this
  · refine ⟨_, _, _, rfl, rfl, by show (r.b.drop n).length ≤ 0; omega, by unfold maxLen; omega, (fun h => by cases h), fun i x hx => ?_⟩
    rw [List.eq_nil_of_length_eq_zero el] at hx
    cases hx
  · show (r.b.drop n).length ≤ _; omega
theorem take_len (r : RfM) (n : Nat) : (r.take n).1.length ≤ n := by
  unfold RfM.take
  split
  · exact Nat.zero_le _
  · simp; omega
set_option maxRecDepth 100000 in
set_option maxHeartbeats 1000000 in
theorem rtake_any (w : World) (p : Nat) (r : RfM) (h : RfAt p w r) (n : Nat) (n0 : 0 < n) (n8 : n ≤ 8) :
    Calls Tryz.prog 172 #[.pointer (some ⟨p, 0, none⟩), .int .i64 n] w fun e w' => ∃ a cap, e = .returned (.slice a (r.take n).1.length cap) ∧ bytesR.rel (fun k => k < p) w' [.slice a (r.take n).1.length cap] (r.take n).1 ∧ RfTo p w (r.take n).2 w' := by
  have HH := Lib.hid h
  obtain ⟨a, cap, h1, h2, h3⟩ := h
  obtain ⟨g0, g1, g2, g3⟩ := sliceR.lens h2
  unfold maxLen at g2
  obtain ⟨x0, x1⟩ := box_cells h1
  cases hf : r.fail with
  | true =>
    have HR : Hid (r.take n = ([], r.bad)) := by show _ = _; unfold RfM.take; rw [if_pos (.inl hf)]
    rw [hf] at x0
    have HN := Lib.hid HH.out.refl.bad
    clear h1 h2
    go_enter Tryz.func172, Tryz.ntmps172
    go_wp2_with fail
    go_ret
    rw [HR.out]
    exact ⟨none, 0, rfl, sliceR.nil, HN.out⟩
  | false =>
    rw [hf] at x0
    by_cases hn : r.b.length < n
    · have HR : Hid (r.take n = ([], r.bad)) := by show _ = _; unfold RfM.take; rw [if_pos (.inr hn)]
      have HN := Lib.hid HH.out.refl.bad
      have hni : (r.b.length : Int) < (n : Int) := by omega
      clear h1 h2
      go_enter Tryz.func172, Tryz.ntmps172
      go_wp2_with fail
      go_ret
      rw [HR.out]
      exact ⟨none, 0, rfl, sliceR.nil, HN.out⟩
    · have HR : Hid (r.take n = (r.b.take n, ⟨r.b.drop n, false⟩)) := by show _ = _; unfold RfM.take; rw [if_neg (by rw [hf]; simp; omega)]
      obtain ⟨b, off, rfl, -, -, -, -, -⟩ := bytes_at h2 0 (by omega)
      have HL : Hid ((r.b.take n).length = n) := by show _ = _; simp; omega
      have hni : ¬ (r.b.length : Int) < (n : Int) := by omega
      have hni2 : (n : Int) ≤ (r.b.length : Int) := by omega
      have hnc : (n : Int) ≤ (cap : Int) := by omega
      have hn0 : (0 : Int) ≤ (n : Int) := by omega
      by_cases hcn : cap = n
      · subst hcn
        have HN := Lib.hid (RfAt.cut0 h1 h2 hf (by omega))
        clear h1 h2
        go_enter Tryz.func172, Tryz.ntmps172
        go_wp2_with fail
        go_ret
        rw [HR.out, HL.out]
        exact ⟨_, _, rfl, HN.out.2, HN.out.1⟩
      · have HN := Lib.hid (RfAt.cut h1 h2 h3 hf n (by omega))
        clear h1 h2
        go_enter Tryz.func172, Tryz.ntmps172
        go_wp2_with fail
        go_ret
        rw [HR.out, HL.out]
        exact ⟨_, _, rfl, HN.out.2, HN.out.1⟩
set_option maxRecDepth 100000 in
set_option maxHeartbeats 1000000 in
theorem rfUint_any (w : World) (p : Nat) (r : RfM) (h : RfAt p w r) (most : Int) (m0 : 0 ≤ most) :
    Calls Tryz.prog 104 #[.pointer (some ⟨p, 0, none⟩), .int .u64 most] w fun e w' => e = .returned (.int .u64 (r.uint most).1) ∧ RfTo p w (r.uint most).2 w' ∧ 0 ≤ (r.uint most).1 ∧ (r.uint most).1 ≤ most := by
  have HU : Hid (r.uint most = if (r.take 8).2.fail = true ∨ most < leN (r.take 8).1 then (0, (r.take 8).2.bad) else (leN (r.take 8).1, (r.take 8).2)) := rfl
  have hlen := take_len r 8
  go_enter Tryz.func104, Tryz.ntmps104
  go_wp2_with fail
  refine (rtake_any w p r h 8 (by omega) (by omega)).mono ?_
  rintro e w1 ⟨a, cap, rfl, hbs, ht⟩
  have hin := leN_in (r.take 8).1 (bytes_in hbs)
  have hpw := pow256 ⟨(r.take 8).1.length, by omega⟩
  simp only at hpw
  have HBS := Lib.hid hbs
  have HT := Lib.hid ht
  clear hbs ht h
  generalize r.take 8 = t at *
  have hv1 : leN t.1 < 18446744073709551616 := by have := hpw.1.2; omega
  have hv0 := hin.1
  clear hin hpw
  go_wp2_with fail
  refine (rvalue_any _ w1 a cap t.1 HBS.out (by omega)).mono ?_
  rintro e w2 ⟨rfl, rfl⟩
  generalize leN t.1 = n at *
  obtain ⟨a1, c1, q1, q2, q3⟩ := HT.out.1
  obtain ⟨x0, x1⟩ := box_cells q1
  clear q1 q2 q3
  cases hf : t.2.fail with
  | true =>
    have HR : Hid (r.uint most = (0, t.2.bad)) := by show _ = _; rw [HU.out, if_pos (.inl hf)]
    have HN := Lib.hid (HT.out.bad)
    rw [hf] at x0
    go_wp2_with fail
    go_ret
    rw [HR.out]
    exact ⟨rfl, HN.out, by simp, m0⟩
  | false =>
    rw [hf] at x0
    by_cases hm : most < n
    · have HR : Hid (r.uint most = (0, t.2.bad)) := by show _ = _; rw [HU.out, if_pos (.inr hm)]
      have HN := Lib.hid (HT.out.bad)
      go_wp2_with fail
      go_ret
      rw [HR.out]
      exact ⟨rfl, HN.out, by simp, m0⟩
    · have HR : Hid (r.uint most = (n, t.2)) := by show _ = _; rw [HU.out, if_neg (by rw [hf]; simp; omega)]
      go_wp2_with fail
      go_ret
      rw [HR.out]
      exact ⟨rfl, HT.out, hv0, by show n ≤ most; omega⟩
set_option maxRecDepth 100000 in
set_option maxHeartbeats 1000000 in
theorem rfInt_any (w : World) (p : Nat) (r : RfM) (h : RfAt p w r) (most : Int) (m0 : 0 ≤ most) :
    Calls Tryz.prog 102 #[.pointer (some ⟨p, 0, none⟩), .int .i64 most] w fun e w' => e = .returned (.int .i64 (r.int most).1) ∧ RfTo p w (r.int most).2 w' ∧ 0 ≤ (r.int most).1 ∧ (r.int most).1 ≤ most := by
  have HU : Hid (r.int most = if (r.take 4).2.fail = true ∨ most < leN (r.take 4).1 then (0, (r.take 4).2.bad) else (leN (r.take 4).1, (r.take 4).2)) := rfl
  have hlen := take_len r 4
  go_enter Tryz.func102, Tryz.ntmps102
  go_wp2_with fail
  refine (rtake_any w p r h 4 (by omega) (by omega)).mono ?_
  rintro e w1 ⟨a, cap, rfl, hbs, ht⟩
  have hin := leN_in (r.take 4).1 (bytes_in hbs)
  have hpw := pow256 ⟨(r.take 4).1.length, by omega⟩
  simp only at hpw
  have HBS := Lib.hid hbs
  have HT := Lib.hid ht
  clear hbs ht h
  generalize r.take 4 = t at *
  have hv1 : leN t.1 < 4294967296 := by have := hpw.1.1 (by omega); omega
  have hv0 := hin.1
  clear hin hpw
  go_wp2_with fail
  refine (rvalue_any _ w1 a cap t.1 HBS.out (by omega)).mono ?_
  rintro e w2 ⟨rfl, rfl⟩
  have hw : IntKind.i64.wrap (leN t.1) = leN t.1 := by rw [IntKind.wrap_i64]; omega
  generalize leN t.1 = n at *
  obtain ⟨a1, c1, q1, q2, q3⟩ := HT.out.1
  obtain ⟨x0, x1⟩ := box_cells q1
  clear q1 q2 q3
  cases hf : t.2.fail with
  | true =>
    have HR : Hid (r.int most = (0, t.2.bad)) := by show _ = _; rw [HU.out, if_pos (.inl hf)]
    have HN := Lib.hid (HT.out.bad)
    rw [hf] at x0
    go_wp2_with fail
    go_ret
    rw [HR.out]
    exact ⟨rfl, HN.out, by simp, m0⟩
  | false =>
    rw [hf] at x0
    by_cases hm : most < n
    · have HR : Hid (r.int most = (0, t.2.bad)) := by show _ = _; rw [HU.out, if_pos (.inr hm)]
      have HN := Lib.hid (HT.out.bad)
      go_wp2_with fail
      go_ret
      rw [HR.out]
      exact ⟨rfl, HN.out, by simp, m0⟩
    · have HR : Hid (r.int most = (n, t.2)) := by show _ = _; rw [HU.out, if_neg (by rw [hf]; simp; omega)]
      go_wp2_with fail
      go_ret
      rw [HR.out]
      exact ⟨rfl, HT.out, hv0, by show n ≤ most; omega⟩

set_option maxRecDepth 100000 in
set_option maxHeartbeats 2000000 in
theorem rfList_any (w : World) (p : Nat) (r : RfM) (h : RfAt p w r) (most : Int) (m0 : 0 ≤ most) (m1 : most ≤ 1000) :
    Calls Tryz.prog 105 #[.pointer (some ⟨p, 0, none⟩), .int .i64 most, .int .u64 18446744069414584321] w fun e w' => ∃ a cap, e = .returned (.slice a (r.list most 18446744069414584321).1.length cap) ∧ numsR.rel (fun k => w.heap.size ≤ k) w' [.slice a (r.list most 18446744069414584321).1.length cap] (r.list most 18446744069414584321).1 ∧ RfTo p w (r.list most 18446744069414584321).2 w' := by
  have HU : Hid (r.list most 18446744069414584321 = if (r.int most).2.fail = true ∨ ((r.int most).2.b.length : Int) / 8 < (r.int most).1 then ([], (r.int most).2.bad) else RfM.many 18446744069414584321 (r.int most).1.toNat (r.int most).2 []) := rfl
  have hpl := h.lt
  go_enter Tryz.func105, Tryz.ntmps105
  go_wp2_with fail
  refine (rfInt_any w p r h most m0).mono ?_
  rintro e w1 ⟨rfl, h1, n0, n1⟩
  have HT := Lib.hid h1
  obtain ⟨N, hN⟩ := Int.eq_ofNat_of_zero_le n0
  rw [hN] at n1 HU ⊢
  generalize (r.int most).2 = t at *
  clear h1 hN n0 h
  obtain ⟨a1, c1, q1, q2, q3⟩ := HT.out.1
  obtain ⟨x0, x1⟩ := box_cells q1
  clear q1 q2
  cases hf : t.fail with
  | true =>
    have HR : Hid (r.list most 18446744069414584321 = ([], t.bad)) := by show _ = _; rw [HU.out, if_pos (.inl hf)]
    have HN := Lib.hid (HT.out.bad)
    rw [hf] at x0
    go_wp2_with fail
    go_ret
    rw [HR.out]
    exact ⟨none, 0, rfl, sliceR.nil, HN.out⟩
  | false =>
    rw [hf] at x0
    by_cases hm : (t.b.length : Int) / 8 < (N : Int)
    · have HR : Hid (r.list most 18446744069414584321 = ([], t.bad)) := by show _ = _; rw [HU.out, if_pos (.inr hm)]
      have HN := Lib.hid (HT.out.bad)
      go_wp2_with fail
      go_ret
      rw [HR.out]
      exact ⟨none, 0, rfl, sliceR.nil, HN.out⟩
    · have HR : Hid (r.list most 18446744069414584321 = RfM.many 18446744069414584321 N t []) := by show _ = _; rw [HU.out, if_neg (by rw [hf]; simp; omega), Int.toNat_natCast]
      clear HU
      go_wp2_with fail
      clear x0 x1
      go_loopw [8, 9] (fun vo vi wr => ∃ (k : Nat) (q : RfM) (acc : List Int), k ≤ N ∧ vi = .int .i64 k ∧ acc.length = k ∧ RfTo p w q wr ∧ Own u64R w.heap.size 24 (fun x => False ∨ w.heap.size ≤ x) wr vo acc ∧ Hid (RfM.many 18446744069414584321 (N - k) q acc = RfM.many 18446744069414584321 N t [])) (fun _ vi _ => N - (intOf vi).toNat)
      case atStart => exact ⟨0, t, [], Nat.zero_le _, rfl, rfl, HT.out, Own.nil _ _ _ _ _, rfl⟩
      case round =>
        obtain ⟨k, q, acc, hk, rfl, hal, hto, hown, hinv⟩ := hrel
        have HTO := Lib.hid hto
        have HOW := Lib.hid hown
        clear hto hown
        by_cases hks : k < N
        · obtain ⟨j, hj⟩ : ∃ j, N - k = j + 1 := ⟨N - k - 1, by omega⟩
          have hj2 : Hid (N - (k + 1) = j) := by show _ = _; omega
          rw [hj] at hinv
          clear hj
          have hki : (k : Int) < (N : Int) := by omega
          have HI : Hid ((if (18446744069414584321 : Int) ≤ leN (q.take 8).1 then ([], (q.take 8).2.bad) else RfM.many 18446744069414584321 j (q.take 8).2 (acc ++ [leN (q.take 8).1])) = RfM.many 18446744069414584321 N t []) := hinv
          clear hinv
          have hlen := take_len q 8
          go_wp2_with fail
          refine (rtake_any wr p q HTO.out.1 8 (by omega) (by omega)).mono ?_
          rintro e w2 ⟨a, cap, rfl, hbs, ht⟩
          have hin := leN_in (q.take 8).1 (bytes_in hbs)
          have hpw := pow256 ⟨(q.take 8).1.length, by omega⟩
          simp only at hpw
          have HBS := Lib.hid hbs
          have HT2 := Lib.hid (HTO.out.next ht)
          have HO2 := Lib.hid (HOW.out.keep (ht.2.mono fun k _ h => by rcases h with h | h; exact h.elim; omega))
          clear hbs ht
          generalize q.take 8 = u at *
          have hv1 : leN u.1 < 18446744073709551616 := by have := hpw.1.2; omega
          have hv0 := hin.1
          clear hin hpw
          go_wp2_with fail
          refine (rvalue_any _ w2 a cap u.1 HBS.out (by omega)).mono ?_
          rintro e w3 ⟨rfl, rfl⟩
          generalize leN u.1 = n at *
          by_cases hp : (18446744069414584321 : Int) ≤ n
          · have HF : Hid (r.list most 18446744069414584321 = ([], u.2.bad)) := by show _ = _; rw [HR.out, ← HI.out, if_pos hp]
            have HN := Lib.hid (HT2.out.bad)
            obtain ⟨a2, c2, q1, -, -⟩ := HT2.out.1
            obtain ⟨x0, x1⟩ := box_cells q1
            clear q1
            go_wp2_with fail
            go_ret
            rw [HF.out]
            exact ⟨none, 0, rfl, sliceR.nil, HN.out⟩
          · have HI2 : Hid (RfM.many 18446744069414584321 j u.2 (acc ++ [n]) = RfM.many 18446744069414584321 N t []) := by show _ = _; rw [← HI.out, if_neg hp]
            have HY : Hid (u64R.rel (fun _ => False) w2 [.int .u64 n] n) := ⟨rfl, okU_of hv0 hv1⟩
            have hsz : w.heap.size ≤ w2.heap.size := HT2.out.2.size
            go_wp2_with (at_builtin; refine wpList_push (r := u64R) (wr := w2) (es := [.int .u64 n]) (w0 := w2) (B := w.heap.size) rfl _ _ rfl Tryz.etyNums rfl rfl (Below.refl _ _) hsz HO2.out HY.out (fun x hx => hx.elim) (by unfold maxLen; omega) (by omega) ?_)
            intro v2 w5 ho5 hb5
            have hk5 : Kept (fun k => k < w.heap.size) w2 w5 := ⟨hb5.os, hb5.tape, hb5.output, hb5.size, fun i _ hi => hb5.block i hi⟩
            have HT5 : Hid (RfTo p w u.2 w5) := ⟨HT2.out.1.kept (hk5.mono fun k _ h => by omega), HT2.out.2.trans hk5 fun i hi _ => hi⟩
            have HO5 := Lib.hid (Own.mono ho5 (F' := fun x => False ∨ w.heap.size ≤ x) fun x _ h => by first | exact h | exact .inr h)
            clear ho5 hb5 hk5
            go_wp2_with fail
            go_roundw
            case rel => exact ⟨k + 1, u.2, acc ++ [n], by omega, by go_num, by simp; omega, HT5.out, HO5.out, by rw [hj2.out]; exact HI2⟩
            case measure => simp [intOf]; omega
        · obtain rfl : k = N := by omega
          rw [Nat.sub_self] at hinv
          have HF : Hid (r.list most 18446744069414584321 = (acc, q)) := by show _ = _; rw [HR.out, ← hinv.out]; rfl
          obtain ⟨a2, c2, rfl, -, -⟩ := sliceR.form HOW.out.slice
          have HS := Lib.hid (numsR.mono HOW.out.slice (S' := fun k => w.heap.size ≤ k) fun x _ h => h.resolve_left id)
          clear HOW
          go_wp2_with fail
          go_ret
          rw [HF.out]
          exact ⟨a2, c2, rfl, HS.out, HTO.out⟩
end Go.Proofs.YtgjemeeeignlnaaGreatDoor
/- The reference's relation: one spent note, what is right of it, sums. -/
namespace Go.Proofs.YtgjemeeeignlnaaGreatDoor
open Go.ChangeShapes Go.WideShapes Go.ChangeAt Go.RowKit Go.Sort

theorem insB_mark {D : Nat} {i : SpentM} (h : insB D i = true) : markK i.key i.note.rho = true := by
  unfold insB spendableB noteB at h
  simp only [Bool.and_eq_true, decide_eq_true_eq] at h
  obtain ⟨⟨h1, h2, -⟩, -⟩ := h
  have h3 : i.key < 18446744069414584321 := by simpa [elemsB, allUp, elemB] using h2
  exact decide_eq_true ⟨h3, h1.2.2.1⟩
set_option maxRecDepth 100000 in
set_option maxHeartbeats 4000000 in
theorem rspent_any (S : Nat → Prop) (w : World) (anchor pub : Int) (i : SpentM) (hok : SpentOk i) (pa : Option Addr) (pc : Nat) (hpa : numsR.rel S w [.slice pa i.path.length pc] i.path)
    (h1 : i.path.length ≤ 12) (h2 : 0 ≤ i.position) (h3 : i.position ≤ 4095) (hmk : markK i.key i.note.rho = true) :
    Calls Tryz.prog 108 #[.agg #[.bool false, .int .u64 0, .int .i64 0, .slice none 0 0, .slice none 0 0, .slice none 0 0], .int .u64 anchor, .int .u64 pub, .agg #[.int .u64 i.note.value, .int .u64 i.note.owner, .int .u64 i.note.rho, .int .u64 i.note.blind, .int .u64 i.key, .int .i64 i.number, .int .i64 i.position, .slice pa i.path.length pc, .bool i.dummy]] w fun e w' => e = .returned (.int .i64 (checkInE anchor i pub)) ∧ Below w.heap.size w w' := by
  have hbB := (bnew (bnew (Below.refl w.heap.size w) (.cells #[.bool false, .int .u64 0, .int .i64 0, .slice none 0 0, .slice none 0 0, .slice none 0 0] 44)) (.cells #[.int .u64 i.note.value, .int .u64 i.note.owner, .int .u64 i.note.rho, .int .u64 i.note.blind, .int .u64 i.key, .int .i64 i.number, .int .i64 i.position, .slice pa i.path.length pc, .bool i.dummy] 166))
  have HA0 := Lib.hid (two_new w (.cells #[.bool false, .int .u64 0, .int .i64 0, .slice none 0 0, .slice none 0 0, .slice none 0 0] 44) (.cells #[.int .u64 i.note.value, .int .u64 i.note.owner, .int .u64 i.note.rho, .int .u64 i.note.blind, .int .u64 i.key, .int .i64 i.number, .int .i64 i.position, .slice pa i.path.length pc, .bool i.dummy] 166)).2
  have HA1 := Lib.hid (two_new w (.cells #[.bool false, .int .u64 0, .int .i64 0, .slice none 0 0, .slice none 0 0, .slice none 0 0] 44) (.cells #[.int .u64 i.note.value, .int .u64 i.note.owner, .int .u64 i.note.rho, .int .u64 i.note.blind, .int .u64 i.key, .int .i64 i.number, .int .i64 i.position, .slice pa i.path.length pc, .bool i.dummy] 166)).1
  have HBel := Lib.hid hbB
  have HP := Lib.hid (numsR.keepB hpa hbB)
  have HOK := Lib.hid hok
  have HU : Hid (checkInE anchor i pub = if i.note.owner = ownerS i.key i.number then (if markK i.key i.note.rho = true ∧ markV i.key i.note.rho = pub then (if i.dummy = true then (if i.note.value = 0 then 0 else 13) else (if noteB i.note = true ∧ climbS (commitV i.note) i.position i.path = anchor then 0 else 11)) else 12) else 21) := rfl
  have HMK := Lib.hid hmk
  clear hbB hpa hok hmk
  go_enter Tryz.func108, Tryz.ntmps108
  go_wp2_with fail
  generalize (w.alloc (.cells #[.bool false, .int .u64 0, .int .i64 0, .slice none 0 0, .slice none 0 0, .slice none 0 0] 44)).alloc (.cells #[.int .u64 i.note.value, .int .u64 i.note.owner, .int .u64 i.note.rho, .int .u64 i.note.blind, .int .u64 i.key, .int .i64 i.number, .int .i64 i.position, .slice pa i.path.length pc, .bool i.dummy] 166) = W at *
  have xq := box_regrown HA1.out
  refine wp_region_quiet_below (by kernel_rfl) (by kernel_rfl) ?_
  repeat (first | go_big_quiet_step (exact Calls.regrown_of (rowner_any _ i.key i.number HOK.out.key)) | quiet_step (exact Calls.regrown_of (rowner_any _ i.key i.number HOK.out.key)))
  refine wpQuiet_nil ?_
  intro w1 hw'
  obtain ⟨⟨dq, osq⟩, hw''⟩ := hw'
  have hbw1 := below_regrown W dq osq
  rw [← hw''] at hbw1
  clear hw'' xq
  obtain ⟨x0, x1⟩ := box_cells (box_after hbw1 HA1.out)
  obtain ⟨y0, y1⟩ := box_cells (box_after hbw1 HA0.out)
  by_cases hown : i.note.owner = ownerS i.key i.number
  · have hb : (i.note.owner == ownerS i.key i.number) = true := by rw [beq_iff_eq]; exact hown
    have hb' : (i.note.owner != ownerS i.key i.number) = false := by rw [bne_eq_false_iff_eq]; exact hown
    have HU2 : Hid (checkInE anchor i pub = if markV i.key i.note.rho = pub then (if i.dummy = true then (if i.note.value = 0 then 0 else 13) else (if noteB i.note = true ∧ climbS (commitV i.note) i.position i.path = anchor then 0 else 11)) else 12) := by
      show _ = _
      rw [HU.out, if_pos hown, HMK.out]; simp
    clear hown HU
    generalize ownerS i.key i.number = ow at *
    go_wp2_with fail
    refine (rMarked_any w1 i.key i.note.rho HOK.out.key HOK.out.note.rho).mono ?_
    rintro e w2 ⟨rfl, hb2⟩
    have hbk := bnext hbw1 hb2
    clear x0 x1 y0 y1 hb2
    obtain ⟨x0, x1⟩ := box_cells (box_after hbk HA1.out)
    obtain ⟨y0, y1⟩ := box_cells (box_after hbk HA0.out)
    by_cases hmv : markV i.key i.note.rho = pub
    · have c1 : (markV i.key i.note.rho == pub) = true := by rw [beq_iff_eq]; exact hmv
      have c1' : (markV i.key i.note.rho != pub) = false := by rw [bne_eq_false_iff_eq]; exact hmv
      have HU3 : Hid (checkInE anchor i pub = if i.dummy = true then (if i.note.value = 0 then 0 else 13) else (if noteB i.note = true ∧ climbS (commitV i.note) i.position i.path = anchor then 0 else 11)) := by show _ = _; rw [HU2.out, if_pos hmv]
      clear HU2 hmv
      generalize markV i.key i.note.rho = mv at *
      cases hdm : i.dummy with
      | true =>
        rw [hdm] at x0
        by_cases hvz : i.note.value = 0
        · have c2 : (i.note.value == 0) = true := by rw [beq_iff_eq]; exact hvz
          have c2' : (i.note.value != 0) = false := by rw [bne_eq_false_iff_eq]; exact hvz
          have HF : Hid (checkInE anchor i pub = 0) := by show _ = _; rw [HU3.out, if_pos hdm, if_pos hvz]
          clear hvz
          go_wp2_with fail
          go_ret
          exact ⟨ret_int HF.out.symm, bnext HBel.out hbk⟩
        · have c2 : (i.note.value == 0) = false := by rw [beq_eq_false_iff_ne]; exact hvz
          have c2' : (i.note.value != 0) = true := by rw [bne_iff_ne]; exact hvz
          have HF : Hid (checkInE anchor i pub = 13) := by show _ = _; rw [HU3.out, if_pos hdm, if_neg hvz]
          clear hvz
          go_wp2_with fail
          go_ret
          exact ⟨ret_int HF.out.symm, bnext HBel.out hbk⟩
      | false =>
        rw [hdm] at x0
        have HU4 : Hid (checkInE anchor i pub = if noteB i.note = true ∧ climbS (commitV i.note) i.position i.path = anchor then 0 else 11) := by show _ = _; rw [HU3.out, if_neg (by rw [hdm]; simp)]
        go_wp2_with fail
        refine (rCommitment_any w2 i.note HOK.out.note).mono ?_
        rintro e w3 ⟨rfl, hb3⟩
        have hbk3 := bnext hbk hb3
        clear x0 x1 y0 y1 hb3
        obtain ⟨x0, x1⟩ := box_cells (box_after hbk3 HA1.out)
        rw [hdm] at x0
        cases hnb : noteB i.note with
        | false =>
          have HF : Hid (checkInE anchor i pub = 11) := by show _ = _; rw [HU4.out, if_neg (fun h => by rw [hnb] at h; cases h.1)]
          go_wp2_with fail
          go_ret
          exact ⟨ret_int HF.out.symm, bnext HBel.out hbk3⟩
        | true =>
          go_wp2_with fail
          refine (rclimb_any S w3 (commitV i.note) i.position (commitV_ok _) pa pc i.path (numsR.keepB HP.out hbk3) h1 h2 h3).mono ?_
          rintro e w4 ⟨rfl, hb4⟩
          have hfin := bnext HBel.out (bnext hbk3 hb4)
          by_cases hcm : climbS (commitV i.note) i.position i.path = anchor
          · have c3 : (climbS (commitV i.note) i.position i.path == anchor) = true := by rw [beq_iff_eq]; exact hcm
            have c3' : (climbS (commitV i.note) i.position i.path != anchor) = false := by rw [bne_eq_false_iff_eq]; exact hcm
            have HF : Hid (checkInE anchor i pub = 0) := by show _ = _; rw [HU4.out, if_pos ⟨hnb, hcm⟩]
            clear hcm HU4 HU3
            generalize climbS (commitV i.note) i.position i.path = cl at *
            go_wp2_with fail
            go_ret
            exact ⟨ret_int HF.out.symm, hfin⟩
          · have c3 : (climbS (commitV i.note) i.position i.path == anchor) = false := by rw [beq_eq_false_iff_ne]; exact hcm
            have c3' : (climbS (commitV i.note) i.position i.path != anchor) = true := by rw [bne_iff_ne]; exact hcm
            have HF : Hid (checkInE anchor i pub = 11) := by show _ = _; rw [HU4.out, if_neg (fun h => hcm h.2)]
            clear hcm HU4 HU3
            generalize climbS (commitV i.note) i.position i.path = cl at *
            go_wp2_with fail
            go_ret
            exact ⟨ret_int HF.out.symm, hfin⟩
    · have c1 : (markV i.key i.note.rho == pub) = false := by rw [beq_eq_false_iff_ne]; exact hmv
      have c1' : (markV i.key i.note.rho != pub) = true := by rw [bne_iff_ne]; exact hmv
      have HF : Hid (checkInE anchor i pub = 12) := by show _ = _; rw [HU2.out, if_neg hmv]
      clear HU2 hmv
      generalize markV i.key i.note.rho = mv at *
      go_wp2_with fail
      go_ret
      exact ⟨ret_int HF.out.symm, bnext HBel.out hbk⟩
  · have hb : (i.note.owner == ownerS i.key i.number) = false := by rw [beq_eq_false_iff_ne]; exact hown
    have hb' : (i.note.owner != ownerS i.key i.number) = true := by rw [bne_iff_ne]; exact hown
    have HF : Hid (checkInE anchor i pub = 21) := by show _ = _; rw [HU.out, if_neg hown]
    clear hown HU
    generalize ownerS i.key i.number = ow at *
    go_wp2_with fail
    go_ret
    exact ⟨ret_int HF.out.symm, bnext HBel.out hbw1⟩
theorem insB_eq (D : Nat) (i : SpentM) (hD : (2 : Int) ^ D ≤ 4096) (hd : D ≤ 12) : insB D i = (noteB i.note && (elemB i.key && (decide (0 ≤ i.number) && (decide (i.number < 4) && (decide (i.path.length = D) && (elemsB i.path && (decide (0 ≤ i.position) && decide (i.position < 2 ^ D)))))))) := by
  have he : elemsB [i.key] = elemB i.key := by simp [elemsB, allUp]
  unfold insB spendableB
  rw [he, Bool.eq_iff_iff]
  simp only [Bool.and_eq_true, decide_eq_true_eq]
  constructor
  · rintro ⟨⟨a, b, c, d⟩, e, f⟩
    exact ⟨a, b, c.1, c.2.1, e, d, c.2.2.1, f⟩
  · rintro ⟨a, b, c, d, e, f, g, h⟩
    exact ⟨⟨a, b, ⟨c, d, g, by omega, by omega⟩, f⟩, e, h⟩
set_option maxRecDepth 100000 in
set_option maxHeartbeats 8000000 in
theorem rinput_any (S : Nat → Prop) (w : World) (i : SpentM) (hok : SpentOk i) (pa : Option Addr) (pc : Nat) (hpa : numsR.rel S w [.slice pa i.path.length pc] i.path) (D : Nat) (hD1 : D ≤ 12) :
    Calls Tryz.prog 174 #[.agg #[.int .u64 i.note.value, .int .u64 i.note.owner, .int .u64 i.note.rho, .int .u64 i.note.blind, .int .u64 i.key, .int .i64 i.number, .int .i64 i.position, .slice pa i.path.length pc, .bool i.dummy], .int .i64 D] w fun e w' => e = .returned (.bool (insB D i)) ∧ Below w.heap.size w w' := by
  have hbB := (bnew (Below.refl w.heap.size w) (.cells #[.int .u64 i.note.value, .int .u64 i.note.owner, .int .u64 i.note.rho, .int .u64 i.note.blind, .int .u64 i.key, .int .i64 i.number, .int .i64 i.position, .slice pa i.path.length pc, .bool i.dummy] 166))
  have HA0 := Lib.hid (box_new w (.cells #[.int .u64 i.note.value, .int .u64 i.note.owner, .int .u64 i.note.rho, .int .u64 i.note.blind, .int .u64 i.key, .int .i64 i.number, .int .i64 i.position, .slice pa i.path.length pc, .bool i.dummy] 166))
  have HBel := Lib.hid hbB
  have HP := Lib.hid (numsR.keepB hpa hbB)
  have HOK := Lib.hid hok
  obtain ⟨e1, e2, e3⟩ := pow12 ⟨D, by omega⟩
  simp only at e1 e2 e3
  have HU := Lib.hid (insB_eq D i e3 hD1)
  generalize hP2 : (2 : Int) ^ D = P2 at *
  clear hbB hpa hok
  have hE0 : ∀ (d : Nat) (os : Array Obj), Calls Tryz.prog 176 #[.slice pa i.path.length pc] (grow (redrawn (w.alloc (.cells #[.int .u64 i.note.value, .int .u64 i.note.owner, .int .u64 i.note.rho, .int .u64 i.note.blind, .int .u64 i.key, .int .i64 i.number, .int .i64 i.position, .slice pa i.path.length pc, .bool i.dummy] 166)) d) os) fun e w' => e = .returned (.bool (elemsB i.path)) ∧ Below (grow (redrawn (w.alloc (.cells #[.int .u64 i.note.value, .int .u64 i.note.owner, .int .u64 i.note.rho, .int .u64 i.note.blind, .int .u64 i.key, .int .i64 i.number, .int .i64 i.position, .slice pa i.path.length pc, .bool i.dummy] 166)) d) os).heap.size (grow (redrawn (w.alloc (.cells #[.int .u64 i.note.value, .int .u64 i.note.owner, .int .u64 i.note.rho, .int .u64 i.note.blind, .int .u64 i.key, .int .i64 i.number, .int .i64 i.position, .slice pa i.path.length pc, .bool i.dummy] 166)) d) os) w' := fun d os =>
    relements_any S _ pa pc i.path (numsR.keepB HP.out (below_regrown _ d os))
  have hN0 : ∀ w0 : World, Calls Tryz.prog 180 #[.agg #[.int .u64 i.note.value, .int .u64 i.note.owner, .int .u64 i.note.rho, .int .u64 i.note.blind]] w0 fun e w' => e = .returned (.bool (noteB i.note)) ∧ Below w0.heap.size w0 w' := fun w0 => rnoteValid_any w0 i.note HOK.out.note
  have hK0 : ∀ w0 : World, Calls Tryz.prog 173 #[.int .u64 i.key] w0 fun e w' => e = .returned (.bool (elemB i.key)) ∧ Below w0.heap.size w0 w' := fun w0 => relement_any w0 i.key
  go_enter Tryz.func174, Tryz.ntmps174
  go_wp2_with fail
  generalize w.alloc (.cells #[.int .u64 i.note.value, .int .u64 i.note.owner, .int .u64 i.note.rho, .int .u64 i.note.blind, .int .u64 i.key, .int .i64 i.number, .int .i64 i.position, .slice pa i.path.length pc, .bool i.dummy] 166) = W at *
  cases hv : noteB i.note with
  | false =>
    have hN := hN0
    have hK := hK0
    have hE := hE0
    rw [hv] at hN
    clear hN0 hK0 hE0
    have HF : Hid (insB D i = false) := by show _ = _; rw [HU.out]; rw [hv]; rfl
    have xq := box_regrown HA0.out
    refine wp_region_quiet_below (by kernel_rfl) (by kernel_rfl) ?_
    repeat (first | go_big_quiet_step (first | exact Calls.regrown_of (hN _) | exact Calls.regrown_of (hK _) | exact Calls.regrown_of (hE _ _)) | quiet_step (first | exact Calls.regrown_of (hN _) | exact Calls.regrown_of (hK _) | exact Calls.regrown_of (hE _ _)))
    refine wpQuiet_nil ?_
    intro w1 hw'
    obtain ⟨⟨dq, osq⟩, hw''⟩ := hw'
    have hbw1 := below_regrown W dq osq
    rw [← hw''] at hbw1
    clear hw'' xq
    go_wp2_with fail
    go_ret
    exact ⟨ret_bool HF.out.symm, bnext HBel.out hbw1⟩
  | true =>
    cases hk : elemB i.key with
    | false =>
      have hN := hN0
      have hK := hK0
      have hE := hE0
      rw [hv] at hN
      rw [hk] at hK
      clear hN0 hK0 hE0
      have HF : Hid (insB D i = false) := by show _ = _; rw [HU.out]; rw [hv, hk]; rfl
      have xq := box_regrown HA0.out
      refine wp_region_quiet_below (by kernel_rfl) (by kernel_rfl) ?_
      repeat (first | go_big_quiet_step (first | exact Calls.regrown_of (hN _) | exact Calls.regrown_of (hK _) | exact Calls.regrown_of (hE _ _)) | quiet_step (first | exact Calls.regrown_of (hN _) | exact Calls.regrown_of (hK _) | exact Calls.regrown_of (hE _ _)))
      refine wpQuiet_nil ?_
      intro w1 hw'
      obtain ⟨⟨dq, osq⟩, hw''⟩ := hw'
      have hbw1 := below_regrown W dq osq
      rw [← hw''] at hbw1
      clear hw'' xq
      go_wp2_with fail
      go_ret
      exact ⟨ret_bool HF.out.symm, bnext HBel.out hbw1⟩
    | true =>
      have hN := hN0
      have hK := hK0
      rw [hv] at hN
      rw [hk] at hK
      clear hN0 hK0
      have HV := Lib.hid hv
      have HK := Lib.hid hk
      clear hv hk
      by_cases d1 : 0 ≤ i.number
      · by_cases d2 : i.number < 4
        · by_cases d3 : i.path.length = D
          · have d3b : ((i.path.length : Int) == (D : Int)) = true := by rw [beq_iff_eq]; omega
            have HD3 := Lib.hid d3
            clear d3
            cases hp : elemsB i.path with
            | false =>
              have hE := hE0
              rw [hp] at hE
              clear hE0
              have HF : Hid (insB D i = false) := by show _ = _; rw [HU.out]; rw [HV.out, HK.out, hp, Bool.false_and]; simp
              have xq := box_regrown HA0.out
              refine wp_region_quiet_below (by kernel_rfl) (by kernel_rfl) ?_
              repeat (first | go_big_quiet_step (first | exact Calls.regrown_of (hN _) | exact Calls.regrown_of (hK _) | exact Calls.regrown_of (hE _ _)) | quiet_step (first | exact Calls.regrown_of (hN _) | exact Calls.regrown_of (hK _) | exact Calls.regrown_of (hE _ _)))
              refine wpQuiet_nil ?_
              intro w1 hw'
              obtain ⟨⟨dq, osq⟩, hw''⟩ := hw'
              have hbw1 := below_regrown W dq osq
              rw [← hw''] at hbw1
              clear hw'' xq
              go_wp2_with fail
              go_ret
              exact ⟨ret_bool HF.out.symm, bnext HBel.out hbw1⟩
            | true =>
              have hE := hE0
              rw [hp] at hE
              clear hE0
              by_cases d4 : 0 ≤ i.position
              · have HF : Hid (insB D i = decide (i.position < P2)) := by show _ = _; rw [HU.out, HV.out, HK.out, hp, decide_eq_true d1, decide_eq_true d2, decide_eq_true HD3.out, decide_eq_true d4]; simp
                clear hp
                by_cases d5 : i.position < P2
                · rw [decide_eq_true d5] at HF
                  have xq := box_regrown HA0.out
                  refine wp_region_quiet_below (by kernel_rfl) (by kernel_rfl) ?_
                  repeat (first | go_big_quiet_step (first | exact Calls.regrown_of (hN _) | exact Calls.regrown_of (hK _) | exact Calls.regrown_of (hE _ _)) | quiet_step (first | exact Calls.regrown_of (hN _) | exact Calls.regrown_of (hK _) | exact Calls.regrown_of (hE _ _)))
                  refine wpQuiet_nil ?_
                  intro w1 hw'
                  obtain ⟨⟨dq, osq⟩, hw''⟩ := hw'
                  have hbw1 := below_regrown W dq osq
                  rw [← hw''] at hbw1
                  clear hw'' xq
                  go_wp2_with fail
                  go_ret
                  exact ⟨ret_bool HF.out.symm, bnext HBel.out hbw1⟩
                · rw [decide_eq_false d5] at HF
                  have xq := box_regrown HA0.out
                  refine wp_region_quiet_below (by kernel_rfl) (by kernel_rfl) ?_
                  repeat (first | go_big_quiet_step (first | exact Calls.regrown_of (hN _) | exact Calls.regrown_of (hK _) | exact Calls.regrown_of (hE _ _)) | quiet_step (first | exact Calls.regrown_of (hN _) | exact Calls.regrown_of (hK _) | exact Calls.regrown_of (hE _ _)))
                  refine wpQuiet_nil ?_
                  intro w1 hw'
                  obtain ⟨⟨dq, osq⟩, hw''⟩ := hw'
                  have hbw1 := below_regrown W dq osq
                  rw [← hw''] at hbw1
                  clear hw'' xq
                  go_wp2_with fail
                  go_ret
                  exact ⟨ret_bool HF.out.symm, bnext HBel.out hbw1⟩
              · clear hp
                have HF : Hid (insB D i = false) := by show _ = _; rw [HU.out]; rw [decide_eq_false d4, Bool.false_and]; simp
                have xq := box_regrown HA0.out
                refine wp_region_quiet_below (by kernel_rfl) (by kernel_rfl) ?_
                repeat (first | go_big_quiet_step (first | exact Calls.regrown_of (hN _) | exact Calls.regrown_of (hK _) | exact Calls.regrown_of (hE _ _)) | quiet_step (first | exact Calls.regrown_of (hN _) | exact Calls.regrown_of (hK _) | exact Calls.regrown_of (hE _ _)))
                refine wpQuiet_nil ?_
                intro w1 hw'
                obtain ⟨⟨dq, osq⟩, hw''⟩ := hw'
                have hbw1 := below_regrown W dq osq
                rw [← hw''] at hbw1
                clear hw'' xq
                go_wp2_with fail
                go_ret
                exact ⟨ret_bool HF.out.symm, bnext HBel.out hbw1⟩
          · have d3b : ((i.path.length : Int) == (D : Int)) = false := by rw [beq_eq_false_iff_ne]; omega
            have HD3 := Lib.hid d3
            clear d3
            have hE := hE0
            clear hE0
            have HF : Hid (insB D i = false) := by show _ = _; rw [HU.out]; rw [decide_eq_false HD3.out, Bool.false_and]; simp
            have xq := box_regrown HA0.out
            refine wp_region_quiet_below (by kernel_rfl) (by kernel_rfl) ?_
            repeat (first | go_big_quiet_step (first | exact Calls.regrown_of (hN _) | exact Calls.regrown_of (hK _) | exact Calls.regrown_of (hE _ _)) | quiet_step (first | exact Calls.regrown_of (hN _) | exact Calls.regrown_of (hK _) | exact Calls.regrown_of (hE _ _)))
            refine wpQuiet_nil ?_
            intro w1 hw'
            obtain ⟨⟨dq, osq⟩, hw''⟩ := hw'
            have hbw1 := below_regrown W dq osq
            rw [← hw''] at hbw1
            clear hw'' xq
            go_wp2_with fail
            go_ret
            exact ⟨ret_bool HF.out.symm, bnext HBel.out hbw1⟩
        · have hE := hE0
          clear hE0
          have HF : Hid (insB D i = false) := by show _ = _; rw [HU.out]; rw [decide_eq_false d2, Bool.false_and]; simp
          have xq := box_regrown HA0.out
          refine wp_region_quiet_below (by kernel_rfl) (by kernel_rfl) ?_
          repeat (first | go_big_quiet_step (first | exact Calls.regrown_of (hN _) | exact Calls.regrown_of (hK _) | exact Calls.regrown_of (hE _ _)) | quiet_step (first | exact Calls.regrown_of (hN _) | exact Calls.regrown_of (hK _) | exact Calls.regrown_of (hE _ _)))
          refine wpQuiet_nil ?_
          intro w1 hw'
          obtain ⟨⟨dq, osq⟩, hw''⟩ := hw'
          have hbw1 := below_regrown W dq osq
          rw [← hw''] at hbw1
          clear hw'' xq
          go_wp2_with fail
          go_ret
          exact ⟨ret_bool HF.out.symm, bnext HBel.out hbw1⟩
      · have hE := hE0
        clear hE0
        have HF : Hid (insB D i = false) := by show _ = _; rw [HU.out]; rw [decide_eq_false d1, Bool.false_and]; simp
        have xq := box_regrown HA0.out
        refine wp_region_quiet_below (by kernel_rfl) (by kernel_rfl) ?_
        repeat (first | go_big_quiet_step (first | exact Calls.regrown_of (hN _) | exact Calls.regrown_of (hK _) | exact Calls.regrown_of (hE _ _)) | quiet_step (first | exact Calls.regrown_of (hN _) | exact Calls.regrown_of (hK _) | exact Calls.regrown_of (hE _ _)))
        refine wpQuiet_nil ?_
        intro w1 hw'
        obtain ⟨⟨dq, osq⟩, hw''⟩ := hw'
        have hbw1 := below_regrown W dq osq
        rw [← hw''] at hbw1
        clear hw'' xq
        go_wp2_with fail
        go_ret
        exact ⟨ret_bool HF.out.symm, bnext HBel.out hbw1⟩
set_option maxRecDepth 100000 in
set_option maxHeartbeats 1000000 in
theorem rnotes_any (S : Nat → Prop) (w : World) (a : Option Addr) (cap : Nat) (l : List NoteM) (h : notesR.rel S w [.slice a l.length cap] l) :
    Calls Tryz.prog 175 #[.slice a l.length cap] w fun e w' => e = .returned (.bool (l.all noteB)) ∧ Below w.heap.size w w' := by
  have g1 := (sliceR.lens h).2
  unfold maxLen at g1
  have H := Lib.hid h
  clear h
  go_enter Tryz.func175, Tryz.ntmps175
  go_wp2_with fail
  go_loopw [3] (fun i wr => ∃ k : Nat, k ≤ l.length ∧ i = .int .i64 k ∧ Hid ((l.take k).all noteB = true) ∧ Below w.heap.size w wr) (fun i _ => l.length - (intOf i).toNat)
  case atStart => exact ⟨0, Nat.zero_le _, rfl, rfl, Below.refl _ _⟩
  case round =>
    obtain ⟨k, hk, rfl, hall, hbr⟩ := hrel
    by_cases hlt : k < l.length
    · obtain ⟨b, off, rfl, hbl, hok, c0, c1, c2, c3⟩ := notes_at (notesR.keepB H.out hbr) k hlt
      have hno := Lib.hid (all_false noteB l k hlt)
      have hyes := Lib.hid (all_take_succ noteB l k hlt)
      have i0 : (0 : Int) ≤ (k : Int) := by omega
      have i1 : (k : Int) < (l.length : Int) := by omega
      generalize l[k] = n at *
      go_wp2_with fail
      refine (rnoteValid_any _ n hok).mono ?_
      rintro e w1 ⟨rfl, hb1⟩
      have hbw := bnext hbr hb1
      cases hv : noteB n with
      | true =>
        have HY : Hid ((l.take (k + 1)).all noteB = true) := by show _ = _; rw [hyes.out, hall.out, hv]; rfl
        go_wp2_with fail
        go_roundw
        case rel => exact ⟨k + 1, by omega, by go_num, HY, hbw⟩
        case measure => simp [intOf]; omega
      | false =>
        have HF := Lib.hid (hno.out hv)
        go_wp2_with fail
        go_ret
        exact ⟨ret_bool HF.out.symm, hbw⟩
    · obtain rfl : k = l.length := by omega
      have HF : Hid (l.all noteB = true) := by have := hall.out; rw [List.take_length] at this; exact this
      go_wp2_with fail
      go_ret
      exact ⟨ret_bool HF.out.symm, hbr⟩
set_option maxRecDepth 100000 in
set_option maxHeartbeats 1000000 in
theorem rinputs_any (S : Nat → Prop) (w : World) (t : WitM) (ia oa : Option Addr) (ic oc : Nat) (h : WtIn S w t ia oa ic oc) :
    Calls Tryz.prog 111 #[.agg #[.slice ia t.ins.length ic, .slice oa t.outs.length oc, .int .u64 t.secret]] w fun e w' => e = .returned (.int .u64 (insSum t.ins t.ins.length)) ∧ Below w.heap.size w w' := by
  have g1 := (sliceR.lens h.ins).2
  unfold maxLen at g1
  have hbB := (bnew (Below.refl w.heap.size w) (.cells #[.slice ia t.ins.length ic, .slice oa t.outs.length oc, .int .u64 t.secret] 117))
  have HA0 := Lib.hid (box_new w (.cells #[.slice ia t.ins.length ic, .slice oa t.outs.length oc, .int .u64 t.secret] 117))
  have HBel := Lib.hid hbB
  have H := Lib.hid (h.keepB hbB)
  clear h hbB
  go_enter Tryz.func111, Tryz.ntmps111
  go_wp2_with fail
  generalize w.alloc (.cells #[.slice ia t.ins.length ic, .slice oa t.outs.length oc, .int .u64 t.secret] 117) = W at *
  obtain ⟨x0, x1⟩ := box_cells HA0.out
  go_loop [3, 4] (fun vs vi => ∃ k : Nat, k ≤ t.ins.length ∧ vi = .int .i64 k ∧ vs = .int .u64 (insSum t.ins k)) (fun _ vi => t.ins.length - (intOf vi).toNat)
  case atStart => exact ⟨0, Nat.zero_le _, rfl, rfl⟩
  case round =>
    obtain ⟨k, hk, rfl, rfl⟩ := hrel
    by_cases hlt : k < t.ins.length
    · obtain ⟨b, off, pa, pc, rfl, hbl, hok, hpa, c0, c1, c2, c3, c4, c5, c6, c7, c8⟩ := spents_at H.out.ins k hlt
      have HS := Lib.hid (insSum_step t.ins k hlt)
      have i0 : (0 : Int) ≤ (k : Int) := by omega
      have i1 : (k : Int) < (t.ins.length : Int) := by omega
      generalize t.ins[k] = i at *
      generalize insSum t.ins k = m at *
      go_wp2_with fail
      go_round
      case rel => exact ⟨k + 1, by omega, by go_num, by rw [HS.out]⟩
      case measure => simp [intOf]; omega
    · obtain rfl : k = t.ins.length := by omega
      go_wp2_with fail
      go_ret
      exact ⟨rfl, HBel.out⟩
set_option maxRecDepth 100000 in
set_option maxHeartbeats 1000000 in
theorem routputs_any (S : Nat → Prop) (w : World) (t : WitM) (ia oa : Option Addr) (ic oc : Nat) (h : WtIn S w t ia oa ic oc) :
    Calls Tryz.prog 112 #[.agg #[.slice ia t.ins.length ic, .slice oa t.outs.length oc, .int .u64 t.secret]] w fun e w' => e = .returned (.int .u64 (outsSum t.outs t.outs.length)) ∧ Below w.heap.size w w' := by
  have g1 := (sliceR.lens h.outs).2
  unfold maxLen at g1
  have hbB := (bnew (Below.refl w.heap.size w) (.cells #[.slice ia t.ins.length ic, .slice oa t.outs.length oc, .int .u64 t.secret] 117))
  have HA0 := Lib.hid (box_new w (.cells #[.slice ia t.ins.length ic, .slice oa t.outs.length oc, .int .u64 t.secret] 117))
  have HBel := Lib.hid hbB
  have H := Lib.hid (h.keepB hbB)
  clear h hbB
  go_enter Tryz.func112, Tryz.ntmps112
  go_wp2_with fail
  generalize w.alloc (.cells #[.slice ia t.ins.length ic, .slice oa t.outs.length oc, .int .u64 t.secret] 117) = W at *
  obtain ⟨x0, x1⟩ := box_cells HA0.out
  go_loop [3, 4] (fun vs vi => ∃ k : Nat, k ≤ t.outs.length ∧ vi = .int .i64 k ∧ vs = .int .u64 (outsSum t.outs k)) (fun _ vi => t.outs.length - (intOf vi).toNat)
  case atStart => exact ⟨0, Nat.zero_le _, rfl, rfl⟩
  case round =>
    obtain ⟨k, hk, rfl, rfl⟩ := hrel
    by_cases hlt : k < t.outs.length
    · obtain ⟨b, off, rfl, hbl, hok, c0, c1, c2, c3⟩ := notes_at H.out.outs k hlt
      have HS := Lib.hid (outsSum_step t.outs k hlt)
      have i0 : (0 : Int) ≤ (k : Int) := by omega
      have i1 : (k : Int) < (t.outs.length : Int) := by omega
      generalize t.outs[k] = i at *
      generalize outsSum t.outs k = m at *
      go_wp2_with fail
      go_round
      case rel => exact ⟨k + 1, by omega, by go_num, by rw [HS.out]⟩
      case measure => simp [intOf]; omega
    · obtain rfl : k = t.outs.length := by omega
      go_wp2_with fail
      go_ret
      exact ⟨rfl, HBel.out⟩
end Go.Proofs.YtgjemeeeignlnaaGreatDoor
/- The reference's notes and witnesses, read. -/
namespace Go.Proofs.YtgjemeeeignlnaaGreatDoor
open Go.ChangeShapes Go.WideShapes Go.ChangeAt Go.RowKit Go.Sort

/-- The result at the first block, the note's variable at q, the reader at p. -/
structure RnAt (w : World) (p q : Nat) (n : NoteM) (r : RfM) (wr : World) : Prop where
  kept : Kept (fun k => k ≠ p) w wr
  rd : RfAt p wr r
  res : wr.heap[w.heap.size]? = some (.cells #[.int .u64 0, .int .u64 0, .int .u64 0, .int .u64 0] 161 (0, 0))
  box : wr.heap[q]? = some (.cells #[.int .u64 n.value, .int .u64 n.owner, .int .u64 n.rho, .int .u64 n.blind] 161 (0, 0))
  wq : w.heap.size < q
  pw : p < w.heap.size
theorem RnAt.next {w wr w2 : World} {p q : Nat} {n : NoteM} {r r' : RfM} (h : RnAt w p q n r wr) (k : RfTo p wr r' w2) : RnAt w p q n r' w2 :=
  have := h.wq; have := h.pw
  ⟨kept_next h.kept k.2, k.1, box_kept k.2 h.res (by omega), box_kept k.2 h.box (by omega), h.wq, h.pw⟩
theorem RnAt.store {w wr : World} {p q : Nat} {n n' : NoteM} {r : RfM} (h : RnAt w p q n r wr) (i : Nat) (v : Value) (hv : (#[.int .u64 n.value, .int .u64 n.owner, .int .u64 n.rho, .int .u64 n.blind] : Array Value).setIfInBounds i v = #[.int .u64 n'.value, .int .u64 n'.owner, .int .u64 n'.rho, .int .u64 n'.blind]) : RnAt w p q n' r (wr.setCell ⟨q, i, none⟩ v) :=
  have := h.wq; have := h.pw
  ⟨h.kept.setCell (fun h' => by have h'' : q < w.heap.size := h'; omega) _, h.rd.kept ((Kept.refl _ _).setCell (fun _ h => by have h' : q ≤ p := h; omega) _), box_set_far h.res (show w.heap.size ≠ q by omega), hv ▸ box_set h.box, h.wq, h.pw⟩
set_option maxRecDepth 100000 in
set_option maxHeartbeats 1000000 in
theorem rread_any (w : World) (p : Nat) (r : RfM) (h : RfAt p w r) : Calls Tryz.prog 103 #[.pointer (some ⟨p, 0, none⟩)] w
    fun e w' => e = .returned (.agg #[.int .u64 r.note.value, .int .u64 r.note.owner, .int .u64 r.note.rho, .int .u64 r.note.blind]) ∧ RfTo p w r.n4 w' ∧ NoteOk r.note := by
  have hlt := h.lt
  have hb0 := bnew (Below.refl w.heap.size w) (.cells #[.int .u64 0, .int .u64 0, .int .u64 0, .int .u64 0] 161)
  have HX := Lib.hid (box_new w (.cells #[.int .u64 0, .int .u64 0, .int .u64 0, .int .u64 0] 161))
  have H0 := Lib.hid (h.keep hb0)
  have HB0 := Lib.hid hb0
  have eA : (w.alloc (.cells #[.int .u64 0, .int .u64 0, .int .u64 0, .int .u64 0] 161)).heap.size = w.heap.size + 1 := World.size_alloc ..
  have HEA := Lib.hid eA
  clear hb0 h eA
  go_enter Tryz.func103, Tryz.ntmps103
  go_wp2_with fail
  refine (rfUint_any _ p r H0.out 18446744073709551615 (by omega)).mono ?_
  rintro e w1 ⟨rfl, g0, a0, b0⟩
  obtain ⟨v0, hv0⟩ : ∃ v, (r.uint 18446744073709551615).1 = v := ⟨_, rfl⟩
  have HV0 := Lib.hid hv0
  rw [hv0] at a0 b0 ⊢
  have hsz := g0.2.size
  rw [HEA.out] at hsz
  have hbn := bnew (Below.refl w1.heap.size w1) (.cells #[.int .u64 v0, .int .u64 0, .int .u64 0, .int .u64 0] 161)
  have R1 : Hid (RnAt w p w1.heap.size ⟨v0, 0, 0, 0⟩ r.n1 (w1.alloc (.cells #[.int .u64 v0, .int .u64 0, .int .u64 0, .int .u64 0] 161))) :=
    ⟨kept_next (Kept.of_below HB0.out) (kept_next g0.2 (Kept.of_below hbn)), g0.1.keep hbn, box_old (box_kept g0.2 HX.out (by omega)), box_new _ _, by omega, hlt⟩
  clear hbn hsz g0 hv0 H0 HX HB0 HEA
  go_wp2_with fail
  generalize w1.alloc (.cells #[.int .u64 v0, .int .u64 0, .int .u64 0, .int .u64 0] 161) = w1x at *
  generalize w1.heap.size = q at *
  refine (rfUint_any w1x p r.n1 R1.out.rd 18446744073709551615 (by omega)).mono ?_
  rintro e w2 ⟨rfl, g1, a1, b1⟩
  have R1n := RnAt.next R1.out g1
  obtain ⟨v1, hv1⟩ : ∃ v, (r.n1.uint 18446744073709551615).1 = v := ⟨_, rfl⟩
  have HV1 := Lib.hid hv1
  rw [hv1] at a1 b1 ⊢
  obtain ⟨x1, y1⟩ := box_cells R1n.box
  have R2 := Lib.hid (RnAt.store (n' := ⟨v0, v1, 0, 0⟩) R1n 1 (.int .u64 v1) rfl)
  clear R1n hv1 g1
  go_wp2_with fail
  generalize w2.setCell ⟨q, 1, none⟩ (.int .u64 v1) = w2x at *
  clear x1 y1
  refine (rfUint_any w2x p r.n2 R2.out.rd 18446744073709551615 (by omega)).mono ?_
  rintro e w3 ⟨rfl, g2, a2, b2⟩
  have R2n := RnAt.next R2.out g2
  obtain ⟨v2, hv2⟩ : ∃ v, (r.n2.uint 18446744073709551615).1 = v := ⟨_, rfl⟩
  have HV2 := Lib.hid hv2
  rw [hv2] at a2 b2 ⊢
  obtain ⟨x2, y2⟩ := box_cells R2n.box
  have R3 := Lib.hid (RnAt.store (n' := ⟨v0, v1, v2, 0⟩) R2n 2 (.int .u64 v2) rfl)
  clear R2n hv2 g2
  go_wp2_with fail
  generalize w3.setCell ⟨q, 2, none⟩ (.int .u64 v2) = w3x at *
  clear x2 y2
  refine (rfUint_any w3x p r.n3 R3.out.rd 18446744073709551615 (by omega)).mono ?_
  rintro e w4 ⟨rfl, g3, a3, b3⟩
  have R3n := RnAt.next R3.out g3
  obtain ⟨v3, hv3⟩ : ∃ v, (r.n3.uint 18446744073709551615).1 = v := ⟨_, rfl⟩
  have HV3 := Lib.hid hv3
  rw [hv3] at a3 b3 ⊢
  obtain ⟨x3, y3⟩ := box_cells R3n.box
  have R4 := Lib.hid (RnAt.store (n' := ⟨v0, v1, v2, v3⟩) R3n 3 (.int .u64 v3) rfl)
  clear R3n hv3 g3
  have R5 := Lib.hid (show RnAt w p q ⟨v0, v1, v2, v3⟩ r.n4 (w4.setCell ⟨q, 3, none⟩ (.int .u64 v3)) from R4.out)
  obtain ⟨z0, z1⟩ := box_cells R5.out.box
  obtain ⟨u0, u1⟩ := box_cells R5.out.res
  have hf4 := box_set (i := 3) (v := .int .u64 v3) (box_set (i := 2) (v := .int .u64 v2) (box_set (i := 1) (v := .int .u64 v1) (box_set (i := 0) (v := .int .u64 v0) R5.out.res)))
  obtain ⟨zz, -⟩ := box_cells hf4
  have k0 := zz 0
  have k1 := zz 1
  have k2 := zz 2
  have k3 := zz 3
  simp at k0 k1 k2 k3
  clear zz hf4
  have HNE : Hid (r.note = ⟨v0, v1, v2, v3⟩) := by
    show (⟨(r.uint 18446744073709551615).1, (r.n1.uint 18446744073709551615).1, (r.n2.uint 18446744073709551615).1, (r.n3.uint 18446744073709551615).1⟩ : NoteM) = _
    rw [HV0.out, HV1.out, HV2.out, HV3.out]
  have HOK : Hid (NoteOk ⟨v0, v1, v2, v3⟩) := ⟨okU_of a0 (by show v0 < _; omega), okU_of a1 (by show v1 < _; omega), okU_of a2 (by show v2 < _; omega), okU_of a3 (by show v3 < _; omega)⟩
  clear R1 R2 R3 R4
  go_wp2_with fail
  refine bodyPost_ret (v := .agg #[.int .u64 v0, .int .u64 v1, .int .u64 v2, .int .u64 v3]) (by simp [results, Tryz.results103, go_sem, k0, k1, k2, k3]) rfl ⟨by rw [HNE.out], ⟨?_, ?_⟩, by rw [HNE.out]; exact HOK.out⟩
  · have hn : ∀ wz : World, w.heap.size < wz.heap.size → ¬ (fun k => k ≤ p) w.heap.size := fun _ _ h => by have h' : w.heap.size ≤ p := h; omega
    exact R5.out.rd.kept (((((Kept.refl _ _).setCell (hn _) _).setCell (hn _) _).setCell (hn _) _).setCell (hn _) _)
  · have hn : w.heap.size < w.heap.size → ¬ (fun k => k ≠ p) w.heap.size := fun h => absurd h (Nat.lt_irrefl _)
    exact (((R5.out.kept.setCell hn _).setCell hn _).setCell hn _).setCell hn _
theorem rightIn_eq (x : SpentM) (h : x.path.length ≤ 12) : rightIn x = (decide (x.path.length ≤ 12 ∧ 0 ≤ x.position ∧ x.position < 4096) && insB x.path.length ⟨x.note, x.key, x.number, 0, x.path, x.dummy⟩) := by
  have hp := pow12 ⟨x.path.length, by omega⟩
  simp only at hp
  rw [insB_eq _ _ hp.2.2 h]
  unfold rightIn
  have e1 : decide ((0 : Int) ≤ 0) = true := rfl
  have e2 : decide ((0 : Int) < 2 ^ x.path.length) = true := decide_eq_true hp.2.1
  simp only [e1, e2, decide_true, Bool.true_and, Bool.and_true]
  rw [Bool.eq_iff_iff]
  simp only [Bool.and_eq_true, decide_eq_true_eq]
  constructor
  · rintro ⟨a, b, c, d, e⟩; exact ⟨a, b, c, d.1, d.2, e⟩
  · rintro ⟨a, b, c, d, e, f⟩; exact ⟨a, b, c, ⟨d, e⟩, f⟩
theorem rinput0_any (S : Nat → Prop) (w : World) (i : SpentM) (hok : SpentOk i) (pa : Option Addr) (pc : Nat) (hpa : numsR.rel S w [.slice pa i.path.length pc] i.path) (hl : i.path.length ≤ 12) :
    Calls Tryz.prog 174 #[.agg #[.int .u64 i.note.value, .int .u64 i.note.owner, .int .u64 i.note.rho, .int .u64 i.note.blind, .int .u64 i.key, .int .i64 i.number, .int .i64 0, .slice pa i.path.length pc, .bool i.dummy], .int .i64 i.path.length] w fun e w' => e = .returned (.bool (insB i.path.length ⟨i.note, i.key, i.number, 0, i.path, i.dummy⟩)) ∧ Below w.heap.size w w' :=
  rinput_any S w ⟨i.note, i.key, i.number, 0, i.path, i.dummy⟩ ⟨hok.note, hok.key, hok.number, okI_of (by show (-9223372036854775808 : Int) ≤ 0; omega) (by show (0 : Int) < 9223372036854775808; omega)⟩ pa pc hpa i.path.length hl
set_option maxRecDepth 100000 in
set_option maxHeartbeats 4000000 in
theorem rright_any (S : Nat → Prop) (w : World) (t : WitM) (ia oa : Option Addr) (ic oc : Nat) (h : WtIn S w t ia oa ic oc) :
    Calls Tryz.prog 106 #[.agg #[.slice ia t.ins.length ic, .slice oa t.outs.length oc, .int .u64 t.secret]] w fun e w' => e = .returned (.bool (rightB t)) ∧ Below w.heap.size w w' := by
  have g1 := (sliceR.lens h.ins).2
  have g2 := (sliceR.lens h.outs).2
  unfold maxLen at g1 g2
  have HU : Hid (rightB t = (decide (t.ins.length ≤ 4 ∧ t.outs.length ≤ 4) && (elemB t.secret && (t.ins.all rightIn && t.outs.all noteB)))) := rfl
  have hbB := (bnew (Below.refl w.heap.size w) (.cells #[.slice ia t.ins.length ic, .slice oa t.outs.length oc, .int .u64 t.secret] 117))
  have HA0 := Lib.hid (box_new w (.cells #[.slice ia t.ins.length ic, .slice oa t.outs.length oc, .int .u64 t.secret] 117))
  have HBel := Lib.hid hbB
  have H := Lib.hid (h.keepB hbB)
  clear h hbB
  by_cases l1 : t.ins.length ≤ 4
  · have l1i : (t.ins.length : Int) ≤ 4 := by omega
    by_cases l2 : t.outs.length ≤ 4
    · have l2i : (t.outs.length : Int) ≤ 4 := by omega
      have HL := Lib.hid (decide_eq_true (⟨l1, l2⟩ : t.ins.length ≤ 4 ∧ t.outs.length ≤ 4))
      go_enter Tryz.func106, Tryz.ntmps106
      go_wp2_with fail
      generalize w.alloc (.cells #[.slice ia t.ins.length ic, .slice oa t.outs.length oc, .int .u64 t.secret] 117) = W at *
      refine (relement_any W t.secret).mono ?_
      rintro e w1 ⟨rfl, hb1⟩
      cases hs : elemB t.secret with
      | false =>
        have HF : Hid (rightB t = false) := by show _ = _; rw [HU.out]; simp only [hs, Bool.false_and, Bool.and_false]
        go_wp2_with fail
        go_ret
        exact ⟨ret_bool HF.out.symm, bnext HBel.out hb1⟩
      | true =>
        have HS := Lib.hid hs
        clear hs
        go_wp2_with fail
        go_loopw [3] (fun vi wr => ∃ k : Nat, k ≤ t.ins.length ∧ vi = .int .i64 k ∧ Hid ((t.ins.take k).all rightIn = true) ∧ Below W.heap.size W wr) (fun vi _ => t.ins.length - (intOf vi).toNat)
        case atStart => exact ⟨0, Nat.zero_le _, rfl, rfl, hb1⟩
        case round =>
          obtain ⟨k, hk, rfl, hall, hbr⟩ := hrel
          obtain ⟨y0, y1⟩ := box_cells (box_after hbr HA0.out)
          by_cases hlt : k < t.ins.length
          · obtain ⟨b, off, pa, pc, rfl, hbl, hok, hpa, c0, c1, c2, c3, c4, c5, c6, c7, c8⟩ := spents_at (spentsR.keepB H.out.ins hbr) k hlt
            have hno := Lib.hid (all_false rightIn t.ins k hlt)
            have hyes := Lib.hid (all_take_succ rightIn t.ins k hlt)
            have i0 : (0 : Int) ≤ (k : Int) := by omega
            have i1 : (k : Int) < (t.ins.length : Int) := by omega
            generalize t.ins[k] = i at *
            have HOK := Lib.hid hok
            have HPA := Lib.hid hpa
            have hpl := (sliceR.lens hpa).2
            unfold maxLen at hpl
            have hbn := bnew (Below.refl wr.heap.size wr) (.cells #[.int .u64 i.note.value, .int .u64 i.note.owner, .int .u64 i.note.rho, .int .u64 i.note.blind, .int .u64 i.key, .int .i64 i.number, .int .i64 i.position, .slice pa i.path.length pc, .bool i.dummy] 166)
            have hbz := bnew (Below.refl wr.heap.size wr) (.cells #[.int .u64 i.note.value, .int .u64 i.note.owner, .int .u64 i.note.rho, .int .u64 i.note.blind, .int .u64 i.key, .int .i64 i.number, .int .i64 0, .slice pa i.path.length pc, .bool i.dummy] 166)
            have HBN := Lib.hid (bnext HBel.out (bnext hbr hbn))
            clear hpa hbn hok
            by_cases hd : i.path.length ≤ 12 ∧ 0 ≤ i.position ∧ i.position < 4096
            · obtain ⟨d1, d2, d3⟩ := hd
              have d1i : (i.path.length : Int) ≤ 12 := by omega
              have HRI : Hid (rightIn i = insB i.path.length ⟨i.note, i.key, i.number, 0, i.path, i.dummy⟩) := by show _ = _; rw [rightIn_eq i d1, decide_eq_true (⟨d1, d2, d3⟩ : i.path.length ≤ 12 ∧ 0 ≤ i.position ∧ i.position < 4096), Bool.true_and]
              go_wp2_with fail
              refine (rinput0_any S (wr.alloc (.cells #[.int .u64 i.note.value, .int .u64 i.note.owner, .int .u64 i.note.rho, .int .u64 i.note.blind, .int .u64 i.key, .int .i64 i.number, .int .i64 0, .slice pa i.path.length pc, .bool i.dummy] 166)) i HOK.out pa pc (numsR.keepB HPA.out hbz) d1).mono ?_
              rintro e w2 ⟨rfl, hb2⟩
              have hbw := bnext hbr (bnext hbz hb2)
              rw [← HRI.out]
              clear HRI
              cases hv : rightIn i with
              | true =>
                have HY : Hid ((t.ins.take (k + 1)).all rightIn = true) := by show _ = _; rw [hyes.out, hall.out, hv]; rfl
                go_wp2_with fail
                go_roundw
                case rel => exact ⟨k + 1, by omega, by go_num, HY, hbw⟩
                case measure => simp [intOf]; omega
              | false =>
                have HNO := Lib.hid (hno.out hv)
                have HF : Hid (rightB t = false) := by show _ = _; rw [HU.out]; simp only [HNO.out, Bool.false_and, Bool.and_false]
                go_wp2_with fail
                go_ret
                exact ⟨ret_bool HF.out.symm, bnext HBel.out hbw⟩
            · have HNO := Lib.hid (hno.out (by unfold rightIn; rw [decide_eq_false hd, Bool.false_and]))
              have HF : Hid (rightB t = false) := by show _ = _; rw [HU.out]; simp only [HNO.out, Bool.false_and, Bool.and_false]
              by_cases d1 : i.path.length ≤ 12
              · have d1i : (i.path.length : Int) ≤ 12 := by omega
                by_cases d2 : 0 ≤ i.position
                · have d3 : ¬ i.position < 4096 := fun h => hd ⟨d1, d2, h⟩
                  clear hd
                  go_wp2_with fail
                  go_ret
                  exact ⟨ret_bool HF.out.symm, HBN.out⟩
                · clear hd
                  go_wp2_with fail
                  go_ret
                  exact ⟨ret_bool HF.out.symm, HBN.out⟩
              · have d1i : ¬ (i.path.length : Int) ≤ 12 := by omega
                clear hd
                go_wp2_with fail
                go_ret
                exact ⟨ret_bool HF.out.symm, HBN.out⟩
          · obtain rfl : k = t.ins.length := by omega
            have hia : t.ins.all rightIn = true := by have := hall.out; rw [List.take_length] at this; exact this
            have HF : Hid (rightB t = t.outs.all noteB) := by show _ = _; rw [HU.out, HL.out, HS.out, hia]; rfl
            clear hia
            go_wp2_with fail
            refine (rnotes_any S wr oa oc t.outs (notesR.keepB H.out.outs hbr)).mono ?_
            rintro e w9 ⟨rfl, hb9⟩
            go_wp2_with fail
            go_ret
            exact ⟨ret_bool HF.out.symm, bnext HBel.out (bnext hbr hb9)⟩
    · have l2i : ¬ (t.outs.length : Int) ≤ 4 := by omega
      have HL := Lib.hid (decide_eq_false (fun h => l2 h.2 : ¬ (t.ins.length ≤ 4 ∧ t.outs.length ≤ 4)))
      have HF : Hid (rightB t = false) := by show _ = _; rw [HU.out]; simp only [HL.out, Bool.false_and]
      go_enter Tryz.func106, Tryz.ntmps106
      go_wp2_with fail
      go_ret
      exact ⟨ret_bool HF.out.symm, HBel.out⟩
  · have l1i : ¬ (t.ins.length : Int) ≤ 4 := by omega
    have HL := Lib.hid (decide_eq_false (fun h => l1 h.1 : ¬ (t.ins.length ≤ 4 ∧ t.outs.length ≤ 4)))
    have HF : Hid (rightB t = false) := by show _ = _; rw [HU.out]; simp only [HL.out, Bool.false_and]
    go_enter Tryz.func106, Tryz.ntmps106
    go_wp2_with fail
    go_ret
    exact ⟨ret_bool HF.out.symm, HBel.out⟩
end Go.Proofs.YtgjemeeeignlnaaGreatDoor
/- The reference's Decode. -/
namespace Go.Proofs.YtgjemeeeignlnaaGreatDoor
open Go.ChangeShapes Go.WideShapes Go.ChangeAt Go.RowKit Go.Sort

/-- What the reference's Decode hands back. -/
def RDecOut (bs : List Int) (w : World) (e : Ending) (w' : World) : Prop :=
  match refDecodeS bs with
  | none => e = .returned (.tuple #[.agg #[.slice none 0 0, .slice none 0 0, .int .u64 0], .bool false]) ∧ Below w.heap.size w w'
  | some t => ∃ a1 c1 a2 c2, e = .returned (.tuple #[.agg #[.slice a1 t.ins.length c1, .slice a2 t.outs.length c2, .int .u64 t.secret], .bool true]) ∧
      spentsR.rel (fun _ => True) w' [.slice a1 t.ins.length c1] t.ins ∧ notesR.rel (fun _ => True) w' [.slice a2 t.outs.length c2] t.outs ∧ okU t.secret ∧ Below w.heap.size w w'
/-- The state of Decode: the witness' variable at q, the reader at p, the result at the first block; rows from B on. -/
structure DcAt (w : World) (p q B : Nat) (v1 v2 : Value) (sec : Int) (rd : RfM) (wr : World) : Prop where
  below : Below w.heap.size w wr
  rd : RfAt p wr rd
  box : wr.heap[q]? = some (.cells #[v1, v2, .int .u64 sec] 117 (0, 0))
  res : wr.heap[w.heap.size]? = some (.cells #[.slice none 0 0, .slice none 0 0, .int .u64 0] 117 (0, 0))
  base : B ≤ wr.heap.size
theorem DcAt.kept {w wr w2 : World} {p q B : Nat} {v1 v2 : Value} {sec : Int} {rd : RfM} (L : DecLay w p q B) (h : DcAt w p q B v1 v2 sec rd wr) (hk : Kept (fun k => k < B) wr w2) : DcAt w p q B v1 v2 sec rd w2 :=
  have := L.wp; have := L.wq; have := L.pB; have := L.qB
  ⟨Kept.behind h.below (hk.mono (S' := fun k => k < B) fun _ _ h => h) h.below.size (fun k hk => by omega), h.rd.kept (hk.mono fun k _ h => by omega), box_kept hk h.box L.qB, box_kept hk h.res (by omega), Nat.le_trans h.base hk.size⟩
theorem DcAt.keepB {w wr w2 : World} {p q B : Nat} {v1 v2 : Value} {sec : Int} {rd : RfM} (L : DecLay w p q B) (h : DcAt w p q B v1 v2 sec rd wr) (hb : Below wr.heap.size wr w2) : DcAt w p q B v1 v2 sec rd w2 := h.kept L (Kept.of_below hb)
theorem DcAt.read {w wr w2 : World} {p q B : Nat} {v1 v2 : Value} {sec : Int} {rd rd' : RfM} (L : DecLay w p q B) (h : DcAt w p q B v1 v2 sec rd wr) (hr : RfTo p wr rd' w2) : DcAt w p q B v1 v2 sec rd' w2 :=
  have := L.wp; have := L.wq; have := L.pB; have := L.qB; have := L.pq
  ⟨Kept.behind h.below hr.2 h.below.size (fun k hk => by omega), hr.1, box_kept hr.2 h.box (by omega), box_kept hr.2 h.res (by omega), Nat.le_trans h.base hr.2.size⟩
theorem DcAt.store {w wr : World} {p q B : Nat} {v1 v2 u1 u2 : Value} {sec usec : Int} {rd : RfM} (L : DecLay w p q B) (h : DcAt w p q B v1 v2 sec rd wr) (i : Nat) (v : Value) (hv : (#[v1, v2, .int .u64 sec] : Array Value).setIfInBounds i v = #[u1, u2, .int .u64 usec]) : DcAt w p q B u1 u2 usec rd (wr.setCell ⟨q, i, none⟩ v) :=
  have := L.wp; have := L.wq; have := L.pB; have := L.qB; have := L.pq
  have hk : Kept (fun k => k ≤ p) wr (wr.setCell ⟨q, i, none⟩ v) := (Kept.refl _ _).setCell (fun _ h => by have h' : q ≤ p := h; omega) _
  ⟨h.below.setCell (by show w.heap.size ≤ q; omega) _, h.rd.kept hk, hv ▸ box_set h.box, box_set_far h.res (show w.heap.size ≠ q by omega), by rw [World.size_setCell]; exact h.base⟩
theorem DcAt.drew {w wr : World} {p q B : Nat} {v1 v2 : Value} {sec : Int} {rd : RfM} (L : DecLay w p q B) (h : DcAt w p q B v1 v2 sec rd wr) : DcAt w p q B v1 v2 sec rd wr.drew := h.keepB L (Below.refl _ _).drew
theorem SpOwn.rread {B p : Nat} {w w2 : World} {v : Value} {l : List SpentM} {rd : RfM} (h : SpOwn B w v l) (hp : p < B) (hr : RfTo p w rd w2) : SpOwn B w2 v l := h.keep (hr.2.mono fun k _ h => by rcases h with h | h; exact h.elim; omega)
theorem NtOwn.rread {B p : Nat} {w w2 : World} {v : Value} {l : List NoteM} {rd : RfM} (h : NtOwn B w v l) (hp : p < B) (hr : RfTo p w rd w2) : NtOwn B w2 v l := h.keep (hr.2.mono fun k _ h => by rcases h with h | h; exact h.elim; omega)
/-- In a round: the spent note's variable at x, behind all rows. -/
structure XsAt (w : World) (p q B x : Nat) (v : Value) (ins : List SpentM) (rd : RfM) (cs : Array Value) (wr : World) : Prop where
  dc : DcAt w p q B v (.slice none 0 0) 0 rd wr
  own : Own spentR B 166 (fun k => (False ∨ B ≤ k) ∧ k < x) wr v ins
  box : wr.heap[x]? = some (.cells cs 166 (0, 0))
  xB : B ≤ x
theorem XsAt.read {w wr w2 : World} {p q B x : Nat} {v : Value} {ins : List SpentM} {rd rd' : RfM} {cs : Array Value} (L : DecLay w p q B) (h : XsAt w p q B x v ins rd cs wr) (hr : RfTo p wr rd' w2) : XsAt w p q B x v ins rd' cs w2 :=
  have := L.pB; have := h.xB
  ⟨h.dc.read L hr, h.own.keep (hr.2.mono fun k _ h => by rcases h.1 with h1 | h1; exact h1.elim; omega), box_kept hr.2 h.box (by omega), h.xB⟩
theorem XsAt.store {w wr : World} {p q B x : Nat} {v : Value} {ins : List SpentM} {rd : RfM} {cs cs' : Array Value} (L : DecLay w p q B) (h : XsAt w p q B x v ins rd cs wr) (i : Nat) (u : Value) (hcs : cs.setIfInBounds i u = cs') : XsAt w p q B x v ins rd cs' (wr.setCell ⟨x, i, none⟩ u) :=
  have := L.pB; have := h.xB
  ⟨h.dc.kept L ((Kept.refl _ _).setCell (fun _ h => by have h' : x < B := h; omega) _), h.own.keep ((Kept.refl _ _).setCell (fun _ h => by have h' : x < x := h.2; omega) _), hcs ▸ box_set h.box, h.xB⟩

set_option maxRecDepth 100000 in
set_option maxHeartbeats 16000000 in
theorem rdecode_any (w : World) (a : Option Addr) (cap : Nat) (bs : List Int) (S : Nat → Prop) (h : bytesR.rel S w [.slice a bs.length cap] bs) (hx : bs.length ≤ 1000000) :
    Calls Tryz.prog 63 #[.slice a bs.length cap] w (RDecOut bs w) := by
  obtain ⟨z2, z1, z0⟩ := three_new w (.cells #[.slice none 0 0, .slice none 0 0, .int .u64 0] 117) (.cells #[.slice a bs.length cap, .bool false] 177) (.cells #[.slice none 0 0, .slice none 0 0, .int .u64 0] 117)
  have hb3 := bnew (bnew (bnew (Below.refl w.heap.size w) (.cells #[.slice none 0 0, .slice none 0 0, .int .u64 0] 117)) (.cells #[.slice a bs.length cap, .bool false] 177)) (.cells #[.slice none 0 0, .slice none 0 0, .int .u64 0] 117)
  have hs3 : (((w.alloc (.cells #[.slice none 0 0, .slice none 0 0, .int .u64 0] 117)).alloc (.cells #[.slice a bs.length cap, .bool false] 177)).alloc (.cells #[.slice none 0 0, .slice none 0 0, .int .u64 0] 117)).heap.size = w.heap.size + 3 := by rw [World.size_alloc, World.size_alloc, World.size_alloc]
  have hlay : DecLay w (w.heap.size + 1) (w.heap.size + 2) (w.heap.size + 3) := ⟨by omega, by omega, by omega, by omega, by omega⟩
  have hd : DcAt w (w.heap.size + 1) (w.heap.size + 2) (w.heap.size + 3) (.slice none 0 0) (.slice none 0 0) 0 ⟨bs, false⟩ (((w.alloc (.cells #[.slice none 0 0, .slice none 0 0, .int .u64 0] 117)).alloc (.cells #[.slice a bs.length cap, .bool false] 177)).alloc (.cells #[.slice none 0 0, .slice none 0 0, .int .u64 0] 117)) :=
    ⟨hb3, ⟨a, cap, z1, bytesR.mono (bytesR.keepB (bytesR.bound h) hb3) fun k _ hk => by have := hk.2; omega, hx⟩, z2, z0, by rw [hs3]; exact Nat.le_refl _⟩
  have HD := Lib.hid hd
  have HL := Lib.hid hlay
  clear z0 z1 z2 hb3 hs3 hlay hd h
  go_enter Tryz.func63, Tryz.ntmps63
  go_wp2_with fail
  generalize ((w.alloc (.cells #[.slice none 0 0, .slice none 0 0, .int .u64 0] 117)).alloc (.cells #[.slice a bs.length cap, .bool false] 177)).alloc (.cells #[.slice none 0 0, .slice none 0 0, .int .u64 0] 117) = W at HD ⊢
  generalize hB : w.heap.size + 3 = B at *
  generalize hq : w.heap.size + 2 = q at *
  generalize hp : w.heap.size + 1 = p at *
  clear hB hq hp
  refine (rfInt_any W p _ HD.out.rd 4 (by omega)).mono ?_
  rintro e w2 ⟨rfl, h2, n0, n1⟩
  have HD2 := Lib.hid (HD.out.read HL.out h2)
  obtain ⟨N, hN⟩ := Int.eq_ofNat_of_zero_le n0
  have HN := Lib.hid hN
  rw [hN] at n1 ⊢
  clear hN n0 h2 HD
  obtain ⟨r1, hr1⟩ : ∃ r1, (RfM.int ⟨bs, false⟩ 4).2 = r1 := ⟨_, rfl⟩
  have HR1 := Lib.hid hr1
  rw [hr1] at HD2
  clear hr1
  have hN4 : N ≤ 4 := by omega
  go_wp2_with fail
  go_loopw [7] (fun vi wr => ∃ (k : Nat) (rd : RfM) (v : Value) (ins : List SpentM), k ≤ N ∧ vi = .int .i64 k ∧ ins.length = k ∧ DcAt w p q B v (.slice none 0 0) 0 rd wr ∧ SpOwn B wr v ins ∧ Hid (RfM.spents (N - k) rd ins = RfM.spents N r1 [])) (fun vi _ => N - (intOf vi).toNat)
  case atStart => exact ⟨0, r1, .slice none 0 0, [], Nat.zero_le _, rfl, rfl, HD2.out, Own.nil _ _ _ _ _, rfl⟩
  case round =>
    obtain ⟨k, rd, v, ins, hk, rfl, hil, hd, hown, hinv⟩ := hrel
    obtain ⟨ra, rc, q1, -, -⟩ := hd.rd
    obtain ⟨f0, f1⟩ := box_cells q1
    clear q1
    by_cases hks : k < N
    · cases hf : rd.fail with
      | false =>
        rw [hf] at f0
        have hki : (k : Int) < (N : Int) := by omega
        obtain ⟨j, hj⟩ : ∃ j, N - k = j + 1 := ⟨N - k - 1, by omega⟩
        have HJ2 : Hid (N - (k + 1) = j) := by show _ = _; omega
        rw [hj] at hinv
        clear hj
        have HI : Hid (RfM.spents j rd.s5 (ins ++ [rd.spent]) = RfM.spents N r1 []) := by
          show _ = _
          rw [← hinv.out]
          show _ = if rd.fail = true then (ins, rd) else RfM.spents j rd.s5 (ins ++ [rd.spent])
          rw [if_neg (by rw [hf]; simp)]
        have HDr := Lib.hid hd
        have HOr := Lib.hid hown
        clear hinv hd hown
        go_wp2_with fail
        clear f0 f1
        refine (rread_any wr p rd HDr.out.rd).mono ?_
        rintro e w2 ⟨rfl, g1, okn⟩
        have hd2 := HDr.out.read HL.out g1
        have ho2 := SpOwn.rread HOr.out HL.out.pB g1
        obtain ⟨n, hn⟩ : ∃ n, rd.note = n := ⟨_, rfl⟩
        have HNN := Lib.hid hn
        rw [hn] at okn ⊢
        have HOKN := Lib.hid okn
        have hbx := bnew (Below.refl w2.heap.size w2) (.cells #[.int .u64 n.value, .int .u64 n.owner, .int .u64 n.rho, .int .u64 n.blind, .int .u64 0, .int .i64 0, .int .i64 0, .slice none 0 0, .bool false] 166)
        have X1 : Hid (XsAt w p q B w2.heap.size v ins rd.n4 #[.int .u64 n.value, .int .u64 n.owner, .int .u64 n.rho, .int .u64 n.blind, .int .u64 0, .int .i64 0, .int .i64 0, .slice none 0 0, .bool false] (w2.alloc (.cells #[.int .u64 n.value, .int .u64 n.owner, .int .u64 n.rho, .int .u64 n.blind, .int .u64 0, .int .i64 0, .int .i64 0, .slice none 0 0, .bool false] 166))) :=
          ⟨hd2.keepB HL.out hbx, (Own.bound ho2).keepB hbx, box_new _ _, hd2.base⟩
        clear hd2 ho2 hbx g1 hn okn HDr HOr
        go_wp2_with fail
        generalize w2.alloc (.cells #[.int .u64 n.value, .int .u64 n.owner, .int .u64 n.rho, .int .u64 n.blind, .int .u64 0, .int .i64 0, .int .i64 0, .slice none 0 0, .bool false] 166) = w2x at *
        generalize w2.heap.size = x at *
        refine (rfUint_any w2x p rd.n4 X1.out.dc.rd 18446744073709551615 (by omega)).mono ?_
        rintro e w3 ⟨rfl, g1, a1, b1⟩
        have Y1 := XsAt.read HL.out X1.out g1
        obtain ⟨key, hkey⟩ : ∃ v, (rd.n4.uint 18446744073709551615).1 = v := ⟨_, rfl⟩
        have Hkey := Lib.hid hkey
        rw [hkey] at a1 b1 ⊢
        obtain ⟨x1, y1⟩ := box_cells Y1.box
        have X2 := Lib.hid (XsAt.store HL.out Y1 4 (.int .u64 key) (cs' := #[.int .u64 n.value, .int .u64 n.owner, .int .u64 n.rho, .int .u64 n.blind, .int .u64 key, .int .i64 0, .int .i64 0, .slice none 0 0, .bool false]) rfl)
        clear Y1 hkey g1 X1
        go_wp2_with fail
        generalize w3.setCell ⟨x, 4, none⟩ ((.int .u64 key)) = w3x at *
        clear x1 y1
        refine (rfInt_any w3x p rd.s1 X2.out.dc.rd 4294967296 (by omega)).mono ?_
        rintro e w4 ⟨rfl, g2, a2, b2⟩
        have Y2 := XsAt.read HL.out X2.out g2
        obtain ⟨num, hnum⟩ : ∃ v, (rd.s1.int 4294967296).1 = v := ⟨_, rfl⟩
        have Hnum := Lib.hid hnum
        rw [hnum] at a2 b2 ⊢
        obtain ⟨x2, y2⟩ := box_cells Y2.box
        have X3 := Lib.hid (XsAt.store HL.out Y2 5 (.int .i64 num) (cs' := #[.int .u64 n.value, .int .u64 n.owner, .int .u64 n.rho, .int .u64 n.blind, .int .u64 key, .int .i64 num, .int .i64 0, .slice none 0 0, .bool false]) rfl)
        clear Y2 hnum g2 X2
        go_wp2_with fail
        generalize w4.setCell ⟨x, 5, none⟩ ((.int .i64 num)) = w4x at *
        clear x2 y2
        refine (rfInt_any w4x p rd.s2 X3.out.dc.rd 4294967296 (by omega)).mono ?_
        rintro e w5 ⟨rfl, g3, a3, b3⟩
        have Y3 := XsAt.read HL.out X3.out g3
        obtain ⟨pos, hpos⟩ : ∃ v, (rd.s2.int 4294967296).1 = v := ⟨_, rfl⟩
        have Hpos := Lib.hid hpos
        rw [hpos] at a3 b3 ⊢
        obtain ⟨x3, y3⟩ := box_cells Y3.box
        have X4 := Lib.hid (XsAt.store HL.out Y3 6 (.int .i64 pos) (cs' := #[.int .u64 n.value, .int .u64 n.owner, .int .u64 n.rho, .int .u64 n.blind, .int .u64 key, .int .i64 num, .int .i64 pos, .slice none 0 0, .bool false]) rfl)
        clear Y3 hpos g3 X3
        go_wp2_with fail
        generalize w5.setCell ⟨x, 6, none⟩ ((.int .i64 pos)) = w5x at *
        clear x3 y3
        refine (rfList_any w5x p rd.s3 X4.out.dc.rd 12 (by omega) (by omega)).mono ?_
        rintro e w6 ⟨pa, pc, rfl, hpath, g4⟩
        have Y4 := XsAt.read HL.out X4.out g4
        obtain ⟨path, hpe⟩ : ∃ v, (rd.s3.list 12 18446744069414584321).1 = v := ⟨_, rfl⟩
        have HPE := Lib.hid hpe
        rw [hpe] at hpath ⊢
        obtain ⟨x4, y4⟩ := box_cells Y4.box
        have hx5 : x < w5x.heap.size := box_lt X4.out.box
        have hB5 : B ≤ w5x.heap.size := X4.out.dc.base
        have HOB := Lib.hid (fun b (hb : v.ownBlock = some b) => (X4.out.own.lt hb).1)
        have X5 := Lib.hid (XsAt.store HL.out Y4 7 (.slice pa path.length pc) (cs' := #[.int .u64 n.value, .int .u64 n.owner, .int .u64 n.rho, .int .u64 n.blind, .int .u64 key, .int .i64 num, .int .i64 pos, .slice pa path.length pc, .bool false]) rfl)
        have hkp : Kept (fun b => w5x.heap.size ≤ b) w6 (w6.setCell ⟨x, 7, none⟩ (.slice pa path.length pc)) := (Kept.refl _ _).setCell (fun _ h => by have h' : w5x.heap.size ≤ x := h; omega) _
        have HP5 := Lib.hid (numsR.keep hpath hkp)
        clear Y4 hpe g4 X4 hkp hpath
        go_wp2_with fail
        generalize w6.setCell ⟨x, 7, none⟩ (.slice pa path.length pc) = w6x at *
        clear x4 y4
        refine (rfInt_any w6x p rd.s4 X5.out.dc.rd 1 (by omega)).mono ?_
        rintro e w7 ⟨rfl, g5, a5, b5⟩
        have Y5 := XsAt.read HL.out X5.out g5
        obtain ⟨dm, hdm⟩ : ∃ v, (rd.s4.int 1).1 = v := ⟨_, rfl⟩
        have HDM := Lib.hid hdm
        rw [hdm] at a5 b5 ⊢
        obtain ⟨x5, y5⟩ := box_cells Y5.box
        obtain ⟨z5, z5'⟩ := box_cells Y5.dc.box
        have X6 := Lib.hid (XsAt.store HL.out Y5 8 (.bool (dm == 1)) (cs' := #[.int .u64 n.value, .int .u64 n.owner, .int .u64 n.rho, .int .u64 n.blind, .int .u64 key, .int .i64 num, .int .i64 pos, .slice pa path.length pc, .bool (dm == 1)]) rfl)
        have hkp : Kept (fun b => w5x.heap.size ≤ b) w7 (w7.setCell ⟨x, 8, none⟩ (.bool (dm == 1))) := (Kept.refl _ _).setCell (fun _ h => by have h' : w5x.heap.size ≤ x := h; omega) _
        have HP6 := Lib.hid (numsR.keep (numsR.keep HP5.out (g5.2.mono fun b _ h => by have := HL.out.pB; omega)) hkp)
        have HSP : Hid (rd.spent = ⟨n, key, num, pos, path, dm == 1⟩) := by
          show (⟨rd.note, (rd.n4.uint 18446744073709551615).1, (rd.s1.int 4294967296).1, (rd.s2.int 4294967296).1, (rd.s3.list 12 18446744069414584321).1, (rd.s4.int 1).1 == 1⟩ : SpentM) = _
          rw [HNN.out, Hkey.out, Hnum.out, Hpos.out, HPE.out, HDM.out]
        have SREL : Hid (spentR.rel (fun b => w5x.heap.size ≤ b) (w7.setCell ⟨x, 8, none⟩ (.bool (dm == 1))) [.int .u64 n.value, .int .u64 n.owner, .int .u64 n.rho, .int .u64 n.blind, .int .u64 key, .int .i64 num, .int .i64 pos, .slice pa path.length pc, .bool (dm == 1)] ⟨n, key, num, pos, path, dm == 1⟩) :=
          spentR.mk (s := ⟨n, key, num, pos, path, dm == 1⟩) ⟨HOKN.out, okU_of a1 (by show key < _; omega), okI_of (by show _ ≤ num; omega) (by show num < _; omega), okI_of (by show _ ≤ pos; omega) (by show pos < _; omega)⟩ HP6.out
        clear Y5 hdm g5 X5 hkp HP5 HP6
        obtain ⟨e0, e1⟩ := box_cells X6.out.dc.box
        obtain ⟨d0, d1⟩ := box_cells X6.out.box
        have HF : Hid (B ≤ (w7.setCell ⟨x, 8, none⟩ (.bool (dm == 1))).heap.size) := X6.out.dc.base
        have HOW : Hid (SpOwn B (w7.setCell ⟨x, 8, none⟩ (.bool (dm == 1))) v ins) := X6.out.own.mono fun b _ h => h.1
        have HLEN : Hid (ins.length + 1 ≤ maxLen ∧ (ins.length + 1) * 88 ≤ 140737488355328) := by unfold maxLen; constructor <;> omega
        go_wp2_with (at_builtin; go_loud (refine wpList_push (r := spentR) (wr := w7.setCell ⟨x, 8, none⟩ (.bool (dm == 1))) (es := [.int .u64 n.value, .int .u64 n.owner, .int .u64 n.rho, .int .u64 n.blind, .int .u64 key, .int .i64 num, .int .i64 pos, .slice pa path.length pc, .bool (dm == 1)]) (v := v) (w0 := w7.setCell ⟨x, 8, none⟩ (.bool (dm == 1))) (B := B) rfl _ _ rfl Tryz.etySpent rfl (by rw [World.size_setCell]; rfl) (Below.refl _ _) HF.out HOW.out SREL.out (fun b hb => ⟨.inr (Nat.le_trans hB5 hb), fun ho => by have := HOB.out b ho; omega⟩) HLEN.out.1 HLEN.out.2 ?_))
        intro v2 w8 ho8 hb8
        obtain ⟨a2, cap2, rfl, -, -⟩ := sliceR.form ho8.slice
        have hk8 : Kept (fun b => b < B) (w7.setCell ⟨x, 8, none⟩ (.bool (dm == 1))) w8 := ⟨hb8.os, hb8.tape, hb8.output, hb8.size, fun b _ hb => hb8.block b hb⟩
        have G8 := Lib.hid (DcAt.kept HL.out X6.out.dc hk8)
        have O8 := Lib.hid (show SpOwn B w8 (.slice a2 (ins ++ [(⟨n, key, num, pos, path, dm == 1⟩ : SpentM)]).length cap2) (ins ++ [(⟨n, key, num, pos, path, dm == 1⟩ : SpentM)]) from Own.mono ho8 (F' := fun b => False ∨ B ≤ b) fun b _ h => by first | exact h | exact .inr h)
        obtain ⟨t0, t1⟩ := box_cells G8.out.box
        have HFIN : Hid (DcAt w p q B (.slice a2 (ins ++ [(⟨n, key, num, pos, path, dm == 1⟩ : SpentM)]).length cap2) (.slice none 0 0) 0 rd.s5 (w8.setCell ⟨q, 0, none⟩ (.slice a2 (ins ++ [(⟨n, key, num, pos, path, dm == 1⟩ : SpentM)]).length cap2))) := DcAt.store HL.out G8.out 0 (.slice a2 (ins ++ [(⟨n, key, num, pos, path, dm == 1⟩ : SpentM)]).length cap2) rfl
        have O9 := Lib.hid (SpOwn.store O8.out HL.out.qB 0 (.slice a2 (ins ++ [(⟨n, key, num, pos, path, dm == 1⟩ : SpentM)]).length cap2))
        clear ho8 hb8 hk8 x5 y5 z5 z5' e0 e1 d0 d1
        go_wp2_with fail
        go_roundw
        case rel => exact ⟨k + 1, rd.s5, .slice a2 (ins ++ [(⟨n, key, num, pos, path, dm == 1⟩ : SpentM)]).length cap2, ins ++ [(⟨n, key, num, pos, path, dm == 1⟩ : SpentM)], by omega, by go_num, by rw [List.length_append, hil]; rfl, by simpa [hil] using HFIN.out, by simpa [hil] using O9.out, by rw [HJ2.out, ← HSP.out]; exact HI⟩
        case measure => simp [intOf]; omega
      | true =>
        rw [hf] at f0
        have hki : (k : Int) < (N : Int) := by omega
        have HI1 : Hid (RfM.spents N r1 [] = (ins, rd)) := by
          show _ = _
          rw [← hinv.out]
          obtain ⟨j, hj⟩ : ∃ j, N - k = j + 1 := ⟨N - k - 1, by omega⟩
          rw [hj]
          unfold RfM.spents
          rw [if_pos hf]
        clear hinv hil
        have hCB := hd.base
        have HINS := Lib.hid (spentsR.bound hown.slice)
        obtain ⟨a1, c1, rfl, -, -⟩ := sliceR.form hown.slice
        obtain ⟨C, hC⟩ : ∃ C, wr.heap.size = C := ⟨_, rfl⟩
        rw [hC] at hCB
        have HINS2 : Hid (spentsR.rel (fun x => B ≤ x ∧ x < C) wr [.slice a1 ins.length c1] ins) := spentsR.mono HINS.out fun x _ h => ⟨h.1.resolve_left id, by rw [← hC]; exact h.2⟩
        have HDw := Lib.hid hd
        have hCw : C ≤ wr.heap.size := by omega
        clear hd hown HINS hC HD2
        go_wp2_with fail
        clear f0 f1
        refine (rfInt_any wr p rd HDw.out.rd 4 (by omega)).mono ?_
        rintro e w3 ⟨rfl, h3, n2, n3⟩
        have HD3 := Lib.hid (HDw.out.read HL.out h3)
        have HI3 : Hid (spentsR.rel (fun x => B ≤ x ∧ x < C) w3 [.slice a1 ins.length c1] ins) := spentsR.keep HINS2.out (h3.2.mono fun x _ h => Nat.ne_of_gt (Nat.lt_of_lt_of_le HL.out.pB h.1))
        have hC3 : C ≤ w3.heap.size := Nat.le_trans hCw h3.2.size
        obtain ⟨M2, hM⟩ := Int.eq_ofNat_of_zero_le n2
        have HM := Lib.hid hM
        rw [hM] at n3 ⊢
        clear hM n2 h3 HDw HINS2
        obtain ⟨r2, hr2⟩ : ∃ r2, (rd.int 4).2 = r2 := ⟨_, rfl⟩
        have HR2 := Lib.hid hr2
        rw [hr2] at HD3
        clear hr2
        have hM4 : M2 ≤ 4 := by omega
        go_wp2_with fail
        go_loopw [9] (fun vi wr => ∃ (k : Nat) (rd : RfM) (v : Value) (outs : List NoteM), k ≤ M2 ∧ vi = .int .i64 k ∧ outs.length = k ∧ DcAt w p q B (.slice a1 ins.length c1) v 0 rd wr ∧ NtOwn C wr v outs ∧ spentsR.rel (fun x => B ≤ x ∧ x < C) wr [.slice a1 ins.length c1] ins ∧ C ≤ wr.heap.size ∧ Hid (RfM.notes (M2 - k) rd outs = RfM.notes M2 r2 [])) (fun vi _ => M2 - (intOf vi).toNat)
        case atStart => exact ⟨0, r2, .slice none 0 0, [], Nat.zero_le _, rfl, rfl, HD3.out, Own.nil _ _ _ _ _, HI3.out, hC3, rfl⟩
        case round =>
          obtain ⟨k2, rd2, v, outs, hk2, rfl, hol, hd, hown, hins, hCr, hinv⟩ := hrel
          obtain ⟨ra, rc, q1, -, -⟩ := hd.rd
          obtain ⟨f0, f1⟩ := box_cells q1
          clear q1
          by_cases hks2 : k2 < M2
          · cases hf : rd2.fail with
            | false =>
              rw [hf] at f0
              obtain ⟨j, hj⟩ : ∃ j, M2 - k2 = j + 1 := ⟨M2 - k2 - 1, by omega⟩
              have hki : (k2 : Int) < (M2 : Int) := by omega
              have HJ2 : Hid (M2 - (k2 + 1) = j) := by show _ = _; omega
              rw [hj] at hinv
              clear hj
              have HI : Hid (RfM.notes j rd2.n4 (outs ++ [rd2.note]) = RfM.notes M2 r2 []) := by
                show _ = _
                rw [← hinv.out]
                show _ = if rd2.fail = true then (outs, rd2) else RfM.notes j rd2.n4 (outs ++ [rd2.note])
                rw [if_neg (by rw [hf]; simp)]
              have HDr := Lib.hid (hd.drew HL.out)
              have HOr := Lib.hid (show NtOwn C wr.drew v outs from hown.keepB (Below.refl _ _).drew)
              have HIr := Lib.hid (spentsR.keepB hins (Below.refl _ _).drew)
              obtain ⟨x0, x1⟩ := box_cells hd.box
              clear hinv hd hown hins
              have HLT := Lib.hid (fun k (hk : v.ownBlock = some k) => (HOr.out.lt hk).1)
              go_wp2_with fail
              clear f0 f1
              go_region_law (first
                | (refine step_append_rel (r := noteR) (base := C) (v := v) (u := .slice (some ⟨w4.heap.size, 0, none⟩) 1 1) (S := fun _ => False) rfl _ _ rfl Tryz.etyNote rfl rfl (Own.keepB O1.out (bnew (Below.refl _ _) _)) (Src.one (noteR.mk okn) (CellsAt.new w4 [.int .u64 rd2.note.value, .int .u64 rd2.note.owner, .int .u64 rd2.note.rho, .int .u64 rd2.note.blind] 161)) (fun k _ hk => hk.elim) (fun k hk h => h) (by unfold maxLen; simp; omega) (by simp; omega) (by rw [World.size_alloc]; omega) ?_
                   intro v2 w8 ho8 hk8 hl8
                   obtain ⟨a2, cap2, rfl, -, -⟩ := sliceR.form ho8.slice
                   have hk9 : Kept (fun k => k < C) (w4.alloc (.cells #[.int .u64 rd2.note.value, .int .u64 rd2.note.owner, .int .u64 rd2.note.rho, .int .u64 rd2.note.blind] 161)) w8 := hk8.mono fun k _ hkC he => by have := (Own.lt O1.out he).2.2; omega
                   have G8 := Lib.hid (DcAt.kept HL.out (DcAt.keepB HL.out G1.out (bnew (Below.refl _ _) _)) (hk9.mono (S' := fun k => k < B) fun k _ hkB => Nat.lt_of_lt_of_le hkB hCB))
                   have I8 := Lib.hid (spentsR.keep (spentsR.keepB I1.out (bnew (Below.refl _ _) _)) (hk9.mono fun k _ h => h.2))
                   have hC8 : C ≤ w8.heap.size := Nat.le_trans hC4 (Nat.le_trans (by rw [World.size_alloc]; omega) hk9.size)
                   have O8 : Hid (NtOwn C w8 (.slice a2 (outs ++ [rd2.note]).length cap2) (outs ++ [rd2.note])) := ho8.mono fun k _ h => by
                     rcases h with h | h
                     · exact h
                     · exact .inr (Nat.le_trans hC4 (Nat.le_trans (by rw [World.size_alloc]; omega) h))
                   obtain ⟨t0, t1⟩ := box_cells G8.out.box)
                | (go_simp; go_at_call 103; refine (rread_any _ p rd2 HDr.out.rd).mono ?_; rintro e w4 ⟨rfl, g1, okn⟩
                   have G1 := Lib.hid (DcAt.read HL.out HDr.out g1); have O1 := Lib.hid (NtOwn.rread HOr.out (Nat.lt_of_lt_of_le HL.out.pB hCB) g1); obtain ⟨y0, y1⟩ := box_cells G1.out.box; have yy := fun o' => (box_cells (box_old (o' := o') G1.out.box)).1
                   have hC4 : C ≤ w4.heap.size := Nat.le_trans hCr g1.2.size
                   have I1 := Lib.hid (spentsR.keep HIr.out (g1.2.mono fun x _ h => Nat.ne_of_gt (Nat.lt_of_lt_of_le HL.out.pB h.1)))))
              all_goals
                have HFIN := Lib.hid (DcAt.store HL.out G8.out 1 (.slice a2 (outs ++ [rd2.note]).length cap2) rfl)
                have O9 := Lib.hid (NtOwn.store O8.out (Nat.lt_of_lt_of_le HL.out.qB hCB) 1 (.slice a2 (outs ++ [rd2.note]).length cap2))
                have I9 := Lib.hid (spentsR.keep I8.out ((Kept.refl _ w8).setCell (p := ⟨q, 1, none⟩) (fun _ h => by have h' : B ≤ q ∧ q < C := h; have := HL.out.qB; omega) (.slice a2 (outs ++ [rd2.note]).length cap2)))
                have hC9 : C ≤ (w8.setCell ⟨q, 1, none⟩ (.slice a2 (outs ++ [rd2.note]).length cap2)).heap.size := by rw [World.size_setCell]; exact hC8
                go_wp2_with fail
                go_roundw
                case rel => exact ⟨k2 + 1, rd2.n4, .slice a2 (outs ++ [rd2.note]).length cap2, outs ++ [rd2.note], by omega, by go_num, by rw [List.length_append, hol]; rfl, by simpa [hol] using HFIN.out, by simpa [hol] using O9.out, by simpa [hol] using I9.out, by simpa [hol] using hC9, by rw [HJ2.out]; exact HI⟩
                case measure => simp [intOf]; omega
            | true =>
              rw [hf] at f0
              have hki : (k2 : Int) < (M2 : Int) := by omega
              have hinv2 : RfM.notes M2 r2 [] = (outs, rd2) := by
                rw [← hinv.out]
                obtain ⟨j, hj⟩ : ∃ j, M2 - k2 = j + 1 := ⟨M2 - k2 - 1, by omega⟩
                rw [hj]
                unfold RfM.notes
                rw [if_pos hf]
              have holm : outs.length ≤ 4 := by omega
              clear hinv hol
              have HI2 : Hid (RfM.notes M2 r2 [] = (outs, rd2)) := hinv2
              obtain ⟨a2, c2, rfl, -, -⟩ := sliceR.form hown.slice
              have HNT := Lib.hid (notesR.mono hown.slice (S' := fun k => C ≤ k) fun x _ h => h.resolve_left id)
              have HIN := Lib.hid hins
              have HDw := Lib.hid hd
              have HDEC : Hid (refDecodeS bs = if (rd2.uint 18446744073709551615).2.fail = true ∨ (rd2.uint 18446744073709551615).2.b.length > 0 ∨ rightB ⟨ins, outs, (rd2.uint 18446744073709551615).1⟩ = false then none else some ⟨ins, outs, (rd2.uint 18446744073709551615).1⟩) := by
                show _ = _
                unfold refDecodeS
                rw [HN.out, HR1.out, Int.toNat_natCast, HI1.out]
                simp only
                rw [HM.out, HR2.out, Int.toNat_natCast, HI2.out]
              clear hinv2 hd hown hins HD3 HI3
              go_wp2_with fail
              clear f0 f1
              refine (rfUint_any _ p rd2 HDw.out.rd 18446744073709551615 (by omega)).mono ?_
              rintro e w5 ⟨rfl, h5, s0, s1⟩
              have HD5 := Lib.hid (HDw.out.read HL.out h5)
              have HN5 := Lib.hid (notesR.keep HNT.out (h5.2.mono fun x _ h => Nat.ne_of_gt (Nat.lt_of_lt_of_le HL.out.pB (Nat.le_trans hCB h))))
              have HI5 := Lib.hid (spentsR.keep HIN.out (h5.2.mono fun x _ h => Nat.ne_of_gt (Nat.lt_of_lt_of_le HL.out.pB h.1)))
              generalize rd2.uint 18446744073709551615 = t at *
              obtain ⟨sec, r5⟩ := t
              simp only at HD5 HDEC s0 s1 ⊢
              obtain ⟨t0, t1⟩ := box_cells HD5.out.box
              have HD6 := Lib.hid (DcAt.store HL.out HD5.out 2 (.int .u64 sec) (u1 := .slice a1 ins.length c1) (u2 := .slice a2 outs.length c2) (usec := sec) rfl)
              have hk6 : Kept (fun k => B ≤ k) w5 (w5.setCell ⟨q, 2, none⟩ (.int .u64 sec)) := (Kept.refl _ _).setCell (fun _ h => by have h' : B ≤ q := h; have := HL.out.qB; omega) _
              have HN6 := Lib.hid (notesR.keep HN5.out (hk6.mono fun k _ h => Nat.le_trans hCB h))
              have HI6 := Lib.hid (spentsR.keep HI5.out (hk6.mono fun k _ h => h.1))
              have HWT : Hid (WtIn (fun _ => True) (w5.setCell ⟨q, 2, none⟩ (.int .u64 sec)) ⟨ins, outs, sec⟩ a1 a2 c1 c2) := ⟨spentsR.mono HI6.out fun _ _ _ => trivial, notesR.mono HN6.out fun _ _ _ => trivial, okU_of s0 (by show sec < _; omega)⟩
              clear hk6 h5
              obtain ⟨ra, rc, q1, q2, -⟩ := HD6.out.rd
              obtain ⟨j0, j1⟩ := box_cells q1
              obtain ⟨f0, f1⟩ := box_cells HD6.out.res
              obtain ⟨e0, e1⟩ := box_cells HD6.out.box
              have HB7 := Lib.hid HD6.out.below
              have hrl := (sliceR.lens q2).2
              unfold maxLen at hrl
              clear q1 q2
              cases hfl : r5.fail with
              | true =>
                rw [hfl] at j0
                have HV : Hid (refDecodeS bs = none) := by show _ = _; rw [HDEC.out, if_pos (.inl hfl)]
                obtain ⟨r0, r1', r2'⟩ := read3 (x := .slice none 0 0) (y := .slice none 0 0) (z := .int .u64 0) (f0 0) (f0 1) (f0 2)
                go_wp2_with fail
                refine bodyPost_ret (v := .tuple #[.agg #[.slice none 0 0, .slice none 0 0, .int .u64 0], .bool false]) (by simp [results, Tryz.results63, go_sem, r0, r1', r2']) rfl ?_
                unfold RDecOut
                rw [HV.out]
                exact ⟨rfl, ((HB7.out.setCell (Nat.le_refl _) _).setCell (Nat.le_refl _) _).setCell (Nat.le_refl _) _⟩
              | false =>
                rw [hfl] at j0
                by_cases hrb : r5.b.length > 0
                · have hrbi : (0 : Int) < (r5.b.length : Int) := by omega
                  have HV : Hid (refDecodeS bs = none) := by show _ = _; rw [HDEC.out, if_pos (.inr (.inl hrb))]
                  obtain ⟨r0, r1', r2'⟩ := read3 (x := .slice none 0 0) (y := .slice none 0 0) (z := .int .u64 0) (f0 0) (f0 1) (f0 2)
                  go_wp2_with fail
                  refine bodyPost_ret (v := .tuple #[.agg #[.slice none 0 0, .slice none 0 0, .int .u64 0], .bool false]) (by simp [results, Tryz.results63, go_sem, r0, r1', r2']) rfl ?_
                  unfold RDecOut
                  rw [HV.out]
                  exact ⟨rfl, ((HB7.out.setCell (Nat.le_refl _) _).setCell (Nat.le_refl _) _).setCell (Nat.le_refl _) _⟩
                · have hrbi : ¬ (0 : Int) < (r5.b.length : Int) := by omega
                  go_wp2_with fail
                  clear f0 f1 e0 e1
                  refine (rright_any (fun _ => True) _ ⟨ins, outs, sec⟩ a1 a2 c1 c2 HWT.out).mono ?_
                  rintro e w7 ⟨rfl, hb7⟩
                  have HD7 := Lib.hid (HD6.out.keepB HL.out hb7)
                  have HN7 := Lib.hid (notesR.keepB HN6.out hb7)
                  have HI7 := Lib.hid (spentsR.keepB HI6.out hb7)
                  clear j0 j1 t0 t1 HB7
                  obtain ⟨t0, t1⟩ := box_cells HD7.out.box
                  obtain ⟨f0, f1⟩ := box_cells HD7.out.res
                  have HB7 := Lib.hid HD7.out.below
                  cases hdn : rightB ⟨ins, outs, sec⟩ with
                  | false =>
                    have HV : Hid (refDecodeS bs = none) := by show _ = _; rw [HDEC.out, if_pos (.inr (.inr hdn))]
                    obtain ⟨r0, r1', r2'⟩ := read3 (x := .slice none 0 0) (y := .slice none 0 0) (z := .int .u64 0) (f0 0) (f0 1) (f0 2)
                    go_wp2_with fail
                    refine bodyPost_ret (v := .tuple #[.agg #[.slice none 0 0, .slice none 0 0, .int .u64 0], .bool false]) (by simp [results, Tryz.results63, go_sem, r0, r1', r2']) rfl ?_
                    unfold RDecOut
                    rw [HV.out]
                    exact ⟨rfl, ((HB7.out.setCell (Nat.le_refl _) _).setCell (Nat.le_refl _) _).setCell (Nat.le_refl _) _⟩
                  | true =>
                    have HV : Hid (refDecodeS bs = some ⟨ins, outs, sec⟩) := by show _ = _; rw [HDEC.out, if_neg (by
                      rintro (h | h | h)
                      · rw [hfl] at h; cases h
                      · exact hrb h
                      · rw [hdn] at h; cases h)]
                    obtain ⟨r0, r1', r2'⟩ := read3 (x := .slice a1 ins.length c1) (y := .slice a2 outs.length c2) (z := .int .u64 sec) (f0 0) (f0 1) (f0 2)
                    go_wp2_with fail
                    refine bodyPost_ret (v := .tuple #[.agg #[.slice a1 ins.length c1, .slice a2 outs.length c2, .int .u64 sec], .bool true]) (by simp [results, Tryz.results63, go_sem, r0, r1', r2']) rfl ?_
                    have hkf : Kept (fun k => B ≤ k) w7 (((w7.setCell ⟨w.heap.size, 0, none⟩ (.slice a1 ins.length c1)).setCell ⟨w.heap.size, 1, none⟩ (.slice a2 outs.length c2)).setCell ⟨w.heap.size, 2, none⟩ (.int .u64 sec)) := by
                      have hn : w.heap.size < w7.heap.size → ¬ B ≤ w.heap.size := fun _ h => by have := HL.out.wq; have := HL.out.qB; omega
                      exact (((Kept.refl _ _).setCell hn _).setCell hn _).setCell hn _
                    unfold RDecOut
                    rw [HV.out]
                    exact ⟨a1, c1, a2, c2, rfl, spentsR.mono (spentsR.keep HI7.out (hkf.mono fun k _ h => h.1)) fun _ _ _ => trivial, notesR.mono (notesR.keep HN7.out (hkf.mono fun k _ h => Nat.le_trans hCB h)) fun _ _ _ => trivial, okU_of s0 (by show sec < _; omega),
                      ((HB7.out.setCell (Nat.le_refl _) _).setCell (Nat.le_refl _) _).setCell (Nat.le_refl _) _⟩
          · have hki : ¬ (k2 : Int) < (M2 : Int) := by omega
            have hinv2 : RfM.notes M2 r2 [] = (outs, rd2) := by
              rw [← hinv.out, show M2 - k2 = 0 by omega]; rfl
            clear hinv hol
            have HI2 : Hid (RfM.notes M2 r2 [] = (outs, rd2)) := hinv2
            obtain ⟨a2, c2, rfl, -, -⟩ := sliceR.form hown.slice
            have HNT := Lib.hid (notesR.mono hown.slice (S' := fun k => C ≤ k) fun x _ h => h.resolve_left id)
            have HIN := Lib.hid hins
            have HDw := Lib.hid hd
            have HDEC : Hid (refDecodeS bs = if (rd2.uint 18446744073709551615).2.fail = true ∨ (rd2.uint 18446744073709551615).2.b.length > 0 ∨ rightB ⟨ins, outs, (rd2.uint 18446744073709551615).1⟩ = false then none else some ⟨ins, outs, (rd2.uint 18446744073709551615).1⟩) := by
              show _ = _
              unfold refDecodeS
              rw [HN.out, HR1.out, Int.toNat_natCast, HI1.out]
              simp only
              rw [HM.out, HR2.out, Int.toNat_natCast, HI2.out]
            clear hinv2 hd hown hins HD3 HI3
            go_wp2_with fail
            clear f0 f1
            refine (rfUint_any _ p rd2 HDw.out.rd 18446744073709551615 (by omega)).mono ?_
            rintro e w5 ⟨rfl, h5, s0, s1⟩
            have HD5 := Lib.hid (HDw.out.read HL.out h5)
            have HN5 := Lib.hid (notesR.keep HNT.out (h5.2.mono fun x _ h => Nat.ne_of_gt (Nat.lt_of_lt_of_le HL.out.pB (Nat.le_trans hCB h))))
            have HI5 := Lib.hid (spentsR.keep HIN.out (h5.2.mono fun x _ h => Nat.ne_of_gt (Nat.lt_of_lt_of_le HL.out.pB h.1)))
            generalize rd2.uint 18446744073709551615 = t at *
            obtain ⟨sec, r5⟩ := t
            simp only at HD5 HDEC s0 s1 ⊢
            obtain ⟨t0, t1⟩ := box_cells HD5.out.box
            have HD6 := Lib.hid (DcAt.store HL.out HD5.out 2 (.int .u64 sec) (u1 := .slice a1 ins.length c1) (u2 := .slice a2 outs.length c2) (usec := sec) rfl)
            have hk6 : Kept (fun k => B ≤ k) w5 (w5.setCell ⟨q, 2, none⟩ (.int .u64 sec)) := (Kept.refl _ _).setCell (fun _ h => by have h' : B ≤ q := h; have := HL.out.qB; omega) _
            have HN6 := Lib.hid (notesR.keep HN5.out (hk6.mono fun k _ h => Nat.le_trans hCB h))
            have HI6 := Lib.hid (spentsR.keep HI5.out (hk6.mono fun k _ h => h.1))
            have HWT : Hid (WtIn (fun _ => True) (w5.setCell ⟨q, 2, none⟩ (.int .u64 sec)) ⟨ins, outs, sec⟩ a1 a2 c1 c2) := ⟨spentsR.mono HI6.out fun _ _ _ => trivial, notesR.mono HN6.out fun _ _ _ => trivial, okU_of s0 (by show sec < _; omega)⟩
            clear hk6 h5
            obtain ⟨ra, rc, q1, q2, -⟩ := HD6.out.rd
            obtain ⟨j0, j1⟩ := box_cells q1
            obtain ⟨f0, f1⟩ := box_cells HD6.out.res
            obtain ⟨e0, e1⟩ := box_cells HD6.out.box
            have HB7 := Lib.hid HD6.out.below
            have hrl := (sliceR.lens q2).2
            unfold maxLen at hrl
            clear q1 q2
            cases hfl : r5.fail with
            | true =>
              rw [hfl] at j0
              have HV : Hid (refDecodeS bs = none) := by show _ = _; rw [HDEC.out, if_pos (.inl hfl)]
              obtain ⟨r0, r1', r2'⟩ := read3 (x := .slice none 0 0) (y := .slice none 0 0) (z := .int .u64 0) (f0 0) (f0 1) (f0 2)
              go_wp2_with fail
              refine bodyPost_ret (v := .tuple #[.agg #[.slice none 0 0, .slice none 0 0, .int .u64 0], .bool false]) (by simp [results, Tryz.results63, go_sem, r0, r1', r2']) rfl ?_
              unfold RDecOut
              rw [HV.out]
              exact ⟨rfl, ((HB7.out.setCell (Nat.le_refl _) _).setCell (Nat.le_refl _) _).setCell (Nat.le_refl _) _⟩
            | false =>
              rw [hfl] at j0
              by_cases hrb : r5.b.length > 0
              · have hrbi : (0 : Int) < (r5.b.length : Int) := by omega
                have HV : Hid (refDecodeS bs = none) := by show _ = _; rw [HDEC.out, if_pos (.inr (.inl hrb))]
                obtain ⟨r0, r1', r2'⟩ := read3 (x := .slice none 0 0) (y := .slice none 0 0) (z := .int .u64 0) (f0 0) (f0 1) (f0 2)
                go_wp2_with fail
                refine bodyPost_ret (v := .tuple #[.agg #[.slice none 0 0, .slice none 0 0, .int .u64 0], .bool false]) (by simp [results, Tryz.results63, go_sem, r0, r1', r2']) rfl ?_
                unfold RDecOut
                rw [HV.out]
                exact ⟨rfl, ((HB7.out.setCell (Nat.le_refl _) _).setCell (Nat.le_refl _) _).setCell (Nat.le_refl _) _⟩
              · have hrbi : ¬ (0 : Int) < (r5.b.length : Int) := by omega
                go_wp2_with fail
                clear f0 f1 e0 e1
                refine (rright_any (fun _ => True) _ ⟨ins, outs, sec⟩ a1 a2 c1 c2 HWT.out).mono ?_
                rintro e w7 ⟨rfl, hb7⟩
                have HD7 := Lib.hid (HD6.out.keepB HL.out hb7)
                have HN7 := Lib.hid (notesR.keepB HN6.out hb7)
                have HI7 := Lib.hid (spentsR.keepB HI6.out hb7)
                clear j0 j1 t0 t1 HB7
                obtain ⟨t0, t1⟩ := box_cells HD7.out.box
                obtain ⟨f0, f1⟩ := box_cells HD7.out.res
                have HB7 := Lib.hid HD7.out.below
                cases hdn : rightB ⟨ins, outs, sec⟩ with
                | false =>
                  have HV : Hid (refDecodeS bs = none) := by show _ = _; rw [HDEC.out, if_pos (.inr (.inr hdn))]
                  obtain ⟨r0, r1', r2'⟩ := read3 (x := .slice none 0 0) (y := .slice none 0 0) (z := .int .u64 0) (f0 0) (f0 1) (f0 2)
                  go_wp2_with fail
                  refine bodyPost_ret (v := .tuple #[.agg #[.slice none 0 0, .slice none 0 0, .int .u64 0], .bool false]) (by simp [results, Tryz.results63, go_sem, r0, r1', r2']) rfl ?_
                  unfold RDecOut
                  rw [HV.out]
                  exact ⟨rfl, ((HB7.out.setCell (Nat.le_refl _) _).setCell (Nat.le_refl _) _).setCell (Nat.le_refl _) _⟩
                | true =>
                  have HV : Hid (refDecodeS bs = some ⟨ins, outs, sec⟩) := by show _ = _; rw [HDEC.out, if_neg (by
                    rintro (h | h | h)
                    · rw [hfl] at h; cases h
                    · exact hrb h
                    · rw [hdn] at h; cases h)]
                  obtain ⟨r0, r1', r2'⟩ := read3 (x := .slice a1 ins.length c1) (y := .slice a2 outs.length c2) (z := .int .u64 sec) (f0 0) (f0 1) (f0 2)
                  go_wp2_with fail
                  refine bodyPost_ret (v := .tuple #[.agg #[.slice a1 ins.length c1, .slice a2 outs.length c2, .int .u64 sec], .bool true]) (by simp [results, Tryz.results63, go_sem, r0, r1', r2']) rfl ?_
                  have hkf : Kept (fun k => B ≤ k) w7 (((w7.setCell ⟨w.heap.size, 0, none⟩ (.slice a1 ins.length c1)).setCell ⟨w.heap.size, 1, none⟩ (.slice a2 outs.length c2)).setCell ⟨w.heap.size, 2, none⟩ (.int .u64 sec)) := by
                    have hn : w.heap.size < w7.heap.size → ¬ B ≤ w.heap.size := fun _ h => by have := HL.out.wq; have := HL.out.qB; omega
                    exact (((Kept.refl _ _).setCell hn _).setCell hn _).setCell hn _
                  unfold RDecOut
                  rw [HV.out]
                  exact ⟨a1, c1, a2, c2, rfl, spentsR.mono (spentsR.keep HI7.out (hkf.mono fun k _ h => h.1)) fun _ _ _ => trivial, notesR.mono (notesR.keep HN7.out (hkf.mono fun k _ h => Nat.le_trans hCB h)) fun _ _ _ => trivial, okU_of s0 (by show sec < _; omega),
                    ((HB7.out.setCell (Nat.le_refl _) _).setCell (Nat.le_refl _) _).setCell (Nat.le_refl _) _⟩
    · have hki : ¬ (k : Int) < (N : Int) := by omega
      have HI1 : Hid (RfM.spents N r1 [] = (ins, rd)) := by
        show _ = _
        rw [← hinv.out, show N - k = 0 by omega]; rfl
      clear hinv hil
      have hCB := hd.base
      have HINS := Lib.hid (spentsR.bound hown.slice)
      obtain ⟨a1, c1, rfl, -, -⟩ := sliceR.form hown.slice
      obtain ⟨C, hC⟩ : ∃ C, wr.heap.size = C := ⟨_, rfl⟩
      rw [hC] at hCB
      have HINS2 : Hid (spentsR.rel (fun x => B ≤ x ∧ x < C) wr [.slice a1 ins.length c1] ins) := spentsR.mono HINS.out fun x _ h => ⟨h.1.resolve_left id, by rw [← hC]; exact h.2⟩
      have HDw := Lib.hid hd
      have hCw : C ≤ wr.heap.size := by omega
      clear hd hown HINS hC HD2
      go_wp2_with fail
      clear f0 f1
      refine (rfInt_any wr p rd HDw.out.rd 4 (by omega)).mono ?_
      rintro e w3 ⟨rfl, h3, n2, n3⟩
      have HD3 := Lib.hid (HDw.out.read HL.out h3)
      have HI3 : Hid (spentsR.rel (fun x => B ≤ x ∧ x < C) w3 [.slice a1 ins.length c1] ins) := spentsR.keep HINS2.out (h3.2.mono fun x _ h => Nat.ne_of_gt (Nat.lt_of_lt_of_le HL.out.pB h.1))
      have hC3 : C ≤ w3.heap.size := Nat.le_trans hCw h3.2.size
      obtain ⟨M2, hM⟩ := Int.eq_ofNat_of_zero_le n2
      have HM := Lib.hid hM
      rw [hM] at n3 ⊢
      clear hM n2 h3 HDw HINS2
      obtain ⟨r2, hr2⟩ : ∃ r2, (rd.int 4).2 = r2 := ⟨_, rfl⟩
      have HR2 := Lib.hid hr2
      rw [hr2] at HD3
      clear hr2
      have hM4 : M2 ≤ 4 := by omega
      go_wp2_with fail
      go_loopw [9] (fun vi wr => ∃ (k : Nat) (rd : RfM) (v : Value) (outs : List NoteM), k ≤ M2 ∧ vi = .int .i64 k ∧ outs.length = k ∧ DcAt w p q B (.slice a1 ins.length c1) v 0 rd wr ∧ NtOwn C wr v outs ∧ spentsR.rel (fun x => B ≤ x ∧ x < C) wr [.slice a1 ins.length c1] ins ∧ C ≤ wr.heap.size ∧ Hid (RfM.notes (M2 - k) rd outs = RfM.notes M2 r2 [])) (fun vi _ => M2 - (intOf vi).toNat)
      case atStart => exact ⟨0, r2, .slice none 0 0, [], Nat.zero_le _, rfl, rfl, HD3.out, Own.nil _ _ _ _ _, HI3.out, hC3, rfl⟩
      case round =>
        obtain ⟨k2, rd2, v, outs, hk2, rfl, hol, hd, hown, hins, hCr, hinv⟩ := hrel
        obtain ⟨ra, rc, q1, -, -⟩ := hd.rd
        obtain ⟨f0, f1⟩ := box_cells q1
        clear q1
        by_cases hks2 : k2 < M2
        · cases hf : rd2.fail with
          | false =>
            rw [hf] at f0
            obtain ⟨j, hj⟩ : ∃ j, M2 - k2 = j + 1 := ⟨M2 - k2 - 1, by omega⟩
            have hki : (k2 : Int) < (M2 : Int) := by omega
            have HJ2 : Hid (M2 - (k2 + 1) = j) := by show _ = _; omega
            rw [hj] at hinv
            clear hj
            have HI : Hid (RfM.notes j rd2.n4 (outs ++ [rd2.note]) = RfM.notes M2 r2 []) := by
              show _ = _
              rw [← hinv.out]
              show _ = if rd2.fail = true then (outs, rd2) else RfM.notes j rd2.n4 (outs ++ [rd2.note])
              rw [if_neg (by rw [hf]; simp)]
            have HDr := Lib.hid (hd.drew HL.out)
            have HOr := Lib.hid (show NtOwn C wr.drew v outs from hown.keepB (Below.refl _ _).drew)
            have HIr := Lib.hid (spentsR.keepB hins (Below.refl _ _).drew)
            obtain ⟨x0, x1⟩ := box_cells hd.box
            clear hinv hd hown hins
            have HLT := Lib.hid (fun k (hk : v.ownBlock = some k) => (HOr.out.lt hk).1)
            go_wp2_with fail
            clear f0 f1
            go_region_law (first
              | (refine step_append_rel (r := noteR) (base := C) (v := v) (u := .slice (some ⟨w4.heap.size, 0, none⟩) 1 1) (S := fun _ => False) rfl _ _ rfl Tryz.etyNote rfl rfl (Own.keepB O1.out (bnew (Below.refl _ _) _)) (Src.one (noteR.mk okn) (CellsAt.new w4 [.int .u64 rd2.note.value, .int .u64 rd2.note.owner, .int .u64 rd2.note.rho, .int .u64 rd2.note.blind] 161)) (fun k _ hk => hk.elim) (fun k hk h => h) (by unfold maxLen; simp; omega) (by simp; omega) (by rw [World.size_alloc]; omega) ?_
                 intro v2 w8 ho8 hk8 hl8
                 obtain ⟨a2, cap2, rfl, -, -⟩ := sliceR.form ho8.slice
                 have hk9 : Kept (fun k => k < C) (w4.alloc (.cells #[.int .u64 rd2.note.value, .int .u64 rd2.note.owner, .int .u64 rd2.note.rho, .int .u64 rd2.note.blind] 161)) w8 := hk8.mono fun k _ hkC he => by have := (Own.lt O1.out he).2.2; omega
                 have G8 := Lib.hid (DcAt.kept HL.out (DcAt.keepB HL.out G1.out (bnew (Below.refl _ _) _)) (hk9.mono (S' := fun k => k < B) fun k _ hkB => Nat.lt_of_lt_of_le hkB hCB))
                 have I8 := Lib.hid (spentsR.keep (spentsR.keepB I1.out (bnew (Below.refl _ _) _)) (hk9.mono fun k _ h => h.2))
                 have hC8 : C ≤ w8.heap.size := Nat.le_trans hC4 (Nat.le_trans (by rw [World.size_alloc]; omega) hk9.size)
                 have O8 : Hid (NtOwn C w8 (.slice a2 (outs ++ [rd2.note]).length cap2) (outs ++ [rd2.note])) := ho8.mono fun k _ h => by
                   rcases h with h | h
                   · exact h
                   · exact .inr (Nat.le_trans hC4 (Nat.le_trans (by rw [World.size_alloc]; omega) h))
                 obtain ⟨t0, t1⟩ := box_cells G8.out.box)
              | (go_simp; go_at_call 103; refine (rread_any _ p rd2 HDr.out.rd).mono ?_; rintro e w4 ⟨rfl, g1, okn⟩
                 have G1 := Lib.hid (DcAt.read HL.out HDr.out g1); have O1 := Lib.hid (NtOwn.rread HOr.out (Nat.lt_of_lt_of_le HL.out.pB hCB) g1); obtain ⟨y0, y1⟩ := box_cells G1.out.box; have yy := fun o' => (box_cells (box_old (o' := o') G1.out.box)).1
                 have hC4 : C ≤ w4.heap.size := Nat.le_trans hCr g1.2.size
                 have I1 := Lib.hid (spentsR.keep HIr.out (g1.2.mono fun x _ h => Nat.ne_of_gt (Nat.lt_of_lt_of_le HL.out.pB h.1)))))
            all_goals
              have HFIN := Lib.hid (DcAt.store HL.out G8.out 1 (.slice a2 (outs ++ [rd2.note]).length cap2) rfl)
              have O9 := Lib.hid (NtOwn.store O8.out (Nat.lt_of_lt_of_le HL.out.qB hCB) 1 (.slice a2 (outs ++ [rd2.note]).length cap2))
              have I9 := Lib.hid (spentsR.keep I8.out ((Kept.refl _ w8).setCell (p := ⟨q, 1, none⟩) (fun _ h => by have h' : B ≤ q ∧ q < C := h; have := HL.out.qB; omega) (.slice a2 (outs ++ [rd2.note]).length cap2)))
              have hC9 : C ≤ (w8.setCell ⟨q, 1, none⟩ (.slice a2 (outs ++ [rd2.note]).length cap2)).heap.size := by rw [World.size_setCell]; exact hC8
              go_wp2_with fail
              go_roundw
              case rel => exact ⟨k2 + 1, rd2.n4, .slice a2 (outs ++ [rd2.note]).length cap2, outs ++ [rd2.note], by omega, by go_num, by rw [List.length_append, hol]; rfl, by simpa [hol] using HFIN.out, by simpa [hol] using O9.out, by simpa [hol] using I9.out, by simpa [hol] using hC9, by rw [HJ2.out]; exact HI⟩
              case measure => simp [intOf]; omega
          | true =>
            rw [hf] at f0
            have hki : (k2 : Int) < (M2 : Int) := by omega
            have hinv2 : RfM.notes M2 r2 [] = (outs, rd2) := by
              rw [← hinv.out]
              obtain ⟨j, hj⟩ : ∃ j, M2 - k2 = j + 1 := ⟨M2 - k2 - 1, by omega⟩
              rw [hj]
              unfold RfM.notes
              rw [if_pos hf]
            have holm : outs.length ≤ 4 := by omega
            clear hinv hol
            have HI2 : Hid (RfM.notes M2 r2 [] = (outs, rd2)) := hinv2
            obtain ⟨a2, c2, rfl, -, -⟩ := sliceR.form hown.slice
            have HNT := Lib.hid (notesR.mono hown.slice (S' := fun k => C ≤ k) fun x _ h => h.resolve_left id)
            have HIN := Lib.hid hins
            have HDw := Lib.hid hd
            have HDEC : Hid (refDecodeS bs = if (rd2.uint 18446744073709551615).2.fail = true ∨ (rd2.uint 18446744073709551615).2.b.length > 0 ∨ rightB ⟨ins, outs, (rd2.uint 18446744073709551615).1⟩ = false then none else some ⟨ins, outs, (rd2.uint 18446744073709551615).1⟩) := by
              show _ = _
              unfold refDecodeS
              rw [HN.out, HR1.out, Int.toNat_natCast, HI1.out]
              simp only
              rw [HM.out, HR2.out, Int.toNat_natCast, HI2.out]
            clear hinv2 hd hown hins HD3 HI3
            go_wp2_with fail
            clear f0 f1
            refine (rfUint_any _ p rd2 HDw.out.rd 18446744073709551615 (by omega)).mono ?_
            rintro e w5 ⟨rfl, h5, s0, s1⟩
            have HD5 := Lib.hid (HDw.out.read HL.out h5)
            have HN5 := Lib.hid (notesR.keep HNT.out (h5.2.mono fun x _ h => Nat.ne_of_gt (Nat.lt_of_lt_of_le HL.out.pB (Nat.le_trans hCB h))))
            have HI5 := Lib.hid (spentsR.keep HIN.out (h5.2.mono fun x _ h => Nat.ne_of_gt (Nat.lt_of_lt_of_le HL.out.pB h.1)))
            generalize rd2.uint 18446744073709551615 = t at *
            obtain ⟨sec, r5⟩ := t
            simp only at HD5 HDEC s0 s1 ⊢
            obtain ⟨t0, t1⟩ := box_cells HD5.out.box
            have HD6 := Lib.hid (DcAt.store HL.out HD5.out 2 (.int .u64 sec) (u1 := .slice a1 ins.length c1) (u2 := .slice a2 outs.length c2) (usec := sec) rfl)
            have hk6 : Kept (fun k => B ≤ k) w5 (w5.setCell ⟨q, 2, none⟩ (.int .u64 sec)) := (Kept.refl _ _).setCell (fun _ h => by have h' : B ≤ q := h; have := HL.out.qB; omega) _
            have HN6 := Lib.hid (notesR.keep HN5.out (hk6.mono fun k _ h => Nat.le_trans hCB h))
            have HI6 := Lib.hid (spentsR.keep HI5.out (hk6.mono fun k _ h => h.1))
            have HWT : Hid (WtIn (fun _ => True) (w5.setCell ⟨q, 2, none⟩ (.int .u64 sec)) ⟨ins, outs, sec⟩ a1 a2 c1 c2) := ⟨spentsR.mono HI6.out fun _ _ _ => trivial, notesR.mono HN6.out fun _ _ _ => trivial, okU_of s0 (by show sec < _; omega)⟩
            clear hk6 h5
            obtain ⟨ra, rc, q1, q2, -⟩ := HD6.out.rd
            obtain ⟨j0, j1⟩ := box_cells q1
            obtain ⟨f0, f1⟩ := box_cells HD6.out.res
            obtain ⟨e0, e1⟩ := box_cells HD6.out.box
            have HB7 := Lib.hid HD6.out.below
            have hrl := (sliceR.lens q2).2
            unfold maxLen at hrl
            clear q1 q2
            cases hfl : r5.fail with
            | true =>
              rw [hfl] at j0
              have HV : Hid (refDecodeS bs = none) := by show _ = _; rw [HDEC.out, if_pos (.inl hfl)]
              obtain ⟨r0, r1', r2'⟩ := read3 (x := .slice none 0 0) (y := .slice none 0 0) (z := .int .u64 0) (f0 0) (f0 1) (f0 2)
              go_wp2_with fail
              refine bodyPost_ret (v := .tuple #[.agg #[.slice none 0 0, .slice none 0 0, .int .u64 0], .bool false]) (by simp [results, Tryz.results63, go_sem, r0, r1', r2']) rfl ?_
              unfold RDecOut
              rw [HV.out]
              exact ⟨rfl, ((HB7.out.setCell (Nat.le_refl _) _).setCell (Nat.le_refl _) _).setCell (Nat.le_refl _) _⟩
            | false =>
              rw [hfl] at j0
              by_cases hrb : r5.b.length > 0
              · have hrbi : (0 : Int) < (r5.b.length : Int) := by omega
                have HV : Hid (refDecodeS bs = none) := by show _ = _; rw [HDEC.out, if_pos (.inr (.inl hrb))]
                obtain ⟨r0, r1', r2'⟩ := read3 (x := .slice none 0 0) (y := .slice none 0 0) (z := .int .u64 0) (f0 0) (f0 1) (f0 2)
                go_wp2_with fail
                refine bodyPost_ret (v := .tuple #[.agg #[.slice none 0 0, .slice none 0 0, .int .u64 0], .bool false]) (by simp [results, Tryz.results63, go_sem, r0, r1', r2']) rfl ?_
                unfold RDecOut
                rw [HV.out]
                exact ⟨rfl, ((HB7.out.setCell (Nat.le_refl _) _).setCell (Nat.le_refl _) _).setCell (Nat.le_refl _) _⟩
              · have hrbi : ¬ (0 : Int) < (r5.b.length : Int) := by omega
                go_wp2_with fail
                clear f0 f1 e0 e1
                refine (rright_any (fun _ => True) _ ⟨ins, outs, sec⟩ a1 a2 c1 c2 HWT.out).mono ?_
                rintro e w7 ⟨rfl, hb7⟩
                have HD7 := Lib.hid (HD6.out.keepB HL.out hb7)
                have HN7 := Lib.hid (notesR.keepB HN6.out hb7)
                have HI7 := Lib.hid (spentsR.keepB HI6.out hb7)
                clear j0 j1 t0 t1 HB7
                obtain ⟨t0, t1⟩ := box_cells HD7.out.box
                obtain ⟨f0, f1⟩ := box_cells HD7.out.res
                have HB7 := Lib.hid HD7.out.below
                cases hdn : rightB ⟨ins, outs, sec⟩ with
                | false =>
                  have HV : Hid (refDecodeS bs = none) := by show _ = _; rw [HDEC.out, if_pos (.inr (.inr hdn))]
                  obtain ⟨r0, r1', r2'⟩ := read3 (x := .slice none 0 0) (y := .slice none 0 0) (z := .int .u64 0) (f0 0) (f0 1) (f0 2)
                  go_wp2_with fail
                  refine bodyPost_ret (v := .tuple #[.agg #[.slice none 0 0, .slice none 0 0, .int .u64 0], .bool false]) (by simp [results, Tryz.results63, go_sem, r0, r1', r2']) rfl ?_
                  unfold RDecOut
                  rw [HV.out]
                  exact ⟨rfl, ((HB7.out.setCell (Nat.le_refl _) _).setCell (Nat.le_refl _) _).setCell (Nat.le_refl _) _⟩
                | true =>
                  have HV : Hid (refDecodeS bs = some ⟨ins, outs, sec⟩) := by show _ = _; rw [HDEC.out, if_neg (by
                    rintro (h | h | h)
                    · rw [hfl] at h; cases h
                    · exact hrb h
                    · rw [hdn] at h; cases h)]
                  obtain ⟨r0, r1', r2'⟩ := read3 (x := .slice a1 ins.length c1) (y := .slice a2 outs.length c2) (z := .int .u64 sec) (f0 0) (f0 1) (f0 2)
                  go_wp2_with fail
                  refine bodyPost_ret (v := .tuple #[.agg #[.slice a1 ins.length c1, .slice a2 outs.length c2, .int .u64 sec], .bool true]) (by simp [results, Tryz.results63, go_sem, r0, r1', r2']) rfl ?_
                  have hkf : Kept (fun k => B ≤ k) w7 (((w7.setCell ⟨w.heap.size, 0, none⟩ (.slice a1 ins.length c1)).setCell ⟨w.heap.size, 1, none⟩ (.slice a2 outs.length c2)).setCell ⟨w.heap.size, 2, none⟩ (.int .u64 sec)) := by
                    have hn : w.heap.size < w7.heap.size → ¬ B ≤ w.heap.size := fun _ h => by have := HL.out.wq; have := HL.out.qB; omega
                    exact (((Kept.refl _ _).setCell hn _).setCell hn _).setCell hn _
                  unfold RDecOut
                  rw [HV.out]
                  exact ⟨a1, c1, a2, c2, rfl, spentsR.mono (spentsR.keep HI7.out (hkf.mono fun k _ h => h.1)) fun _ _ _ => trivial, notesR.mono (notesR.keep HN7.out (hkf.mono fun k _ h => Nat.le_trans hCB h)) fun _ _ _ => trivial, okU_of s0 (by show sec < _; omega),
                    ((HB7.out.setCell (Nat.le_refl _) _).setCell (Nat.le_refl _) _).setCell (Nat.le_refl _) _⟩
        · have hki : ¬ (k2 : Int) < (M2 : Int) := by omega
          have hinv2 : RfM.notes M2 r2 [] = (outs, rd2) := by
            rw [← hinv.out, show M2 - k2 = 0 by omega]; rfl
          clear hinv hol
          have HI2 : Hid (RfM.notes M2 r2 [] = (outs, rd2)) := hinv2
          obtain ⟨a2, c2, rfl, -, -⟩ := sliceR.form hown.slice
          have HNT := Lib.hid (notesR.mono hown.slice (S' := fun k => C ≤ k) fun x _ h => h.resolve_left id)
          have HIN := Lib.hid hins
          have HDw := Lib.hid hd
          have HDEC : Hid (refDecodeS bs = if (rd2.uint 18446744073709551615).2.fail = true ∨ (rd2.uint 18446744073709551615).2.b.length > 0 ∨ rightB ⟨ins, outs, (rd2.uint 18446744073709551615).1⟩ = false then none else some ⟨ins, outs, (rd2.uint 18446744073709551615).1⟩) := by
            show _ = _
            unfold refDecodeS
            rw [HN.out, HR1.out, Int.toNat_natCast, HI1.out]
            simp only
            rw [HM.out, HR2.out, Int.toNat_natCast, HI2.out]
          clear hinv2 hd hown hins HD3 HI3
          go_wp2_with fail
          clear f0 f1
          refine (rfUint_any _ p rd2 HDw.out.rd 18446744073709551615 (by omega)).mono ?_
          rintro e w5 ⟨rfl, h5, s0, s1⟩
          have HD5 := Lib.hid (HDw.out.read HL.out h5)
          have HN5 := Lib.hid (notesR.keep HNT.out (h5.2.mono fun x _ h => Nat.ne_of_gt (Nat.lt_of_lt_of_le HL.out.pB (Nat.le_trans hCB h))))
          have HI5 := Lib.hid (spentsR.keep HIN.out (h5.2.mono fun x _ h => Nat.ne_of_gt (Nat.lt_of_lt_of_le HL.out.pB h.1)))
          generalize rd2.uint 18446744073709551615 = t at *
          obtain ⟨sec, r5⟩ := t
          simp only at HD5 HDEC s0 s1 ⊢
          obtain ⟨t0, t1⟩ := box_cells HD5.out.box
          have HD6 := Lib.hid (DcAt.store HL.out HD5.out 2 (.int .u64 sec) (u1 := .slice a1 ins.length c1) (u2 := .slice a2 outs.length c2) (usec := sec) rfl)
          have hk6 : Kept (fun k => B ≤ k) w5 (w5.setCell ⟨q, 2, none⟩ (.int .u64 sec)) := (Kept.refl _ _).setCell (fun _ h => by have h' : B ≤ q := h; have := HL.out.qB; omega) _
          have HN6 := Lib.hid (notesR.keep HN5.out (hk6.mono fun k _ h => Nat.le_trans hCB h))
          have HI6 := Lib.hid (spentsR.keep HI5.out (hk6.mono fun k _ h => h.1))
          have HWT : Hid (WtIn (fun _ => True) (w5.setCell ⟨q, 2, none⟩ (.int .u64 sec)) ⟨ins, outs, sec⟩ a1 a2 c1 c2) := ⟨spentsR.mono HI6.out fun _ _ _ => trivial, notesR.mono HN6.out fun _ _ _ => trivial, okU_of s0 (by show sec < _; omega)⟩
          clear hk6 h5
          obtain ⟨ra, rc, q1, q2, -⟩ := HD6.out.rd
          obtain ⟨j0, j1⟩ := box_cells q1
          obtain ⟨f0, f1⟩ := box_cells HD6.out.res
          obtain ⟨e0, e1⟩ := box_cells HD6.out.box
          have HB7 := Lib.hid HD6.out.below
          have hrl := (sliceR.lens q2).2
          unfold maxLen at hrl
          clear q1 q2
          cases hfl : r5.fail with
          | true =>
            rw [hfl] at j0
            have HV : Hid (refDecodeS bs = none) := by show _ = _; rw [HDEC.out, if_pos (.inl hfl)]
            obtain ⟨r0, r1', r2'⟩ := read3 (x := .slice none 0 0) (y := .slice none 0 0) (z := .int .u64 0) (f0 0) (f0 1) (f0 2)
            go_wp2_with fail
            refine bodyPost_ret (v := .tuple #[.agg #[.slice none 0 0, .slice none 0 0, .int .u64 0], .bool false]) (by simp [results, Tryz.results63, go_sem, r0, r1', r2']) rfl ?_
            unfold RDecOut
            rw [HV.out]
            exact ⟨rfl, ((HB7.out.setCell (Nat.le_refl _) _).setCell (Nat.le_refl _) _).setCell (Nat.le_refl _) _⟩
          | false =>
            rw [hfl] at j0
            by_cases hrb : r5.b.length > 0
            · have hrbi : (0 : Int) < (r5.b.length : Int) := by omega
              have HV : Hid (refDecodeS bs = none) := by show _ = _; rw [HDEC.out, if_pos (.inr (.inl hrb))]
              obtain ⟨r0, r1', r2'⟩ := read3 (x := .slice none 0 0) (y := .slice none 0 0) (z := .int .u64 0) (f0 0) (f0 1) (f0 2)
              go_wp2_with fail
              refine bodyPost_ret (v := .tuple #[.agg #[.slice none 0 0, .slice none 0 0, .int .u64 0], .bool false]) (by simp [results, Tryz.results63, go_sem, r0, r1', r2']) rfl ?_
              unfold RDecOut
              rw [HV.out]
              exact ⟨rfl, ((HB7.out.setCell (Nat.le_refl _) _).setCell (Nat.le_refl _) _).setCell (Nat.le_refl _) _⟩
            · have hrbi : ¬ (0 : Int) < (r5.b.length : Int) := by omega
              go_wp2_with fail
              clear f0 f1 e0 e1
              refine (rright_any (fun _ => True) _ ⟨ins, outs, sec⟩ a1 a2 c1 c2 HWT.out).mono ?_
              rintro e w7 ⟨rfl, hb7⟩
              have HD7 := Lib.hid (HD6.out.keepB HL.out hb7)
              have HN7 := Lib.hid (notesR.keepB HN6.out hb7)
              have HI7 := Lib.hid (spentsR.keepB HI6.out hb7)
              clear j0 j1 t0 t1 HB7
              obtain ⟨t0, t1⟩ := box_cells HD7.out.box
              obtain ⟨f0, f1⟩ := box_cells HD7.out.res
              have HB7 := Lib.hid HD7.out.below
              cases hdn : rightB ⟨ins, outs, sec⟩ with
              | false =>
                have HV : Hid (refDecodeS bs = none) := by show _ = _; rw [HDEC.out, if_pos (.inr (.inr hdn))]
                obtain ⟨r0, r1', r2'⟩ := read3 (x := .slice none 0 0) (y := .slice none 0 0) (z := .int .u64 0) (f0 0) (f0 1) (f0 2)
                go_wp2_with fail
                refine bodyPost_ret (v := .tuple #[.agg #[.slice none 0 0, .slice none 0 0, .int .u64 0], .bool false]) (by simp [results, Tryz.results63, go_sem, r0, r1', r2']) rfl ?_
                unfold RDecOut
                rw [HV.out]
                exact ⟨rfl, ((HB7.out.setCell (Nat.le_refl _) _).setCell (Nat.le_refl _) _).setCell (Nat.le_refl _) _⟩
              | true =>
                have HV : Hid (refDecodeS bs = some ⟨ins, outs, sec⟩) := by show _ = _; rw [HDEC.out, if_neg (by
                  rintro (h | h | h)
                  · rw [hfl] at h; cases h
                  · exact hrb h
                  · rw [hdn] at h; cases h)]
                obtain ⟨r0, r1', r2'⟩ := read3 (x := .slice a1 ins.length c1) (y := .slice a2 outs.length c2) (z := .int .u64 sec) (f0 0) (f0 1) (f0 2)
                go_wp2_with fail
                refine bodyPost_ret (v := .tuple #[.agg #[.slice a1 ins.length c1, .slice a2 outs.length c2, .int .u64 sec], .bool true]) (by simp [results, Tryz.results63, go_sem, r0, r1', r2']) rfl ?_
                have hkf : Kept (fun k => B ≤ k) w7 (((w7.setCell ⟨w.heap.size, 0, none⟩ (.slice a1 ins.length c1)).setCell ⟨w.heap.size, 1, none⟩ (.slice a2 outs.length c2)).setCell ⟨w.heap.size, 2, none⟩ (.int .u64 sec)) := by
                  have hn : w.heap.size < w7.heap.size → ¬ B ≤ w.heap.size := fun _ h => by have := HL.out.wq; have := HL.out.qB; omega
                  exact (((Kept.refl _ _).setCell hn _).setCell hn _).setCell hn _
                unfold RDecOut
                rw [HV.out]
                exact ⟨a1, c1, a2, c2, rfl, spentsR.mono (spentsR.keep HI7.out (hkf.mono fun k _ h => h.1)) fun _ _ _ => trivial, notesR.mono (notesR.keep HN7.out (hkf.mono fun k _ h => Nat.le_trans hCB h)) fun _ _ _ => trivial, okU_of s0 (by show sec < _; omega),
                  ((HB7.out.setCell (Nat.le_refl _) _).setCell (Nat.le_refl _) _).setCell (Nat.le_refl _) _⟩
end Go.Proofs.YtgjemeeeignlnaaGreatDoor
