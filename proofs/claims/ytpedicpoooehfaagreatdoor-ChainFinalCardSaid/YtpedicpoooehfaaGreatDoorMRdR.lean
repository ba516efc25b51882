/- The reference's reader, in plain numbers, and that it reads the same witnesses; no conditions. -/
import Derived.Test.YtpedicpoooehfaaGreatDoorMRd
import Derived.Test.YtpedicpoooehfaaGreatDoorMSp
import Derived.Test.YtpedicpoooehfaaGreatDoorMRef
namespace Go.Proofs.YtpedicpoooehfaaGreatDoor
structure RfM where
  b : List Int
  fail : Bool
def RfM.bad (r : RfM) : RfM := ⟨r.b, true⟩
def RfM.take (r : RfM) (n : Nat) : List Int × RfM := if r.fail = true ∨ r.b.length < n then ([], r.bad) else (r.b.take n, ⟨r.b.drop n, false⟩)
def RfM.uint (r : RfM) (most : Int) : Int × RfM := if (r.take 8).2.fail = true ∨ most < leN (r.take 8).1 then (0, (r.take 8).2.bad) else (leN (r.take 8).1, (r.take 8).2)
def RfM.int (r : RfM) (most : Int) : Int × RfM := if (r.take 4).2.fail = true ∨ most < leN (r.take 4).1 then (0, (r.take 4).2.bad) else (leN (r.take 4).1, (r.take 4).2)
def RfM.many (p : Int) : Nat → RfM → List Int → List Int × RfM
  | 0, r, acc => (acc, r)
  | k + 1, r, acc => if p ≤ leN (r.take 8).1 then ([], (r.take 8).2.bad) else RfM.many p k (r.take 8).2 (acc ++ [leN (r.take 8).1])
def RfM.list (r : RfM) (most p : Int) : List Int × RfM :=
  if (r.int most).2.fail = true ∨ ((r.int most).2.b.length : Int) / 8 < (r.int most).1 then ([], (r.int most).2.bad) else RfM.many p (r.int most).1.toNat (r.int most).2 []
def RfM.n1 (r : RfM) : RfM := (r.uint 18446744073709551615).2
def RfM.n2 (r : RfM) : RfM := (r.n1.uint 18446744073709551615).2
def RfM.n3 (r : RfM) : RfM := (r.n2.uint 18446744073709551615).2
def RfM.n4 (r : RfM) : RfM := (r.n3.uint 18446744073709551615).2
def RfM.note (r : RfM) : NoteM := ⟨(r.uint 18446744073709551615).1, (r.n1.uint 18446744073709551615).1, (r.n2.uint 18446744073709551615).1, (r.n3.uint 18446744073709551615).1⟩
def RfM.s1 (r : RfM) : RfM := (r.n4.uint 18446744073709551615).2
def RfM.s2 (r : RfM) : RfM := (r.s1.int 4294967296).2
def RfM.s3 (r : RfM) : RfM := (r.s2.int 4294967296).2
def RfM.s4 (r : RfM) : RfM := (r.s3.list 12 18446744069414584321).2
def RfM.s5 (r : RfM) : RfM := (r.s4.int 1).2
def RfM.spent (r : RfM) : SpentM := ⟨r.note, (r.n4.uint 18446744073709551615).1, (r.s1.int 4294967296).1, (r.s2.int 4294967296).1, (r.s3.list 12 18446744069414584321).1, (r.s4.int 1).1 == 1⟩
def RfM.spents : Nat → RfM → List SpentM → List SpentM × RfM
  | 0, r, acc => (acc, r)
  | k + 1, r, acc => if r.fail = true then (acc, r) else RfM.spents k r.s5 (acc ++ [r.spent])
def RfM.notes : Nat → RfM → List NoteM → List NoteM × RfM
  | 0, r, acc => (acc, r)
  | k + 1, r, acc => if r.fail = true then (acc, r) else RfM.notes k r.n4 (acc ++ [r.note])
/-- One of the Ins has bytes. -/
def rightIn (x : SpentM) : Bool := decide (x.path.length ≤ 12 ∧ 0 ≤ x.position ∧ x.position < 4096) && (noteB x.note && (elemB x.key && (decide (0 ≤ x.number ∧ x.number < 4) && elemsB x.path)))
theorem and5 {a b c d e : Bool} (ha : a = true) (hb : b = true) (hc : c = true) (hd : d = true) (he : e = true) : (a && (b && (c && (d && e)))) = true := by subst ha hb hc hd he; rfl
theorem and4f {a b c d e : Bool} (h : d = false) : (a && (b && (c && (d && e)))) = false := by subst h; simp
theorem and1f {a b : Bool} (h : a = false) : (a && b) = false := by subst h; rfl
/-- Both readers are at the same place. -/
structure Sim (r : RdM) (q : RfM) : Prop where
  rok : r.failed = false
  qok : q.fail = false
  pos : r.pos ≤ r.bytes.length
  same : q.b = r.bytes.drop r.pos
  bytes : ∀ d ∈ r.bytes, 0 ≤ d ∧ d < 256
theorem Sim.dig {r : RdM} {q : RfM} (h : Sim r q) (n : Nat) :
    ((r.dig n).2.1 = true ∧ (q.take n).2.fail = false ∧ (r.dig n).1 = leN (q.take n).1 ∧ Sim (r.dig n).2.2 (q.take n).2 ∧ 0 ≤ (r.dig n).1 ∧ (r.dig n).1 < 256 ^ n) ∨
    ((r.dig n).2.1 = false ∧ (r.dig n).2.2.failed = true ∧ (q.take n).2.fail = true) := by
  have hl : q.b.length = r.bytes.length - r.pos := by rw [h.same, List.length_drop]
  have hpos := h.pos
  unfold RdM.dig RfM.take RdM.bad
  by_cases hb : r.bytes.length < r.pos + n
  · right
    have e1 : (r.failed || decide (r.bytes.length < r.pos + n)) = true := by simp [hb]
    have e2 : q.fail = true ∨ q.b.length < n := .inr (by omega)
    rw [if_pos e1, if_pos e2]
    exact ⟨rfl, rfl, rfl⟩
  · left
    have e1 : ¬ (r.failed || decide (r.bytes.length < r.pos + n)) = true := by simp [h.rok, hb]
    have e2 : ¬ (q.fail = true ∨ q.b.length < n) := by rw [h.qok]; rintro (h | h); cases h; omega
    rw [if_neg e1, if_neg e2]
    have h2 := leN_in ((r.bytes.drop r.pos).take n) fun d hd => h.bytes d (List.mem_of_mem_drop (List.mem_of_mem_take hd))
    have h3 : ((r.bytes.drop r.pos).take n).length = n := by simp; omega
    rw [h3] at h2
    refine ⟨rfl, rfl, ?_, ⟨h.rok, rfl, by simp only [RdM.to]; omega, ?_, h.bytes⟩, h2.1, h2.2⟩
    · simp only [RdM.num, h.same]
    · simp only [RdM.to, h.same, List.drop_drop]
theorem dig_failed {r : RdM} (h : r.failed = true) (n : Nat) : (r.dig n).2.1 = false ∧ (r.dig n).2.2.failed = true ∧ (r.dig n).1 = 0 := by
  unfold RdM.dig RdM.bad; simp [h, RdM.fail]
theorem take_failed {q : RfM} (h : q.fail = true) (n : Nat) : (q.take n).2.fail = true := by
  unfold RfM.take; simp [h, RfM.bad]
theorem uint_failed {r : RdM} (h : r.failed = true) (m : Int) : (r.uint m).2.failed = true := by
  unfold RdM.uint; rw [if_pos (.inl (dig_failed h 8).1)]; rfl
theorem int_failed {r : RdM} (h : r.failed = true) (m : Int) : (r.int m).2.failed = true := by
  unfold RdM.int; rw [if_pos (.inl (dig_failed h 4).1)]; rfl
theorem list_failed {r : RdM} (h : r.failed = true) (m p : Int) : (r.list m p).2.failed = true := by
  unfold RdM.list; rw [if_pos (.inl (int_failed h m))]; rfl
theorem ruint_failed {q : RfM} (h : q.fail = true) (m : Int) : (q.uint m).2.fail = true := by
  unfold RfM.uint; rw [if_pos (.inl (take_failed h 8))]; rfl
theorem rint_failed {q : RfM} (h : q.fail = true) (m : Int) : (q.int m).2.fail = true := by
  unfold RfM.int; rw [if_pos (.inl (take_failed h 4))]; rfl
theorem rlist_failed {q : RfM} (h : q.fail = true) (m p : Int) : (q.list m p).2.fail = true := by
  unfold RfM.list; rw [if_pos (.inl (rint_failed h m))]; rfl
/-- A number with a bound m, which the reference reads with a greater one. -/
theorem Sim.uint {r : RdM} {q : RfM} (h : Sim r q) (m M : Int) (hm : m ≤ M) (hM : 18446744073709551615 ≤ M ∨ M = m) :
    ((r.uint m).1 = (q.uint M).1 ∧ Sim (r.uint m).2 (q.uint M).2 ∧ 0 ≤ (r.uint m).1 ∧ (r.uint m).1 ≤ m) ∨ ((r.uint m).2.failed = true ∧ ((q.uint M).2.fail = true ∨ m < (q.uint M).1)) := by
  unfold RdM.uint RfM.uint
  rcases h.dig 8 with ⟨h1, h2, h3, h4, h5, h6⟩ | ⟨h1, h2, h3⟩
  · rw [h3] at h5 h6
    rw [h1, h2, h3]
    by_cases hb : m < leN (q.take 8).1
    · right
      rw [if_pos (.inr hb)]
      refine ⟨rfl, ?_⟩
      rcases hM with hM | rfl
      · rw [if_neg (by simp; omega)]; exact .inr hb
      · rw [if_pos (.inr hb)]; exact .inl rfl
    · left
      rw [if_neg (by simp; omega), if_neg (by simp; omega)]
      exact ⟨rfl, h4, h5, by show leN (q.take 8).1 ≤ m; omega⟩
  · right
    rw [if_pos (.inl h1), if_pos (.inl h3)]
    exact ⟨rfl, .inl rfl⟩
theorem Sim.int {r : RdM} {q : RfM} (h : Sim r q) (m M : Int) (hm : m ≤ M) (hM : 4294967295 ≤ M ∨ M = m) :
    ((r.int m).1 = (q.int M).1 ∧ Sim (r.int m).2 (q.int M).2 ∧ 0 ≤ (r.int m).1 ∧ (r.int m).1 ≤ m) ∨ ((r.int m).2.failed = true ∧ ((q.int M).2.fail = true ∨ m < (q.int M).1)) := by
  unfold RdM.int RfM.int
  rcases h.dig 4 with ⟨h1, h2, h3, h4, h5, h6⟩ | ⟨h1, h2, h3⟩
  · rw [h3] at h5 h6
    rw [h1, h2, h3]
    by_cases hb : m < leN (q.take 4).1
    · right
      rw [if_pos (.inr hb)]
      refine ⟨rfl, ?_⟩
      rcases hM with hM | rfl
      · rw [if_neg (by simp; omega)]; exact .inr hb
      · rw [if_pos (.inr hb)]; exact .inl rfl
    · left
      rw [if_neg (by simp; omega), if_neg (by simp; omega)]
      exact ⟨rfl, h4, h5, by show leN (q.take 4).1 ≤ m; omega⟩
  · right
    rw [if_pos (.inl h1), if_pos (.inl h3)]
    exact ⟨rfl, .inl rfl⟩
/-- With the same bound both fail or none. -/
theorem Sim.int' {r : RdM} {q : RfM} (h : Sim r q) (m : Int) :
    ((r.int m).1 = (q.int m).1 ∧ Sim (r.int m).2 (q.int m).2 ∧ 0 ≤ (r.int m).1 ∧ (r.int m).1 ≤ m) ∨ ((r.int m).2.failed = true ∧ (q.int m).2.fail = true) := by
  unfold RdM.int RfM.int
  rcases h.dig 4 with ⟨h1, h2, h3, h4, h5, h6⟩ | ⟨h1, h2, h3⟩
  · rw [h3] at h5 h6
    rw [h1, h2, h3]
    by_cases hb : m < leN (q.take 4).1
    · right
      rw [if_pos (.inr hb), if_pos (.inr hb)]
      exact ⟨rfl, rfl⟩
    · left
      rw [if_neg (by simp; omega), if_neg (by simp; omega)]
      exact ⟨rfl, h4, h5, by show leN (q.take 4).1 ≤ m; omega⟩
  · right
    rw [if_pos (.inl h1), if_pos (.inl h3)]
    exact ⟨rfl, rfl⟩
theorem Sim.many (p : Int) : ∀ (k : Nat) (r : RdM) (q : RfM) (acc : List Int), Sim r q → k * 8 ≤ q.b.length → (∀ x ∈ acc, x < p) →
    ((RdM.many p k r acc).1 = (RfM.many p k q acc).1 ∧ Sim (RdM.many p k r acc).2 (RfM.many p k q acc).2 ∧ (∀ x ∈ (RfM.many p k q acc).1, x < p) ∧ (RfM.many p k q acc).1.length = acc.length + k) ∨
    ((RdM.many p k r acc).2.failed = true ∧ (RfM.many p k q acc).2.fail = true)
  | 0, r, q, acc, h, _, ha => .inl ⟨rfl, h, ha, rfl⟩
  | k + 1, r, q, acc, h, hl, ha => by
    have hlen : (q.take 8).2.b.length = q.b.length - 8 := by
      unfold RfM.take
      rw [if_neg (by rw [h.qok]; rintro (h | h); cases h; omega)]
      simp
    rcases h.dig 8 with ⟨h1, h2, h3, h4, h5, h6⟩ | ⟨h1, h2, h3⟩
    · unfold RdM.many RfM.many
      rw [h3]
      by_cases hp : p ≤ leN (q.take 8).1
      · rw [if_pos hp, if_pos hp]
        exact .inr ⟨rfl, rfl⟩
      · rw [if_neg hp, if_neg hp]
        have := Sim.many p k (r.dig 8).2.2 (q.take 8).2 (acc ++ [leN (q.take 8).1]) h4 (by omega) (by
          intro x hx
          rcases List.mem_append.1 hx with hx | hx
          · exact ha x hx
          · simp at hx; omega)
        rw [List.length_append, List.length_singleton] at this
        rcases this with ⟨a1, a2, a3, a4⟩ | h
        · exact .inl ⟨a1, a2, a3, by omega⟩
        · exact .inr h
    · exfalso
      unfold RfM.take at h3
      rw [if_neg (by rw [h.qok]; rintro (h | h); cases h; omega)] at h3
      cases h3
theorem allUp_all {p : Nat → Bool} : ∀ {n : Nat}, (∀ k, k < n → p k = true) → allUp p n = true
  | 0, _ => rfl
  | n + 1, h => allUp_step (allUp_all fun k hk => h k (by omega)) (h n (by omega))
theorem elemsB_of {l : List Int} (h : ∀ x ∈ l, x < 18446744069414584321) : elemsB l = true := by
  refine allUp_all fun k hk => decide_eq_true ?_
  rw [getD_at l 0 k hk]
  exact h _ (List.getElem_mem hk)
theorem Sim.list {r : RdM} {q : RfM} (h : Sim r q) (m : Int) :
    ((r.list m 18446744069414584321).1 = (q.list m 18446744069414584321).1 ∧ Sim (r.list m 18446744069414584321).2 (q.list m 18446744069414584321).2 ∧ elemsB (q.list m 18446744069414584321).1 = true ∧ ((q.list m 18446744069414584321).1.length : Int) ≤ m) ∨
    ((r.list m 18446744069414584321).2.failed = true ∧ (q.list m 18446744069414584321).2.fail = true) := by
  unfold RdM.list RfM.list
  rcases h.int' m with ⟨h1, h2, h3, h4⟩ | ⟨h1, h2⟩
  · have hl : (q.int m).2.b.length = (r.int m).2.bytes.length - (r.int m).2.pos := by rw [h2.same, List.length_drop]
    rw [h2.rok, h2.qok, hl, h1]
    by_cases hb : (((r.int m).2.bytes.length - (r.int m).2.pos : Nat) : Int) / 8 < (q.int m).1
    · rw [if_pos (.inr hb), if_pos (.inr hb)]
      exact .inr ⟨rfl, rfl⟩
    · rw [if_neg (by simp; omega), if_neg (by simp; omega)]
      rw [h1] at h3 h4
      rcases Sim.many 18446744069414584321 (q.int m).1.toNat _ _ [] h2 (by omega) (fun x hx => by cases hx) with ⟨a1, a2, a3, a4⟩ | h
      · exact .inl ⟨a1, a2, elemsB_of a3, by rw [a4]; simp; omega⟩
      · exact .inr h
  · rw [if_pos (.inl h1), if_pos (.inl h2)]
    exact .inr ⟨rfl, rfl⟩
theorem note_failed {r : RdM} (h : r.failed = true) : r.n4.failed = true := uint_failed (uint_failed (uint_failed (uint_failed h _) _) _) _
theorem spent_failed {r : RdM} (h : r.failed = true) : r.s5.failed = true := int_failed (list_failed (int_failed (int_failed (uint_failed (note_failed h) _) _) _) _ _) _
theorem Sim.note {r : RdM} {q : RfM} (h : Sim r q) : (r.note = q.note ∧ Sim r.n4 q.n4 ∧ noteB q.note = true) ∨ (r.n4.failed = true ∧ (q.n4.fail = true ∨ noteB q.note = false)) := by
  rcases h.uint 4294967295 18446744073709551615 (by omega) (.inl (by omega)) with ⟨a1, s1, a2, a3⟩ | ⟨f, g⟩
  · rcases Sim.uint (r := r.n1) (q := q.n1) s1 18446744069414584320 18446744073709551615 (by omega) (.inl (by omega)) with ⟨b1, s2, b2, b3⟩ | ⟨f, g⟩
    · rcases Sim.uint (r := r.n2) (q := q.n2) s2 18446744069414584320 18446744073709551615 (by omega) (.inl (by omega)) with ⟨c1, s3, c2, c3⟩ | ⟨f, g⟩
      · rcases Sim.uint (r := r.n3) (q := q.n3) s3 18446744069414584320 18446744073709551615 (by omega) (.inl (by omega)) with ⟨d1, s4, d2, d3⟩ | ⟨f, g⟩
        · left
          refine ⟨by simp only [RdM.note, RfM.note, a1, b1, c1, d1], s4, ?_⟩
          exact decide_eq_true (by simp only [RfM.note]; omega)
        · right
          refine ⟨f, g.imp id fun g => ?_⟩
          exact decide_eq_false (by simp only [RfM.note]; omega)
      · right
        refine ⟨uint_failed f _, g.imp (fun g => ruint_failed g _) fun g => ?_⟩
        exact decide_eq_false (by simp only [RfM.note]; omega)
    · right
      refine ⟨uint_failed (uint_failed f _) _, g.imp (fun g => ruint_failed (ruint_failed g _) _) fun g => ?_⟩
      exact decide_eq_false (by simp only [RfM.note]; omega)
  · right
    refine ⟨uint_failed (uint_failed (uint_failed f _) _) _, g.imp (fun g => ruint_failed (ruint_failed (ruint_failed g _) _) _) fun g => ?_⟩
    exact decide_eq_false (by simp only [RfM.note]; omega)
theorem Sim.spent {r : RdM} {q : RfM} (h : Sim r q) : (r.spent = q.spent ∧ Sim r.s5 q.s5 ∧ rightIn q.spent = true) ∨ (r.s5.failed = true ∧ (q.s5.fail = true ∨ rightIn q.spent = false)) := by
  rcases h.note with ⟨a1, s1, a2⟩ | ⟨f, g⟩
  · rcases Sim.uint (r := r.n4) (q := q.n4) s1 18446744069414584320 18446744073709551615 (by omega) (.inl (by omega)) with ⟨b1, s2, b2, b3⟩ | ⟨f, g⟩
    · rcases Sim.int (r := r.s1) (q := q.s1) s2 3 4294967296 (by omega) (.inl (by omega)) with ⟨c1, s3, c2, c3⟩ | ⟨f, g⟩
      · rcases Sim.int (r := r.s2) (q := q.s2) s3 4095 4294967296 (by omega) (.inl (by omega)) with ⟨d1, s4, d2, d3⟩ | ⟨f, g⟩
        · rcases Sim.list (r := r.s3) (q := q.s3) s4 12 with ⟨e1, s5, e2, e3⟩ | ⟨f, g⟩
          · rcases Sim.int' (r := r.s4) (q := q.s4) s5 1 with ⟨g1, s6, g2, g3⟩ | ⟨f, g⟩
            · left
              refine ⟨by simp only [RdM.spent, RfM.spent, a1, b1, c1, d1, e1, g1], s6, ?_⟩
              have k1 : elemB (q.n4.uint 18446744073709551615).1 = true := decide_eq_true (by omega)
              have k2 : decide (0 ≤ (q.s1.int 4294967296).1 ∧ (q.s1.int 4294967296).1 < 4) = true := decide_eq_true (by omega)
              have k3 : decide ((q.s3.list 12 18446744069414584321).1.length ≤ 12 ∧ 0 ≤ (q.s2.int 4294967296).1 ∧ (q.s2.int 4294967296).1 < 4096) = true := decide_eq_true (by omega)
              exact and5 k3 a2 k1 k2 e2
            · exact .inr ⟨f, .inl g⟩
          · exact .inr ⟨int_failed f _, .inl (rint_failed g _)⟩
        · right
          refine ⟨int_failed (list_failed f _ _) _, g.imp (fun g => rint_failed (rlist_failed g _ _) _) fun g => ?_⟩
          have k3 : decide ((q.s3.list 12 18446744069414584321).1.length ≤ 12 ∧ 0 ≤ (q.s2.int 4294967296).1 ∧ (q.s2.int 4294967296).1 < 4096) = false := decide_eq_false (by omega)
          exact and1f k3
      · right
        refine ⟨int_failed (list_failed (int_failed f _) _ _) _, g.imp (fun g => rint_failed (rlist_failed (rint_failed g _) _ _) _) fun g => ?_⟩
        have hd : decide (0 ≤ (q.s1.int 4294967296).1 ∧ (q.s1.int 4294967296).1 < 4) = false := decide_eq_false (by omega)
        exact and4f hd
    · right
      refine ⟨int_failed (list_failed (int_failed (int_failed f _) _) _ _) _, g.imp (fun g => rint_failed (rlist_failed (rint_failed (rint_failed g _) _) _ _) _) fun g => ?_⟩
      have hd : elemB (q.n4.uint 18446744073709551615).1 = false := decide_eq_false (by omega)
      simp only [rightIn, RfM.spent, hd, Bool.false_and, Bool.and_false]
  · right
    refine ⟨int_failed (list_failed (int_failed (int_failed (uint_failed f _) _) _) _ _) _, g.imp (fun g => rint_failed (rlist_failed (rint_failed (rint_failed (ruint_failed g _) _) _) _ _) _) fun g => ?_⟩
    simp only [rightIn, RfM.spent, g, Bool.false_and, Bool.and_false]
theorem spents_failed : ∀ (k : Nat) (r : RdM) (acc : List SpentM), r.failed = true → (RdM.spents k r acc).2.failed = true
  | 0, _, _, h => h
  | k + 1, _, _, h => spents_failed k _ _ (spent_failed h)
theorem notes_failed : ∀ (k : Nat) (r : RdM) (acc : List NoteM), r.failed = true → (RdM.notes k r acc).2.failed = true
  | 0, _, _, h => h
  | k + 1, _, _, h => notes_failed k _ _ (note_failed h)
theorem rspents_failed : ∀ (k : Nat) (q : RfM) (acc : List SpentM), q.fail = true → (RfM.spents k q acc).2.fail = true
  | 0, _, _, h => h
  | k + 1, _, _, h => by unfold RfM.spents; rw [if_pos h]; exact h
theorem rnotes_failed : ∀ (k : Nat) (q : RfM) (acc : List NoteM), q.fail = true → (RfM.notes k q acc).2.fail = true
  | 0, _, _, h => h
  | k + 1, _, _, h => by unfold RfM.notes; rw [if_pos h]; exact h
theorem rspents_bad : ∀ (k : Nat) (q : RfM) (acc : List SpentM), acc.all rightIn = false → (RfM.spents k q acc).1.all rightIn = false
  | 0, _, _, h => h
  | k + 1, q, acc, h => by
    unfold RfM.spents
    split
    · exact h
    · exact rspents_bad k _ _ (by rw [List.all_append, h, Bool.false_and])
theorem rnotes_bad : ∀ (k : Nat) (q : RfM) (acc : List NoteM), acc.all noteB = false → (RfM.notes k q acc).1.all noteB = false
  | 0, _, _, h => h
  | k + 1, q, acc, h => by
    unfold RfM.notes
    split
    · exact h
    · exact rnotes_bad k _ _ (by rw [List.all_append, h, Bool.false_and])
theorem Sim.spents : ∀ (k : Nat) (r : RdM) (q : RfM) (acc : List SpentM), Sim r q → acc.all rightIn = true →
    ((RdM.spents k r acc).1 = (RfM.spents k q acc).1 ∧ Sim (RdM.spents k r acc).2 (RfM.spents k q acc).2 ∧ (RfM.spents k q acc).1.all rightIn = true ∧ (RfM.spents k q acc).1.length = acc.length + k) ∨
    ((RdM.spents k r acc).2.failed = true ∧ ((RfM.spents k q acc).2.fail = true ∨ (RfM.spents k q acc).1.all rightIn = false))
  | 0, r, q, acc, h, ha => .inl ⟨rfl, h, ha, rfl⟩
  | k + 1, r, q, acc, h, ha => by
    unfold RdM.spents RfM.spents
    rw [if_neg (by rw [h.qok]; simp)]
    rcases h.spent with ⟨a1, s1, a2⟩ | ⟨f, g⟩
    · rw [a1]
      have := Sim.spents k r.s5 q.s5 (acc ++ [q.spent]) s1 (by rw [List.all_append, ha]; simp [a2])
      rw [List.length_append, List.length_singleton] at this
      rcases this with ⟨b1, b2, b3, b4⟩ | h
      · exact .inl ⟨b1, b2, b3, by omega⟩
      · exact .inr h
    · right
      refine ⟨spents_failed _ _ _ f, ?_⟩
      rcases g with g | g
      · exact .inl (rspents_failed _ _ _ g)
      · exact .inr (rspents_bad _ _ _ (by rw [List.all_append]; simp [g]))
theorem Sim.notes : ∀ (k : Nat) (r : RdM) (q : RfM) (acc : List NoteM), Sim r q → acc.all noteB = true →
    ((RdM.notes k r acc).1 = (RfM.notes k q acc).1 ∧ Sim (RdM.notes k r acc).2 (RfM.notes k q acc).2 ∧ (RfM.notes k q acc).1.all noteB = true ∧ (RfM.notes k q acc).1.length = acc.length + k) ∨
    ((RdM.notes k r acc).2.failed = true ∧ ((RfM.notes k q acc).2.fail = true ∨ (RfM.notes k q acc).1.all noteB = false))
  | 0, r, q, acc, h, ha => .inl ⟨rfl, h, ha, rfl⟩
  | k + 1, r, q, acc, h, ha => by
    unfold RdM.notes RfM.notes
    rw [if_neg (by rw [h.qok]; simp)]
    rcases h.note with ⟨a1, s1, a2⟩ | ⟨f, g⟩
    · rw [a1]
      have := Sim.notes k r.n4 q.n4 (acc ++ [q.note]) s1 (by rw [List.all_append, ha]; simp [a2])
      rw [List.length_append, List.length_singleton] at this
      rcases this with ⟨b1, b2, b3, b4⟩ | h
      · exact .inl ⟨b1, b2, b3, by omega⟩
      · exact .inr h
    · right
      refine ⟨notes_failed _ _ _ f, ?_⟩
      rcases g with g | g
      · exact .inl (rnotes_failed _ _ _ g)
      · exact .inr (rnotes_bad _ _ _ (by rw [List.all_append]; simp [g]))
end Go.Proofs.YtpedicpoooehfaaGreatDoor
/- The reference's reader: take, Value, Uint, Int, List. -/
namespace Go.Proofs.YtpedicpoooehfaaGreatDoor
open Go.ChangeShapes Go.WideShapes Go.ChangeAt Go.RowKit Go.Sort
theorem sliceR.takeN {α : Type} {r : Rep α} {S : Nat → Prop} {w : World} {a : Option Addr} {len cap : Nat} {xs : List α} (h : (sliceR r).rel S w [.slice a len cap] xs) (n : Nat) (hn : n ≤ xs.length) : (sliceR r).rel S w [.slice a n cap] (xs.take n) := by
  obtain ⟨a', len', cap', hv, h1, h2, h3, h4, h5⟩ := h
  simp at hv
  obtain ⟨rfl, rfl, rfl⟩ := hv
  refine ⟨_, n, _, rfl, by simp; omega, by omega, h3, h4, fun i x hx => ?_⟩
  have hi : i < n := by
    have := (List.getElem?_eq_some_iff.1 hx).1
    simp at this; omega
  rw [List.getElem?_take, if_pos hi] at hx
  exact h5 i x hx
theorem sliceR.dropN {α : Type} {r : Rep α} {S : Nat → Prop} {w : World} {b off len cap : Nat} {xs : List α} (h : (sliceR r).rel S w [.slice (some ⟨b, off, none⟩) len cap] xs) (n : Nat) (hn : n ≤ xs.length) : (sliceR r).rel S w [.slice (some ⟨b, off + n * r.n, none⟩) (len - n) (cap - n)] (xs.drop n) := by
  obtain ⟨a', len', cap', hv, h1, h2, h3, h4, h5⟩ := h
  simp at hv
  obtain ⟨rfl, rfl, rfl⟩ := hv
  refine ⟨_, _, _, rfl, by simp; omega, by omega, by omega, (fun h => by cases h), fun i x hx => ?_⟩
  rw [List.getElem?_drop] at hx
  obtain ⟨b', off', es, ha, hb, hr, hc, hlt⟩ := h5 (n + i) x hx
  simp at ha
  obtain ⟨rfl, rfl⟩ := ha
  refine ⟨_, _, es, rfl, hb, hr, ?_, hlt⟩
  rw [show off + n * r.n + i * r.n = off + (n + i) * r.n by rw [Nat.add_mul]; omega]
  exact hc
theorem bytes_in {S : Nat → Prop} {w : World} {a : Option Addr} {len cap : Nat} {l : List Int} (h : bytesR.rel S w [.slice a len cap] l) : ∀ x ∈ l, 0 ≤ x ∧ x < 256 := by
  intro x hx
  obtain ⟨k, hk, rfl⟩ := List.getElem_of_mem hx
  obtain ⟨b, off, -, -, -, h1, h2, -⟩ := bytes_at h k hk
  exact ⟨h1, h2⟩
theorem pow256 : ∀ k : Fin 9, ((k.val ≤ 4 → (256 : Int) ^ k.val ≤ 4294967296) ∧ (256 : Int) ^ k.val ≤ 18446744073709551616) ∧ (k.val ≤ 7 → (256 : Int) ^ k.val ≤ 72057594037927936) := by decide +kernel
end Go.Proofs.YtpedicpoooehfaaGreatDoor
