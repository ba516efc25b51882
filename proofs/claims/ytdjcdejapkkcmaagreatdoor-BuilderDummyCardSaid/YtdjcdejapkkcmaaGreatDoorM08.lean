/- The reference's reader, in plain numbers, and that it reads the same witnesses; no conditions. -/
import Derived.Test.YtdjcdejapkkcmaaGreatDoorM06
import Derived.Test.YtdjcdejapkkcmaaGreatDoorM07
import Derived.Test.YtdjcdejapkkcmaaGreatDoorM04
namespace Go.Proofs.YtdjcdejapkkcmaaGreatDoor

structure RfM where
  b : List Int
  fail : Bool
def RfM.bad (r : RfM) : RfM := ⟨r.b, true⟩
def RfM.take (r : RfM) (n : Nat) : List Int × RfM := if r.fail = true ∨ r.b.length < n then ([], r.bad) else (r.b.take n, ⟨r.b.drop n, false⟩)
def RfM.uint (r : RfM) (most : Int) : Int × RfM := if (r.take 8).2.fail = true ∨ most < leN (r.take 8).1 then (0, (r.take 8).2.bad) else (leN (r.take 8).1, (r.take 8).2)
def RfM.int (r : RfM) (most : Int) : Int × RfM := if (r.take 4).2.fail = true ∨ most < leN (r.take 4).1 then (0, (r.take 4).2.bad) else (leN (r.take 4).1, (r.take 4).2)
def RfM.many (p : Int) : Nat → RfM → List Int → List Int × RfM
  | 0, r, acc => (acc, r)
  | k + 1, r, acc => if p ≤ leN (r.take 8).1 then ([], (r.take 8).2.bad) else RfM.many p k (r.take 8).2 (acc ++ [leN (r.take 8).1])
def RfM.list (r : RfM) (most p : Int) : List Int × RfM :=
  if (r.int most).2.fail = true ∨ ((r.int most).2.b.length : Int) / 8 < (r.int most).1 then ([], (r.int most).2.bad) else RfM.many p (r.int most).1.toNat (r.int most).2 []
def RfM.n1 (r : RfM) : RfM := (r.uint 18446744073709551615).2
def RfM.n2 (r : RfM) : RfM := (r.n1.uint 18446744073709551615).2
def RfM.n3 (r : RfM) : RfM := (r.n2.uint 18446744073709551615).2
def RfM.n4 (r : RfM) : RfM := (r.n3.uint 18446744073709551615).2
def RfM.note (r : RfM) : NoteM := ⟨(r.uint 18446744073709551615).1, (r.n1.uint 18446744073709551615).1, (r.n2.uint 18446744073709551615).1, (r.n3.uint 18446744073709551615).1⟩
def RfM.s1 (r : RfM) : RfM := (r.n4.uint 18446744073709551615).2
def RfM.s2 (r : RfM) : RfM := (r.s1.int 4294967296).2
def RfM.s3 (r : RfM) : RfM := (r.s2.int 4294967296).2
def RfM.s4 (r : RfM) : RfM := (r.s3.list 12 18446744069414584321).2
def RfM.s5 (r : RfM) : RfM := (r.s4.int 1).2
def RfM.spent (r : RfM) : SpentM := ⟨r.note, (r.n4.uint 18446744073709551615).1, (r.s1.int 4294967296).1, (r.s2.int 4294967296).1, (r.s3.list 12 18446744069414584321).1, (r.s4.int 1).1 == 1⟩
def RfM.spents : Nat → RfM → List SpentM → List SpentM × RfM
  | 0, r, acc => (acc, r)
  | k + 1, r, acc => if r.fail = true then (acc, r) else RfM.spents k r.s5 (acc ++ [r.spent])
def RfM.notes : Nat → RfM → List NoteM → List NoteM × RfM
  | 0, r, acc => (acc, r)
  | k + 1, r, acc => if r.fail = true then (acc, r) else RfM.notes k r.n4 (acc ++ [r.note])
/-- One of the Ins has bytes. -/
def rightIn (x : SpentM) : Bool := decide (x.path.length ≤ 12 ∧ 0 ≤ x.position ∧ x.position < 4096) && (noteB x.note && (elemB x.key && (decide (0 ≤ x.number ∧ x.number < 4) && elemsB x.path)))
theorem and5 {a b c d e : Bool} (ha : a = true) (hb : b = true) (hc : c = true) (hd : d = true) (he : e = true) : (a && (b && (c && (d && e)))) = true := by subst ha hb hc hd he; rfl
theorem and4f {a b c d e : Bool} (h : d = false) : (a && (b && (c && (d && e)))) = false := by subst h; simp
theorem and1f {a b : Bool} (h : a = false) : (a && b) = false := by subst h; rfl
/-- Both readers are at the same place. -/
structure Sim (r : RdM) (q : RfM) : Prop where
  rok : r.failed = false
  qok : q.fail = false
  pos : r.pos ≤ r.bytes.length
  same : q.b = r.bytes.drop r.pos
  bytes : ∀ d ∈ r.bytes, 0 ≤ d ∧ d < 256
theorem Sim.dig {r : RdM} {q : RfM} (h : Sim r q) (n : Nat) :
    ((r.dig n).2.1 = true ∧ (q.take n).2.fail = false ∧ (r.dig n).1 = leN (q.take n).1 ∧ Sim (r.dig n).2.2 (q.take n).2 ∧ 0 ≤ (r.dig n).1 ∧ (r.dig n).1 < 256 ^ n) ∨
    ((r.dig n).2.1 = false ∧ (r.dig n).2.2.failed = true ∧ (q.take n).2.fail = true) := by
  have hl : q.b.length = r.bytes.length - r.pos := by rw [h.same, List.length_drop]
  have hpos := h.pos
  unfold RdM.dig RfM.take RdM.bad
  by_cases hb : r.bytes.length < r.pos + n
  · right
    have e1 : (r.failed || decide (r.bytes.length < r.pos + n)) = true := by simp [hb]
    have e2 : q.fail = true ∨ q.b.length < n := .inr (by omega)
    rw [if_pos e1, if_pos e2]
    exact ⟨rfl, rfl, rfl⟩
  · left
    have e1 : ¬ (r.failed || decide (r.bytes.length < r.pos + n)) = true := by simp [h.rok, hb]
    have e2 : ¬ (q.fail = true ∨ q.b.length < n) := by rw [h.qok]; rintro (h | h); cases h; omega
    rw [if_neg e1, if_neg e2]
    have h2 := leN_in ((r.bytes.drop r.pos).take n) fun d hd => h.bytes d (List.mem_of_mem_drop (List.mem_of_mem_take hd))
    have h3 : ((r.bytes.drop r.pos).take n).length = n := by simp; omega
    rw [h3] at h2
    refine ⟨rfl, rfl, ?_, ⟨h.rok, rfl, by simp only [RdM.to]; omega, ?_, h.bytes⟩, h2.1, h2.2⟩
    · simp only [RdM.num, h.same]
    · simp only [RdM.to, h.same, List.drop_drop]
theorem dig_failed {r : RdM} (h : r.failed = true) (n : Nat) : (r.dig n).2.1 = false ∧ (r.dig n).2.2.failed = true ∧ (r.dig n).1 = 0 := by
  unfold RdM.dig RdM.bad; simp [h, RdM.fail]
theorem take_failed {q : RfM} (h : q.fail = true) (n : Nat) : (q.take n).2.fail = true := by
  unfold RfM.take; simp [h, RfM.bad]
theorem uint_failed {r : RdM} (h : r.failed = true) (m : Int) : (r.uint m).2.failed = true := by
  unfold RdM.uint; rw [if_pos (.inl (dig_failed h 8).1)]; rfl
theorem int_failed {r : RdM} (h : r.failed = true) (m : Int) : (r.int m).2.failed = true := by
  unfold RdM.int; rw [if_pos (.inl (dig_failed h 4).1)]; rfl
theorem list_failed {r : RdM} (h : r.failed = true) (m p : Int) : (r.list m p).2.failed = true := by
  unfold RdM.list; rw [if_pos (.inl (int_failed h m))]; rfl
theorem ruint_failed {q : RfM} (h : q.fail = true) (m : Int) : (q.uint m).2.fail = true := by
  unfold RfM.uint; rw [if_pos (.inl (take_failed h 8))]; rfl
theorem rint_failed {q : RfM} (h : q.fail = true) (m : Int) : (q.int m).2.fail = true := by
  unfold RfM.int; rw [if_pos (.inl (take_failed h 4))]; rfl
theorem rlist_failed {q : RfM} (h : q.fail = true) (m p : Int) : (q.list m p).2.fail = true := by
  unfold RfM.list; rw [if_pos (.inl (rint_failed h m))]; rfl
/-- A number with a bound m, which the reference reads with a greater one. -/
theorem Sim.uint {r : RdM} {q : RfM} (h : Sim r q) (m M : Int) (hm : m ≤ M) (hM : 18446744073709551615 ≤ M ∨ M = m) :
    ((r.uint m).1 = (q.uint M).1 ∧ Sim (r.uint m).2 (q.uint M).2 ∧ 0 ≤ (r.uint m).1 ∧ (r.uint m).1 ≤ m) ∨ ((r.uint m).2.failed = true ∧ ((q.uint M).2.fail = true ∨ m < (q.uint M).1)) := by
  unfold RdM.uint RfM.uint
  rcases h.dig 8 with ⟨h1, h2, h3, h4, h5, h6⟩ | ⟨h1, h2, h3⟩
  · rw [h3] at h5 h6
    rw [h1, h2, h3]
    by_cases hb : m < leN (q.take 8).1
    · right
      rw [if_pos (.inr hb)]
      refine ⟨rfl, ?_⟩
      rcases hM with hM | rfl
      · rw [if_neg (by simp; omega)]; exact .inr hb
      · rw [if_pos (.inr hb)]; exact .inl rfl
    · left
      rw [if_neg (by simp; omega), if_neg (by simp; omega)]
      exact ⟨rfl, h4, h5, by show leN (q.take 8).1 ≤ m; omega⟩
  · right
    rw [if_pos (.inl h1), if_pos (.inl h3)]
    exact ⟨rfl, .inl rfl⟩
theorem Sim.int {r : RdM} {q : RfM} (h : Sim r q) (m M : Int) (hm : m ≤ M) (hM : 4294967295 ≤ M ∨ M = m) :
    ((r.int m).1 = (q.int M).1 ∧ Sim (r.int m).2 (q.int M).2 ∧ 0 ≤ (r.int m).1 ∧ (r.int m).1 ≤ m) ∨ ((r.int m).2.failed = true ∧ ((q.int M).2.fail = true ∨ m < (q.int M).1)) := by
  unfold RdM.int RfM.int
  rcases h.dig 4 with ⟨h1, h2, h3, h4, h5, h6⟩ | ⟨h1, h2, h3⟩
  · rw [h3] at h5 h6
    rw [h1, h2, h3]
    by_cases hb : m < leN (q.take 4).1
    · right
      rw [if_pos (.inr hb)]
      refine ⟨rfl, ?_⟩
      rcases hM with hM | rfl
      · rw [if_neg (by simp; omega)]; exact .inr hb
      · rw [if_pos (.inr hb)]; exact .inl rfl
    · left
      rw [if_neg (by simp; omega), if_neg (by simp; omega)]
      exact ⟨rfl, h4, h5, by show leN (q.take 4).1 ≤ m; omega⟩
  · right
    rw [if_pos (.inl h1), if_pos (.inl h3)]
    exact ⟨rfl, .inl rfl⟩
/-- With the same bound both fail or none. -/
theorem Sim.int' {r : RdM} {q : RfM} (h : Sim r q) (m : Int) :
    ((r.int m).1 = (q.int m).1 ∧ Sim (r.int m).2 (q.int m).2 ∧ 0 ≤ (r.int m).1 ∧ (r.int m).1 ≤ m) ∨ ((r.int m).2.failed = true ∧ (q.int m).2.fail = true) := by
  unfold RdM.int RfM.int
  rcases h.dig 4 with ⟨h1, h2, h3, h4, h5, h6⟩ | ⟨h1, h2, h3⟩
  · rw [h3] at h5 h6
    rw [h1, h2, h3]
    by_cases hb : m < leN (q.take 4).1
    · right
      rw [if_pos (.inr hb), if_pos (.inr hb)]
      exact ⟨rfl, rfl⟩
    · left
      rw [if_neg (by simp; omega), if_neg (by simp; omega)]
      exact ⟨rfl, h4, h5, by show leN (q.take 4).1 ≤ m; omega⟩
  · right
    rw [if_pos (.inl h1), if_pos (.inl h3)]
    exact ⟨rfl, rfl⟩
theorem Sim.many (p : Int) : ∀ (k : Nat) (r : RdM) (q : RfM) (acc : List Int), Sim r q → k * 8 ≤ q.b.length → (∀ x ∈ acc, x < p) →
    ((RdM.many p k r acc).1 = (RfM.many p k q acc).1 ∧ Sim (RdM.many p k r acc).2 (RfM.many p k q acc).2 ∧ (∀ x ∈ (RfM.many p k q acc).1, x < p) ∧ (RfM.many p k q acc).1.length = acc.length + k) ∨
    ((RdM.many p k r acc).2.failed = true ∧ (RfM.many p k q acc).2.fail = true)
  | 0, r, q, acc, h, _, ha => .inl ⟨rfl, h, ha, rfl⟩
  | k + 1, r, q, acc, h, hl, ha => by
    have hlen : (q.take 8).2.b.length = q.b.length - 8 := by
      unfold RfM.take
      rw [if_neg (by rw [h.qok]; rintro (h | h); cases h; omega)]
      simp
    rcases h.dig 8 with ⟨h1, h2, h3, h4, h5, h6⟩ | ⟨h1, h2, h3⟩
    · unfold RdM.many RfM.many
      rw [h3]
      by_cases hp : p ≤ leN (q.take 8).1
      · rw [if_pos hp, if_pos hp]
        exact .inr ⟨rfl, rfl⟩
      · rw [if_neg hp, if_neg hp]
        have := Sim.many p k (r.dig 8).2.2 (q.take 8).2 (acc ++ [leN (q.take 8).1]) h4 (by omega) (by
          intro x hx
          rcases List.mem_append.1 hx with hx | hx
          · exact ha x hx
          · simp at hx; omega)
        rw [List.length_append, List.length_singleton] at this
        rcases this with ⟨a1, a2, a3, a4⟩ | h
        · exact .inl ⟨a1, a2, a3, by omega⟩
        · exact .inr h
    · exfalso
      unfold RfM.take at h3
      rw [if_neg (by rw [h.qok]; rintro (h | h); cases h; omega)] at h3
      cases h3
theorem allUp_all {p : Nat → Bool} : ∀ {n : Nat}, (∀ k, k < n → p k = true) → allUp p n = true
  | 0, _ => rfl
  | n + 1, h => allUp_step (allUp_all fun k hk => h k (by omega)) (h n (by omega))
theorem elemsB_of {l : List Int} (h : ∀ x ∈ l, x < 18446744069414584321) : elemsB l = true := by
  refine allUp_all fun k hk => decide_eq_true ?_
  rw [getD_at l 0 k hk]
  exact h _ (List.getElem_mem hk)
theorem Sim.list {r : RdM} {q : RfM} (h : Sim r q) (m : Int) :
    ((r.list m 18446744069414584321).1 = (q.list m 18446744069414584321).1 ∧ Sim (r.list m 18446744069414584321).2 (q.list m 18446744069414584321).2 ∧ elemsB (q.list m 18446744069414584321).1 = true ∧ ((q.list m 18446744069414584321).1.length : Int) ≤ m) ∨
    ((r.list m 18446744069414584321).2.failed = true ∧ (q.list m 18446744069414584321).2.fail = true) := by
  unfold RdM.list RfM.list
  rcases h.int' m with ⟨h1, h2, h3, h4⟩ | ⟨h1, h2⟩
  · have hl : (q.int m).2.b.length = (r.int m).2.bytes.length - (r.int m).2.pos := by rw [h2.same, List.length_drop]
    rw [h2.rok, h2.qok, hl, h1]
    by_cases hb : (((r.int m).2.bytes.length - (r.int m).2.pos : Nat) : Int) / 8 < (q.int m).1
    · rw [if_pos (.inr hb), if_pos (.inr hb)]
      exact .inr ⟨rfl, rfl⟩
    · rw [if_neg (by simp; omega), if_neg (by simp; omega)]
      rw [h1] at h3 h4
      rcases Sim.many 18446744069414584321 (q.int m).1.toNat _ _ [] h2 (by omega) (fun x hx => by cases hx) with ⟨a1, a2, a3, a4⟩ | h
      · exact .inl ⟨a1, a2, elemsB_of a3, by rw [a4]; simp; omega⟩
      · exact .inr h
  · rw [if_pos (.inl h1), if_pos (.inl h2)]
    exact .inr ⟨rfl, rfl⟩
theorem note_failed {r : RdM} (h : r.failed = true) : r.n4.failed = true := uint_failed (uint_failed (uint_failed (uint_failed h _) _) _) _
theorem spent_failed {r : RdM} (h : r.failed = true) : r.s5.failed = true := int_failed (list_failed (int_failed (int_failed (uint_failed (note_failed h) _) _) _) _ _) _
theorem Sim.note {r : RdM} {q : RfM} (h : Sim r q) : (r.note = q.note ∧ Sim r.n4 q.n4 ∧ noteB q.note = true) ∨ (r.n4.failed = true ∧ (q.n4.fail = true ∨ noteB q.note = false)) := by
  rcases h.uint 4294967295 18446744073709551615 (by omega) (.inl (by omega)) with ⟨a1, s1, a2, a3⟩ | ⟨f, g⟩
  · rcases Sim.uint (r := r.n1) (q := q.n1) s1 18446744069414584320 18446744073709551615 (by omega) (.inl (by omega)) with ⟨b1, s2, b2, b3⟩ | ⟨f, g⟩
    · rcases Sim.uint (r := r.n2) (q := q.n2) s2 18446744069414584320 18446744073709551615 (by omega) (.inl (by omega)) with ⟨c1, s3, c2, c3⟩ | ⟨f, g⟩
      · rcases Sim.uint (r := r.n3) (q := q.n3) s3 18446744069414584320 18446744073709551615 (by omega) (.inl (by omega)) with ⟨d1, s4, d2, d3⟩ | ⟨f, g⟩
        · left
          refine ⟨by simp only [RdM.note, RfM.note, a1, b1, c1, d1], s4, ?_⟩
          exact decide_eq_true (by simp only [RfM.note]; omega)
        · right
          refine ⟨f, g.imp id fun g => ?_⟩
          exact decide_eq_false (by simp only [RfM.note]; omega)
      · right
        refine ⟨uint_failed f _, g.imp (fun g => ruint_failed g _) fun g => ?_⟩
        exact decide_eq_false (by simp only [RfM.note]; omega)
    · right
      refine ⟨uint_failed (uint_failed f _) _, g.imp (fun g => ruint_failed (ruint_failed g _) _) fun g => ?_⟩
      exact decide_eq_false (by simp only [RfM.note]; omega)
  · right
    refine ⟨uint_failed (uint_failed (uint_failed f _) _) _, g.imp (fun g => ruint_failed (ruint_failed (ruint_failed g _) _) _) fun g => ?_⟩
    exact decide_eq_false (by simp only [RfM.note]; omega)
theorem Sim.spent {r : RdM} {q : RfM} (h : Sim r q) : (r.spent = q.spent ∧ Sim r.s5 q.s5 ∧ rightIn q.spent = true) ∨ (r.s5.failed = true ∧ (q.s5.fail = true ∨ rightIn q.spent = false)) := by
  rcases h.note with ⟨a1, s1, a2⟩ | ⟨f, g⟩
  · rcases Sim.uint (r := r.n4) (q := q.n4) s1 18446744069414584320 18446744073709551615 (by omega) (.inl (by omega)) with ⟨b1, s2, b2, b3⟩ | ⟨f, g⟩
    · rcases Sim.int (r := r.s1) (q := q.s1) s2 3 4294967296 (by omega) (.inl (by omega)) with ⟨c1, s3, c2, c3⟩ | ⟨f, g⟩
      · rcases Sim.int (r := r.s2) (q := q.s2) s3 4095 4294967296 (by omega) (.inl (by omega)) with ⟨d1, s4, d2, d3⟩ | ⟨f, g⟩
        · rcases Sim.list (r := r.s3) (q := q.s3) s4 12 with ⟨e1, s5, e2, e3⟩ | ⟨f, g⟩
          · rcases Sim.int' (r := r.s4) (q := q.s4) s5 1 with ⟨g1, s6, g2, g3⟩ | ⟨f, g⟩
            · left
              refine ⟨by simp only [RdM.spent, RfM.spent, a1, b1, c1, d1, e1, g1], s6, ?_⟩
              have k1 : elemB (q.n4.uint 18446744073709551615).1 = true := decide_eq_true (by omega)
              have k2 : decide (0 ≤ (q.s1.int 4294967296).1 ∧ (q.s1.int 4294967296).1 < 4) = true := decide_eq_true (by omega)
              have k3 : decide ((q.s3.list 12 18446744069414584321).1.length ≤ 12 ∧ 0 ≤ (q.s2.int 4294967296).1 ∧ (q.s2.int 4294967296).1 < 4096) = true := decide_eq_true (by omega)
              exact and5 k3 a2 k1 k2 e2
            · exact .inr ⟨f, .inl g⟩
          · exact .inr ⟨int_failed f _, .inl (rint_failed g _)⟩
        · right
          refine ⟨int_failed (list_failed f _ _) _, g.imp (fun g => rint_failed (rlist_failed g _ _) _) fun g => ?_⟩
          have k3 : decide ((q.s3.list 12 18446744069414584321).1.length ≤ 12 ∧ 0 ≤ (q.s2.int 4294967296).1 ∧ (q.s2.int 4294967296).1 < 4096) = false := decide_eq_false (by omega)
          exact and1f k3
      · right
        refine ⟨int_failed (list_failed (int_failed f _) _ _) _, g.imp (fun g => rint_failed (rlist_failed (rint_failed g _) _ _) _) fun g => ?_⟩
        have hd : decide (0 ≤ (q.s1.int 4294967296).1 ∧ (q.s1.int 4294967296).1 < 4) = false := decide_eq_false (by omega)
        exact and4f hd
    · right
      refine ⟨int_failed (list_failed (int_failed (int_failed f _) _) _ _) _, g.imp (fun g => rint_failed (rlist_failed (rint_failed (rint_failed g _) _) _ _) _) fun g => ?_⟩
      have hd : elemB (q.n4.uint 18446744073709551615).1 = false := decide_eq_false (by omega)
      simp only [rightIn, RfM.spent, hd, Bool.false_and, Bool.and_false]
  · right
    refine ⟨int_failed (list_failed (int_failed (int_failed (uint_failed f _) _) _) _ _) _, g.imp (fun g => rint_failed (rlist_failed (rint_failed (rint_failed (ruint_failed g _) _) _) _ _) _) fun g => ?_⟩
    simp only [rightIn, RfM.spent, g, Bool.false_and, Bool.and_false]
theorem spents_failed : ∀ (k : Nat) (r : RdM) (acc : List SpentM), r.failed = true → (RdM.spents k r acc).2.failed = true
  | 0, _, _, h => h
  | k + 1, _, _, h => spents_failed k _ _ (spent_failed h)
theorem notes_failed : ∀ (k : Nat) (r : RdM) (acc : List NoteM), r.failed = true → (RdM.notes k r acc).2.failed = true
  | 0, _, _, h => h
  | k + 1, _, _, h => notes_failed k _ _ (note_failed h)
theorem rspents_failed : ∀ (k : Nat) (q : RfM) (acc : List SpentM), q.fail = true → (RfM.spents k q acc).2.fail = true
  | 0, _, _, h => h
  | k + 1, _, _, h => by unfold RfM.spents; rw [if_pos h]; exact h
theorem rnotes_failed : ∀ (k : Nat) (q : RfM) (acc : List NoteM), q.fail = true → (RfM.notes k q acc).2.fail = true
  | 0, _, _, h => h
  | k + 1, _, _, h => by unfold RfM.notes; rw [if_pos h]; exact h
theorem rspents_bad : ∀ (k : Nat) (q : RfM) (acc : List SpentM), acc.all rightIn = false → (RfM.spents k q acc).1.all rightIn = false
  | 0, _, _, h => h
  | k + 1, q, acc, h => by
    unfold RfM.spents
    split
    · exact h
    · exact rspents_bad k _ _ (by rw [List.all_append, h, Bool.false_and])
theorem rnotes_bad : ∀ (k : Nat) (q : RfM) (acc : List NoteM), acc.all noteB = false → (RfM.notes k q acc).1.all noteB = false
  | 0, _, _, h => h
  | k + 1, q, acc, h => by
    unfold RfM.notes
    split
    · exact h
    · exact rnotes_bad k _ _ (by rw [List.all_append, h, Bool.false_and])
theorem Sim.spents : ∀ (k : Nat) (r : RdM) (q : RfM) (acc : List SpentM), Sim r q → acc.all rightIn = true →
    ((RdM.spents k r acc).1 = (RfM.spents k q acc).1 ∧ Sim (RdM.spents k r acc).2 (RfM.spents k q acc).2 ∧ (RfM.spents k q acc).1.all rightIn = true ∧ (RfM.spents k q acc).1.length = acc.length + k) ∨
    ((RdM.spents k r acc).2.failed = true ∧ ((RfM.spents k q acc).2.fail = true ∨ (RfM.spents k q acc).1.all rightIn = false))
  | 0, r, q, acc, h, ha => .inl ⟨rfl, h, ha, rfl⟩
  | k + 1, r, q, acc, h, ha => by
    unfold RdM.spents RfM.spents
    rw [if_neg (by rw [h.qok]; simp)]
    rcases h.spent with ⟨a1, s1, a2⟩ | ⟨f, g⟩
    · rw [a1]
      have := Sim.spents k r.s5 q.s5 (acc ++ [q.spent]) s1 (by rw [List.all_append, ha]; simp [a2])
      rw [List.length_append, List.length_singleton] at this
      rcases this with ⟨b1, b2, b3, b4⟩ | h
      · exact .inl ⟨b1, b2, b3, by omega⟩
      · exact .inr h
    · right
      refine ⟨spents_failed _ _ _ f, ?_⟩
      rcases g with g | g
      · exact .inl (rspents_failed _ _ _ g)
      · exact .inr (rspents_bad _ _ _ (by rw [List.all_append]; simp [g]))
theorem Sim.notes : ∀ (k : Nat) (r : RdM) (q : RfM) (acc : List NoteM), Sim r q → acc.all noteB = true →
    ((RdM.notes k r acc).1 = (RfM.notes k q acc).1 ∧ Sim (RdM.notes k r acc).2 (RfM.notes k q acc).2 ∧ (RfM.notes k q acc).1.all noteB = true ∧ (RfM.notes k q acc).1.length = acc.length + k) ∨
    ((RdM.notes k r acc).2.failed = true ∧ ((RfM.notes k q acc).2.fail = true ∨ (RfM.notes k q acc).1.all noteB = false))
  | 0, r, q, acc, h, ha => .inl ⟨rfl, h, ha, rfl⟩
  | k + 1, r, q, acc, h, ha => by
    unfold RdM.notes RfM.notes
    rw [if_neg (by rw [h.qok]; simp)]
    rcases h.note with ⟨a1, s1, a2⟩ | ⟨f, g⟩
    · rw [a1]
      have := Sim.notes k r.n4 q.n4 (acc ++ [q.note]) s1 (by rw [List.all_append, ha]; simp [a2])
      rw [List.length_append, List.length_singleton] at this
      rcases this with ⟨b1, b2, b3, b4⟩ | h
      · exact .inl ⟨b1, b2, b3, by omega⟩
      · exact .inr h
    · right
      refine ⟨notes_failed _ _ _ f, ?_⟩
      rcases g with g | g
      · exact .inl (rnotes_failed _ _ _ g)
      · exact .inr (rnotes_bad _ _ _ (by rw [List.all_append]; simp [g]))
end Go.Proofs.YtdjcdejapkkcmaaGreatDoor
/- The reference's field at the big prime: row, Valid, Exponent, Reduce, Add, Mul, Pow, Sum. -/
namespace Go.Proofs.YtdjcdejapkkcmaaGreatDoor
open Go.ChangeShapes Go.WideShapes Go.ChangeAt Go.RowKit Go.Sort

theorem quiet_eq {P : Program} {f : FuncId} {args : Array Value} {w : World} {n : Nat} {v : Value}
    (h : Calls P f args (w.drewN n) fun e w' => e = .returned v ∧ w.drewN n = w') : Calls P f args (w.drewN n) fun e w'' => e = .returned v ∧ ∃ m, w'' = w.drewN m :=
  h.mono fun _ _ ⟨he, hm⟩ => ⟨he, n, hm.symm⟩
theorem rrow_big (w : World) : Calls Tryz.prog 227 #[.int .u64 18446744069414584321] w fun e w' => e = .returned (.agg #[.int .u64 7, .int .u64 32, .int .u64 7]) ∧ Below w.heap.size w w' := by
  go_enter Tryz.func227, Tryz.ntmps227
  go_wp2_with fail
  refine bodyPost_ret (v := .agg #[.int .u64 7, .int .u64 32, .int .u64 7]) (by simp [results, Tryz.results227, go_sem]) rfl ⟨rfl, ?_⟩
  exact bnew (Below.refl _ _) _
theorem index3_2 (x y z : Int) (w : World) : (Instr.index 111 (.agg #[.int .u64 x, .int .u64 y, .int .u64 z]) (.int .i64 2)).run Tryz.prog w = .ok (.int .u64 z) w := by
  have hs : (Tryz.prog.info? 24).map (·.size) = some 1 := by kernel_rfl
  obtain ⟨i, hi, hz⟩ := Option.map_eq_some_iff.1 hs
  simp [Instr.index, asIntOf, run_underlying Tryz.underlying111, sizeOf, typeInfo, hi, hz, part, go_sem]
theorem rvalid_big (w : World) : Calls Tryz.prog 151 #[.int .u64 18446744069414584321] w fun e w' => e = .returned (.bool true) ∧ Below w.heap.size w w' := by
  go_enter Tryz.func151, Tryz.ntmps151
  go_wp2_with fail
  refine (rrow_big _).mono ?_
  rintro e w1 ⟨rfl, hb⟩
  have hix := index3 7 32 7
  go_wp2_with fail
  go_ret
  exact ⟨rfl, hb⟩
theorem rexponent_big (w : World) : Calls Tryz.prog 310 #[.int .u64 18446744069414584321] w fun e w' => e = .returned (.int .u64 7) ∧ Below w.heap.size w w' := by
  go_enter Tryz.func310, Tryz.ntmps310
  go_wp2_with fail
  refine (rrow_big _).mono ?_
  rintro e w1 ⟨rfl, hb⟩
  have hix := index3_2 7 32 7
  go_wp2_with fail
  go_ret
  exact ⟨rfl, hb⟩
set_option maxHeartbeats 400000 in
theorem rAdd_big (a b : Int) (a0 : 0 ≤ a) (b0 : 0 ≤ b) (w : World) :
    Calls Tryz.prog 228 #[.int .u64 18446744069414584321, .int .u64 a, .int .u64 b] w fun e w' => e = .returned (.int .u64 (addP a b)) ∧ Below w.heap.size w w' := by
  have HU : Hid (addP a b = (a % 18446744069414584321 + b % 18446744069414584321) % 18446744069414584321) := by show _ = _; unfold addP; omega
  have p0 : 0 ≤ a % 18446744069414584321 := by omega
  have p1 : a % 18446744069414584321 < 18446744069414584321 := by omega
  have q0 : 0 ≤ b % 18446744069414584321 := by omega
  have q1 : b % 18446744069414584321 < 18446744069414584321 := by omega
  by_cases h : a % 18446744069414584321 + b % 18446744069414584321 < 18446744069414584321
  · have HR : Hid (addP a b = a % 18446744069414584321 + b % 18446744069414584321) := by show _ = _; rw [HU.out]; omega
    go_enter Tryz.func228, Tryz.ntmps228
    go_wp2_with fail
    refine (rvalid_big _).mono ?_
    rintro e w1 ⟨rfl, hb⟩
    go_wp2_with fail
    go_quiet (fail)
    go_wp2_with fail
    go_ret
    exact ⟨ret_int HR.out.symm, bdrewN hb _⟩
  · have HR : Hid (addP a b = a % 18446744069414584321 - (18446744069414584321 - b % 18446744069414584321)) := by show _ = _; rw [HU.out]; omega
    go_enter Tryz.func228, Tryz.ntmps228
    go_wp2_with fail
    refine (rvalid_big _).mono ?_
    rintro e w1 ⟨rfl, hb⟩
    go_wp2_with fail
    go_quiet (fail)
    go_wp2_with fail
    go_ret
    exact ⟨ret_int HR.out.symm, bdrewN hb _⟩
set_option maxHeartbeats 400000 in
theorem rMul_big (a b : Int) (a0 : 0 ≤ a) (b0 : 0 ≤ b) (w : World) :
    Calls Tryz.prog 229 #[.int .u64 18446744069414584321, .int .u64 a, .int .u64 b] w fun e w' => e = .returned (.int .u64 (mulP a b)) ∧ Below w.heap.size w w' := by
  have ha := redP_in a
  have hb := redP_in b
  have HR := Lib.hid (mulP_red a b)
  have ea : Hid (a % 18446744069414584321 = redP a) := rfl
  have eb : Hid (b % 18446744069414584321 = redP b) := rfl
  obtain ⟨g0, g1, g2, g3⟩ := hiOf_in ha.1 ha.2 hb.1 hb.2
  have HL := Lib.hid (leftOf_mul (redP a) (redP b))
  go_enter Tryz.func229, Tryz.ntmps229
  go_wp2_with fail
  refine (rvalid_big _).mono ?_
  rintro e w1 ⟨rfl, hb1⟩
  go_wp2_with fail
  go_quiet ((go_at_call 193; rw [ea.out, eb.out]; exact quiet_eq (mul64_any (redP a) (redP b) ha.1 (by omega) hb.1 (by omega) _)))
  have hb1d := bdrewN hb1 nq
  clear hb1
  generalize w1.drewN nq = w2 at *
  go_wp2_with fail
  refine (div64_any _ _ g0 g1 g2 g3 _).mono ?_
  rintro e w3 ⟨q, rfl, hb2⟩
  rw [HL.out]
  go_wp2_with fail
  go_ret
  exact ⟨ret_int HR.out, bnext hb1d hb2⟩
set_option maxHeartbeats 1000000 in
theorem rPow_big (a : Int) (a0 : 0 ≤ a) (e : Nat) (he : e < 18446744073709551616) (w : World) :
    Calls Tryz.prog 308 #[.int .u64 18446744069414584321, .int .u64 a, .int .u64 e] w fun x w' => x = .returned (.int .u64 (powP a e)) ∧ Below w.heap.size w w' := by
  have hr := redP_in a
  have HP : Hid (mulP 1 (powP (a % 18446744069414584321) e) = powP a e) := by show _ = _; rw [powP_of]; exact powP_red a e
  go_enter Tryz.func308, Tryz.ntmps308
  go_wp2_with fail
  refine (rvalid_big _).mono ?_
  rintro x w0 ⟨rfl, hb0⟩
  go_wp2_with fail
  go_loopw [1, 2, 7] (fun va ve vr wr => ∃ (b r : Int) (k : Nat), va = .int .u64 b ∧ ve = .int .u64 k ∧ vr = .int .u64 r ∧ 0 ≤ b ∧ b < 18446744069414584321 ∧ 0 ≤ r ∧ r < 18446744069414584321 ∧ k < 18446744073709551616 ∧ Hid (mulP r (powP b k) = powP a e) ∧ Below w.heap.size w wr) (fun _ ve _ _ => (intOf ve).toNat)
  case atStart => exact ⟨_, 1, e, rfl, rfl, rfl, hr.1, hr.2, by omega, by omega, he, HP, hb0⟩
  case round =>
    obtain ⟨b, r, k, rfl, rfl, rfl, b0, b1, r0, r1, hk, hinv, hbr⟩ := hrel
    by_cases hk0 : k = 0
    · subst hk0
      have HF : Hid (r = powP a e) := by show _ = _; rw [← hinv.out, mulP_one r0 r1]
      go_wp2_with fail
      go_ret
      exact ⟨ret_int HF.out, hbr⟩
    · have k1 : 0 < (k : Int) := by omega
      have hm := mulP_in r b
      have hq := mulP_in b b
      by_cases hodd : k % 2 = 1
      · have HN : Hid (mulP (mulP r b) (powP (mulP b b) (k / 2)) = powP a e) := by show _ = _; rw [pow_odd r b k hodd, hinv.out]
        have ho : (k : Int) % 2 = 1 := by omega
        go_wp2_with fail
        refine (rMul_big r b r0 b0 _).mono ?_
        rintro x w1 ⟨rfl, hb1⟩
        go_wp2_with fail
        refine (rMul_big b b b0 b0 _).mono ?_
        rintro x w2 ⟨rfl, hb2⟩
        go_wp2_with fail
        go_roundw
        case rel => exact ⟨mulP b b, mulP r b, k / 2, rfl, by rw [Int.natCast_ediv]; rfl, rfl, hq.1, hq.2, hm.1, hm.2, by omega, HN, bnext (bnext hbr hb1) hb2⟩
        case measure => simp [intOf]; omega
      · have HN : Hid (mulP r (powP (mulP b b) (k / 2)) = powP a e) := by show _ = _; rw [pow_even r b k (by omega), hinv.out]
        have ho : ((k : Int) % 2 == 1) = false := by rw [beq_eq_false_iff_ne]; omega
        go_wp2_with fail
        refine (rMul_big b b b0 b0 _).mono ?_
        rintro x w2 ⟨rfl, hb2⟩
        go_wp2_with fail
        go_roundw
        case rel => exact ⟨mulP b b, r, k / 2, rfl, by rw [Int.natCast_ediv]; rfl, rfl, hq.1, hq.2, r0, r1, by omega, HN, bnext hbr hb2⟩
        case measure => simp [intOf]; omega
/-- The sum of the first k. -/
def sumTo (l : List Int) : Nat → Int
  | 0 => 0
  | k + 1 => addP (sumTo l k) (l.getD k 0)
theorem sumTo_in (l : List Int) : ∀ k, 0 ≤ sumTo l k ∧ sumTo l k < 18446744069414584321
  | 0 => by simp [sumTo]
  | k + 1 => addP_in _ _
theorem rSum_len (S : Nat → Prop) (w : World) (a : Option Addr) (len cap : Nat) (l : List Int) (hlen : len = l.length) (h : numsR.rel S w [.slice a len cap] l) :
    Calls Tryz.prog 372 #[.int .u64 18446744069414584321, .slice a len cap] w fun e w' => e = .returned (.int .u64 (sumTo l l.length)) ∧ Below w.heap.size w w' := by
  subst hlen
  have g1 := (sliceR.lens h).2
  unfold maxLen at g1
  have H := Lib.hid h
  clear h
  go_enter Tryz.func372, Tryz.ntmps372
  go_wp2_with fail
  go_loopw [5, 6] (fun vo vi wr => ∃ (k : Nat), k ≤ l.length ∧ vo = .int .u64 (sumTo l k) ∧ vi = .int .i64 k ∧ Below w.heap.size w wr) (fun _ vi _ => l.length - (intOf vi).toNat)
  case atStart => exact ⟨0, Nat.zero_le _, rfl, rfl, Below.refl _ _⟩
  case round =>
    obtain ⟨k, hk, rfl, rfl, hbr⟩ := hrel
    by_cases hlt : k < l.length
    · obtain ⟨b, off, rfl, hbl, e0, en, hc⟩ := nums_at (numsR.keepB H.out hbr) k hlt
      have HS : Hid (sumTo l (k + 1) = addP (sumTo l k) l[k]) := by show addP (sumTo l k) (l.getD k 0) = _; rw [getD_at l 0 k hlt]
      have hs := sumTo_in l k
      have i0 : (0 : Int) ≤ (k : Int) := by omega
      have i1 : (k : Int) < (l.length : Int) := by omega
      generalize l[k] = m at *
      generalize sumTo l k = s at *
      go_wp2_with fail
      refine (rAdd_big s m hs.1 e0 _).mono ?_
      rintro x w1 ⟨rfl, hb1⟩
      go_wp2_with fail
      go_roundw
      case rel => exact ⟨k + 1, by omega, by rw [HS.out], by go_num, bnext hbr hb1⟩
      case measure => simp [intOf]; omega
    · obtain rfl : k = l.length := by omega
      go_wp2_with fail
      go_ret
      exact ⟨rfl, hbr⟩
end Go.Proofs.YtdjcdejapkkcmaaGreatDoor
/- The reference's permutation at the big prime. -/
namespace Go.Proofs.YtdjcdejapkkcmaaGreatDoor
open Go.ChangeShapes Go.WideShapes Go.ChangeAt Go.RowKit Go.Sort

set_option maxHeartbeats 1000000 in
theorem rconstant_big (r i : Int) (r0 : 0 ≤ r) (r1 : r < 8) (i0 : 0 ≤ i) (i1 : i ≤ 2) (w : World) :
    Calls Tryz.prog 309 #[.int .u64 18446744069414584321, .int .i64 r, .int .i64 i] w fun e w' => e = .returned (.int .u64 (cstP r i)) ∧ Below w.heap.size w w' := by
  have hw : 0 ≤ IntKind.u64.wrap ((3 * r + i + 1) * 11400714819323198485) := by rw [IntKind.wrap_u64]; omega
  have h1 : ¬ r < 0 := by omega
  have h2 : ¬ 7 < r := by omega
  have h3 : ¬ i < 0 := by omega
  have h4 : ¬ 2 < i := by omega
  go_enter Tryz.func309, Tryz.ntmps309
  go_wp2_with fail
  refine (rvalid_big _).mono ?_
  rintro e w1 ⟨rfl, hb1⟩
  go_wp2_with fail
  go_ret
  exact ⟨ret_int (by unfold cstP redP; rfl), hb1⟩
/-- Two boxes at the beginning, a row of three at block q; blocks below are as they were. -/
def TriAt (A B : Obj) (w : World) (q : Nat) (s : T3) (wr : World) : Prop :=
  Below w.heap.size w wr ∧ wr.heap[w.heap.size]? = some A ∧ wr.heap[w.heap.size + 1]? = some B ∧ wr.heap[q]? = some (.cells #[.int .u64 s.1, .int .u64 s.2.1, .int .u64 s.2.2] 111 (0, 0)) ∧ w.heap.size + 1 < q
theorem TriAt.next {A B : Obj} {w w1 w2 : World} {q : Nat} {s : T3} (h : TriAt A B w q s w1) (hb : Below w1.heap.size w1 w2) : TriAt A B w q s w2 :=
  ⟨bnext h.1 hb, box_after hb h.2.1, box_after hb h.2.2.1, box_after hb h.2.2.2.1, h.2.2.2.2⟩
theorem TriAt.one {A B : Obj} {w wr : World} {q : Nat} {s t : T3} (h : TriAt A B w q s wr) (i : Nat) (v : Value) (ht : (#[.int .u64 s.1, .int .u64 s.2.1, .int .u64 s.2.2] : Array Value).setIfInBounds i v = #[.int .u64 t.1, .int .u64 t.2.1, .int .u64 t.2.2]) : TriAt A B w q t (wr.setCell ⟨q, i, none⟩ v) := by
  obtain ⟨h1, h2, h3, h4, h5⟩ := h
  have e0 : w.heap.size ≠ q := by omega
  have e1 : w.heap.size + 1 ≠ q := by omega
  exact ⟨h1.setCell (by show w.heap.size ≤ q; omega) _, box_set_far h2 e0, box_set_far h3 e1, ht ▸ box_set h4, h5⟩
theorem two_new (w : World) (a b : Obj) : ((w.alloc a).alloc b).heap[w.heap.size + 1]? = some b ∧ ((w.alloc a).alloc b).heap[w.heap.size]? = some a := by
  have e1 : (w.alloc a).heap.size = w.heap.size + 1 := World.size_alloc ..
  exact ⟨e1 ▸ box_new _ b, box_old (box_new _ a)⟩
theorem mix_sum {a b c : Int} : sumTo [a, b, c] 3 = addP (addP a b) c := by
  simp only [sumTo, List.getD_cons_zero, List.getD_cons_succ]
  unfold addP; omega
/-- After i of the three. -/
def mixTo (a b c m : Int) : Nat → T3
  | 0 => (0, 0, 0)
  | 1 => (addP a m, 0, 0)
  | 2 => (addP a m, addP b m, 0)
  | _ => (addP a m, addP b m, addP c m)
set_option maxRecDepth 100000 in
set_option maxHeartbeats 2000000 in
theorem rmix_big (a b c : Int) (ha : okU a) (hb : okU b) (hc : okU c) (w : World) :
    Calls Tryz.prog 311 #[.int .u64 18446744069414584321, .agg #[.int .u64 a, .int .u64 b, .int .u64 c]] w
      fun e w' => e = .returned (.agg #[.int .u64 (mixS (a, b, c)).1, .int .u64 (mixS (a, b, c)).2.1, .int .u64 (mixS (a, b, c)).2.2]) ∧ Below w.heap.size w w' := by
  have hbA := bnew (bnew (Below.refl w.heap.size w) (.cells #[.int .u64 a, .int .u64 b, .int .u64 c] 111)) (.cells #[.int .u64 0, .int .u64 0, .int .u64 0] 111)
  obtain ⟨qB, qA⟩ := two_new w (.cells #[.int .u64 a, .int .u64 b, .int .u64 c] 111) (.cells #[.int .u64 0, .int .u64 0, .int .u64 0] 111)
  have eW : ((w.alloc (.cells #[.int .u64 a, .int .u64 b, .int .u64 c] 111)).alloc (.cells #[.int .u64 0, .int .u64 0, .int .u64 0] 111)).heap.size = w.heap.size + 1 + 1 := by rw [World.size_alloc, World.size_alloc]
  have hX := nums_new ((w.alloc (.cells #[.int .u64 a, .int .u64 b, .int .u64 c] 111)).alloc (.cells #[.int .u64 0, .int .u64 0, .int .u64 0] 111)) 24 [a, b, c] 3 (by intro u hu; simp at hu; rcases hu with rfl | rfl | rfl <;> assumption) (by simp) (by have := maxLen_9; omega)
  rw [eW] at hX
  have HX := Lib.hid hX
  have HA := Lib.hid qA
  have HB := Lib.hid qB
  have HBel := Lib.hid hbA
  obtain ⟨a0, a1⟩ := okU_in ha
  obtain ⟨b0, b1⟩ := okU_in hb
  obtain ⟨c0, c1⟩ := okU_in hc
  have HM : Hid (mixS (a, b, c) = (addP a (addP (addP a b) c), addP b (addP (addP a b) c), addP c (addP (addP a b) c))) := rfl
  clear hX qA qB hbA ha hb hc
  go_enter Tryz.func311, Tryz.ntmps311
  go_wp2_with fail
  generalize (w.alloc (.cells #[.int .u64 a, .int .u64 b, .int .u64 c] 111)).alloc (.cells #[.int .u64 0, .int .u64 0, .int .u64 0] 111) = W at *
  refine (rSum_len (fun _ => True) _ _ 3 3 [a, b, c] rfl HX.out).mono ?_
  rintro e w1 ⟨rfl, hb1⟩
  rw [show [a, b, c].length = 3 from rfl, mix_sum]
  have hbk := bnext (bnew (Below.refl W.heap.size W) (.cells #[.int .u64 a, .int .u64 b, .int .u64 c] 24)) hb1
  clear hb1 HX
  have m0 := addP_word (addP a b) c
  generalize addP (addP a b) c = m at *
  have hsz := hbk.size
  have hst : TriAt (.cells #[.int .u64 a, .int .u64 b, .int .u64 c] 111) (.cells #[.int .u64 0, .int .u64 0, .int .u64 0] 111) w w1.heap.size (0, 0, 0) (w1.alloc (.cells #[.int .u64 0, .int .u64 0, .int .u64 0] 111)) :=
    ⟨bnew (bnext HBel.out hbk) _, box_old (box_after hbk HA.out), box_old (box_after hbk HB.out), box_new _ _, by omega⟩
  have HST := Lib.hid hst
  clear hst
  go_wp2_with fail
  go_loopw [7] (fun vi wr => ∃ k : Nat, k ≤ 3 ∧ vi = .int .i64 k ∧ TriAt (.cells #[.int .u64 a, .int .u64 b, .int .u64 c] 111) (.cells #[.int .u64 0, .int .u64 0, .int .u64 0] 111) w w1.heap.size (mixTo a b c m k) wr) (fun vi _ => 3 - (intOf vi).toNat)
  case atStart => exact ⟨0, by omega, rfl, HST.out⟩
  case round =>
    obtain ⟨k, hk, rfl, hat⟩ := hrel
    by_cases h3 : k < 3
    · have HAT := Lib.hid hat
      obtain ⟨x0, x1⟩ := box_cells hat.2.1
      clear hat
      have hcase : k = 0 ∨ k = 1 ∨ k = 2 := by omega
      rcases hcase with h0 | h0 | h0
      · obtain rfl : k = 0 := by omega
        go_wp2_with fail
        refine (rAdd_big a m a0 m0.1 _).mono ?_
        rintro e w2 ⟨rfl, hb2⟩
        have p1 := HAT.out.next hb2
        obtain ⟨c0', c1'⟩ := box_cells p1.2.2.2.1
        have HN := Lib.hid (TriAt.one (t := mixTo a b c m 1) p1 0 (.int .u64 (addP a m)) rfl)
        clear p1 x0 x1
        unfold mixTo at c0'
        go_wp2_with fail
        go_roundw
        case rel => exact ⟨1, by omega, by go_num, HN.out⟩
        case measure => simp [intOf]
      · obtain rfl : k = 1 := by omega
        go_wp2_with fail
        refine (rAdd_big b m b0 m0.1 _).mono ?_
        rintro e w2 ⟨rfl, hb2⟩
        have p1 := HAT.out.next hb2
        obtain ⟨c0', c1'⟩ := box_cells p1.2.2.2.1
        have HN := Lib.hid (TriAt.one (t := mixTo a b c m 2) p1 1 (.int .u64 (addP b m)) rfl)
        clear p1 x0 x1
        unfold mixTo at c0'
        go_wp2_with fail
        go_roundw
        case rel => exact ⟨2, by omega, by go_num, HN.out⟩
        case measure => simp [intOf]
      · obtain rfl : k = 2 := by omega
        go_wp2_with fail
        refine (rAdd_big c m c0 m0.1 _).mono ?_
        rintro e w2 ⟨rfl, hb2⟩
        have p1 := HAT.out.next hb2
        obtain ⟨c0', c1'⟩ := box_cells p1.2.2.2.1
        have HN := Lib.hid (TriAt.one (t := mixTo a b c m 3) p1 2 (.int .u64 (addP c m)) rfl)
        clear p1 x0 x1
        unfold mixTo at c0'
        go_wp2_with fail
        go_roundw
        case rel => exact ⟨3, by omega, by go_num, HN.out⟩
        case measure => simp [intOf]
    · obtain rfl : k = 3 := by omega
      obtain ⟨x0, x1⟩ := box_cells hat.2.2.2.1
      obtain ⟨y0, y1⟩ := box_cells hat.2.2.1
      have HBq := Lib.hid hat.1
      unfold mixTo at x0
      obtain ⟨r0, r1, r2⟩ := read3 (x := .int .u64 (addP a m)) (y := .int .u64 (addP b m)) (z := .int .u64 (addP c m)) (y0 0) (y0 1) (y0 2)
      clear hat
      go_wp2_with fail
      refine bodyPost_ret (v := .agg #[.int .u64 (addP a m), .int .u64 (addP b m), .int .u64 (addP c m)]) (by simp [results, Tryz.results311, go_sem, r0, r1, r2]) rfl ⟨by rw [HM.out], ?_⟩
      exact ((HBq.out.setCell (Nat.le_succ _) _).setCell (Nat.le_succ _) _).setCell (Nat.le_succ _) _

/-- The state at block B, zeros behind it; blocks below B are as they were. -/
def RpAt (w : World) (s : T3) (wr : World) : Prop :=
  Below w.heap.size w wr ∧ wr.heap[w.heap.size]? = some (.cells #[.int .u64 s.1, .int .u64 s.2.1, .int .u64 s.2.2] 111 (0, 0)) ∧ wr.heap[w.heap.size + 1]? = some (.cells #[.int .u64 0, .int .u64 0, .int .u64 0] 111 (0, 0))
theorem RpAt.next {w w1 w2 : World} {s : T3} (h : RpAt w s w1) (hb : Below w1.heap.size w1 w2) : RpAt w s w2 := ⟨bnext h.1 hb, box_after hb h.2.1, box_after hb h.2.2⟩
theorem RpAt.start (w : World) (s : T3) : RpAt w s ((w.alloc (.cells #[.int .u64 s.1, .int .u64 s.2.1, .int .u64 s.2.2] 111)).alloc (.cells #[.int .u64 0, .int .u64 0, .int .u64 0] 111)) := by
  obtain ⟨q1, q2⟩ := two_new w (.cells #[.int .u64 s.1, .int .u64 s.2.1, .int .u64 s.2.2] 111) (.cells #[.int .u64 0, .int .u64 0, .int .u64 0] 111)
  exact ⟨bnew (bnew (Below.refl _ _) _) _, q2, q1⟩
theorem RpAt.store {w wr : World} {s : T3} (h : RpAt w s wr) (t : T3) : RpAt w t (((wr.setCell ⟨w.heap.size, 0, none⟩ (.int .u64 t.1)).setCell ⟨w.heap.size, 1, none⟩ (.int .u64 t.2.1)).setCell ⟨w.heap.size, 2, none⟩ (.int .u64 t.2.2)) := by
  obtain ⟨h1, h2, h3⟩ := h
  have e1 : w.heap.size + 1 ≠ w.heap.size := by omega
  exact ⟨((h1.setCell (Nat.le_refl _) _).setCell (Nat.le_refl _) _).setCell (Nat.le_refl _) _, box_set (box_set (box_set h2)), box_set_far (box_set_far (box_set_far h3 e1) e1) e1⟩
theorem RpAt.one {w wr : World} {s t : T3} (h : RpAt w s wr) (i : Nat) (v : Value) (ht : (#[.int .u64 s.1, .int .u64 s.2.1, .int .u64 s.2.2] : Array Value).setIfInBounds i v = #[.int .u64 t.1, .int .u64 t.2.1, .int .u64 t.2.2]) : RpAt w t (wr.setCell ⟨w.heap.size, i, none⟩ v) := by
  obtain ⟨h1, h2, h3⟩ := h
  have e1 : w.heap.size + 1 ≠ w.heap.size := by omega
  exact ⟨h1.setCell (Nat.le_refl _) _, ht ▸ box_set h2, box_set_far h3 e1⟩
set_option maxRecDepth 100000 in
set_option maxHeartbeats 4000000 in
theorem rpermute_big (s : T3) (hs : Words3 s) (w : World) :
    Calls Tryz.prog 230 #[.int .u64 18446744069414584321, .agg #[.int .u64 s.1, .int .u64 s.2.1, .int .u64 s.2.2]] w
      fun e w' => e = .returned (.agg #[.int .u64 (permS s).1, .int .u64 (permS s).2.1, .int .u64 (permS s).2.2]) ∧ Below w.heap.size w w' := by
  have hst := Lib.hid (RpAt.start w s)
  have HW := Lib.hid (permTo_words hs)
  clear hs
  go_enter Tryz.func230, Tryz.ntmps230
  go_wp2_with fail
  refine (rvalid_big _).mono ?_
  rintro e w1 ⟨rfl, hb1⟩
  have h2 := hst.out.next hb1
  clear hst hb1
  go_wp2_with fail
  go_loopw [5] (fun i wr => ∃ k : Nat, k ≤ 8 ∧ i = .int .i64 k ∧ RpAt w (permTo s k) wr) (fun i _ => 8 - (intOf i).toNat)
  case atStart => exact ⟨0, by omega, rfl, h2⟩
  case round =>
    obtain ⟨k, hk, rfl, hp⟩ := hrel
    clear h2
    by_cases hlt : k < 8
    · have hwk := HW.out k
      have hsucc : Hid (permTo s (k + 1) = mixS (stepS k (permTo s k) 3)) := rfl
      generalize permTo s k = t at *
      have n0 : (0 : Int) ≤ (k : Int) := by omega
      have n1 : (k : Int) < 8 := by omega
      go_wp2_with fail
      go_loopw [6] (fun i wr => ∃ j : Nat, j ≤ 3 ∧ i = .int .i64 j ∧ RpAt w (stepS k t j) wr) (fun i _ => 3 - (intOf i).toNat)
      case atStart => exact ⟨0, by omega, rfl, hp⟩
      case round =>
        obtain ⟨j, hj, rfl, hq⟩ := hrel
        clear hp
        by_cases hj3 : j < 3
        · have hcase : j = 0 ∨ j = 1 ∨ j = 2 := by omega
          rcases hcase with h0 | h0 | h0
          · obtain rfl : j = 0 := by omega
            have hq' : RpAt w (t.1, t.2.1, t.2.2) wr := hq
            have HQ := Lib.hid hq'
            have x0 := box_regrown hq'.2.1
            clear hq hq'
            have hx : 0 ≤ t.1 := by unfold Words3 at hwk; omega
            have hc := cstP_word k 0
            have ha := addP_word t.1 (cstP k 0)
            go_wp2_with fail
            refine wp_region_quiet_tail 14 (by kernel_rfl) (by kernel_rfl) ?_
            simp only [List.take_succ_cons, List.take_zero, List.drop_succ_cons, List.drop_zero]
            repeat (quiet_step (first
              | exact Calls.regrown_of (rconstant_big k 0 n0 n1 (by omega) (by omega) _)
              | exact Calls.regrown_of (rAdd_big t.1 (cstP k 0) hx hc _)
              | exact Calls.regrown_of (rexponent_big _)
              | exact Calls.regrown_of (rPow_big (addP t.1 (cstP k 0)) ha.1 7 (by omega) _)))
            refine wpQuiet_nil ?_
            intro wq hw'
            obtain ⟨⟨dq, osq⟩, hw''⟩ := hw'
            have hbq := below_regrown wr dq osq
            rw [← hw''] at hbq
            clear hw'' x0
            have pC := RpAt.next HQ.out hbq
            obtain ⟨c0, c1⟩ := box_cells pC.2.1
            have HN := Lib.hid (RpAt.one (t := (sbox k 0 t.1, t.2.1, t.2.2)) pC 0 (.int .u64 (sbox k 0 t.1)) rfl)
            clear pC
            unfold sbox at HN
            go_wp2_with fail
            go_roundw
            case rel => exact ⟨1, by omega, by go_num, HN.out⟩
            case measure => simp [intOf]
          · obtain rfl : j = 1 := by omega
            have hq' : RpAt w (sbox k 0 t.1, t.2.1, t.2.2) wr := hq
            have HQ := Lib.hid hq'
            have x0 := box_regrown hq'.2.1
            clear hq hq'
            have hx : 0 ≤ t.2.1 := by unfold Words3 at hwk; omega
            have hc := cstP_word k 1
            have ha := addP_word t.2.1 (cstP k 1)
            go_wp2_with fail
            refine wp_region_quiet_tail 14 (by kernel_rfl) (by kernel_rfl) ?_
            simp only [List.take_succ_cons, List.take_zero, List.drop_succ_cons, List.drop_zero]
            repeat (quiet_step (first
              | exact Calls.regrown_of (rconstant_big k 1 n0 n1 (by omega) (by omega) _)
              | exact Calls.regrown_of (rAdd_big t.2.1 (cstP k 1) hx hc _)
              | exact Calls.regrown_of (rexponent_big _)
              | exact Calls.regrown_of (rPow_big (addP t.2.1 (cstP k 1)) ha.1 7 (by omega) _)))
            refine wpQuiet_nil ?_
            intro wq hw'
            obtain ⟨⟨dq, osq⟩, hw''⟩ := hw'
            have hbq := below_regrown wr dq osq
            rw [← hw''] at hbq
            clear hw'' x0
            have pC := RpAt.next HQ.out hbq
            obtain ⟨c0, c1⟩ := box_cells pC.2.1
            have HN := Lib.hid (RpAt.one (t := (sbox k 0 t.1, sbox k 1 t.2.1, t.2.2)) pC 1 (.int .u64 (sbox k 1 t.2.1)) rfl)
            clear pC
            unfold sbox at HN
            go_wp2_with fail
            go_roundw
            case rel => exact ⟨2, by omega, by go_num, HN.out⟩
            case measure => simp [intOf]
          · obtain rfl : j = 2 := by omega
            have hq' : RpAt w (sbox k 0 t.1, sbox k 1 t.2.1, t.2.2) wr := hq
            have HQ := Lib.hid hq'
            have x0 := box_regrown hq'.2.1
            clear hq hq'
            have hx : 0 ≤ t.2.2 := by unfold Words3 at hwk; omega
            have hc := cstP_word k 2
            have ha := addP_word t.2.2 (cstP k 2)
            go_wp2_with fail
            refine wp_region_quiet_tail 14 (by kernel_rfl) (by kernel_rfl) ?_
            simp only [List.take_succ_cons, List.take_zero, List.drop_succ_cons, List.drop_zero]
            repeat (quiet_step (first
              | exact Calls.regrown_of (rconstant_big k 2 n0 n1 (by omega) (by omega) _)
              | exact Calls.regrown_of (rAdd_big t.2.2 (cstP k 2) hx hc _)
              | exact Calls.regrown_of (rexponent_big _)
              | exact Calls.regrown_of (rPow_big (addP t.2.2 (cstP k 2)) ha.1 7 (by omega) _)))
            refine wpQuiet_nil ?_
            intro wq hw'
            obtain ⟨⟨dq, osq⟩, hw''⟩ := hw'
            have hbq := below_regrown wr dq osq
            rw [← hw''] at hbq
            clear hw'' x0
            have pC := RpAt.next HQ.out hbq
            obtain ⟨c0, c1⟩ := box_cells pC.2.1
            have HN := Lib.hid (RpAt.one (t := (sbox k 0 t.1, sbox k 1 t.2.1, sbox k 2 t.2.2)) pC 2 (.int .u64 (sbox k 2 t.2.2)) rfl)
            clear pC
            unfold sbox at HN
            go_wp2_with fail
            go_roundw
            case rel => exact ⟨3, by omega, by go_num, HN.out⟩
            case measure => simp [intOf]
        · obtain rfl : j = 3 := by omega
          have HQ := Lib.hid hq
          obtain ⟨x0, x1⟩ := box_cells hq.2.1
          clear hq
          generalize hu : stepS k t 3 = u at *
          have HU := Lib.hid hu
          have hu0 : okU u.1 ∧ okU u.2.1 ∧ okU u.2.2 := by
            rw [← hu]; exact ⟨okU_of (sbox_word _ _ _).1 (sbox_word _ _ _).2, okU_of (sbox_word _ _ _).1 (sbox_word _ _ _).2, okU_of (sbox_word _ _ _).1 (sbox_word _ _ _).2⟩
          have HU0 := Lib.hid hu0
          clear hu hu0
          go_wp2_with fail
          refine (rmix_big u.1 u.2.1 u.2.2 HU0.out.1 HU0.out.2.1 HU0.out.2.2 _).mono ?_
          rintro e w3 ⟨rfl, hb3⟩
          have h3 := HQ.out.next hb3
          clear x0 x1
          obtain ⟨x0, x1⟩ := box_cells h3.2.1
          have HN := Lib.hid (RpAt.store h3 (mixS (u.1, u.2.1, u.2.2)))
          clear h3
          go_wp2_with fail
          go_roundw
          case rel => exact ⟨k + 1, by omega, by go_num, by rw [hsucc.out]; exact HN.out⟩
          case measure => simp [intOf]; omega
    · obtain rfl : k = 8 := by omega
      obtain ⟨h1, h2, h3⟩ := hp
      obtain ⟨x0, x1⟩ := box_cells h2
      obtain ⟨y0, y1⟩ := box_cells h3
      have hpe : Hid (permS s = permTo s 8) := rfl
      generalize permTo s 8 = t at *
      obtain ⟨r0, r1, r2⟩ := read3 (x := .int .u64 t.1) (y := .int .u64 t.2.1) (z := .int .u64 t.2.2) (y0 0) (y0 1) (y0 2)
      go_wp2_with fail
      refine bodyPost_ret (v := .agg #[.int .u64 t.1, .int .u64 t.2.1, .int .u64 t.2.2]) (by simp [results, Tryz.results230, go_sem, r0, r1, r2]) rfl ⟨by rw [hpe.out], ?_⟩
      exact ((h1.setCell (Nat.le_succ _) _).setCell (Nat.le_succ _) _).setCell (Nat.le_succ _) _
end Go.Proofs.YtdjcdejapkkcmaaGreatDoor
