/- Notes, statements, witnesses: data and representations; the hash of lists, in plain numbers; no conditions. -/
import Derived.Test.YthggdacincfplaaGreatDoorTx
import Derived.Test.YthggdacincfplaaGreatDoorPerm
namespace Go.Proofs.YthggdacincfplaaGreatDoor
open Go.ChangeShapes Go.WideShapes Go.ChangeAt Go.RowKit

structure NoteM where
  value : Int
  owner : Int
  rho : Int
  blind : Int
structure SpentM where
  note : NoteM
  key : Int
  number : Int
  position : Int
  path : List Int
  dummy : Bool
structure WitM where
  ins : List SpentM
  outs : List NoteM
  secret : Int
structure StM where
  depth : Int
  anchor : Int
  marks : List Int
  commits : List Int
  rhos : List Int
  dep : Int
  wd : Int
  fee : Int
  acc : Int
  bind : Int

def noteR : Rep NoteM := mapR (fun n => (n.value, n.owner, n.rho, n.blind)) (pairR u64R (pairR u64R (pairR u64R u64R)))
theorem noteR.n : noteR.n = 4 := rfl
abbrev notesR : Rep (List NoteM) := sliceR noteR
def spentR : Rep SpentM := mapR (fun s => (s.note, s.key, s.number, s.position, s.path, s.dummy)) (pairR noteR (pairR u64R (pairR (intR .i64) (pairR (intR .i64) (pairR numsR boolR)))))
theorem spentR.n : spentR.n = 9 := rfl
abbrev spentsR : Rep (List SpentM) := sliceR spentR
abbrev okI (x : Int) : Prop := (Lit.int .i64 x).wf = true
theorem okU_in {x : Int} (h : okU x) : 0 ≤ x ∧ x < 18446744073709551616 := by
  simp [okU, Lit.wf, IntKind.min, IntKind.max, IntKind.signed, IntKind.bits] at h; omega
theorem okU_of {x : Int} (h0 : 0 ≤ x) (h1 : x < 18446744073709551616) : okU x := by
  simp [okU, Lit.wf, IntKind.min, IntKind.max, IntKind.signed, IntKind.bits]; omega
theorem okI_in {x : Int} (h : okI x) : -9223372036854775808 ≤ x ∧ x < 9223372036854775808 := by
  simp [okI, Lit.wf, IntKind.min, IntKind.max, IntKind.signed, IntKind.bits] at h; omega
theorem okI_of {x : Int} (h0 : -9223372036854775808 ≤ x) (h1 : x < 9223372036854775808) : okI x := by
  simp [okI, Lit.wf, IntKind.min, IntKind.max, IntKind.signed, IntKind.bits]; omega
theorem okB_in {x : Int} (h : (Lit.int .u8 x).wf = true) : 0 ≤ x ∧ x < 256 := by
  simp [Lit.wf, IntKind.min, IntKind.max, IntKind.signed, IntKind.bits] at h; omega

structure NoteOk (n : NoteM) : Prop where
  value : okU n.value
  owner : okU n.owner
  rho : okU n.rho
  blind : okU n.blind
theorem noteR.inv {S : Nat → Prop} {w : World} {cs : List Value} {n : NoteM} (h : noteR.rel S w cs n) : cs = [.int .u64 n.value, .int .u64 n.owner, .int .u64 n.rho, .int .u64 n.blind] ∧ NoteOk n := by
  obtain ⟨_, _, rfl, ⟨rfl, w1⟩, _, _, rfl, ⟨rfl, w2⟩, _, _, rfl, ⟨rfl, w3⟩, ⟨rfl, w4⟩⟩ := h
  exact ⟨rfl, w1, w2, w3, w4⟩
theorem noteR.mk {S : Nat → Prop} {w : World} {n : NoteM} (h : NoteOk n) : noteR.rel S w [.int .u64 n.value, .int .u64 n.owner, .int .u64 n.rho, .int .u64 n.blind] n :=
  ⟨[_], [_, _, _], rfl, ⟨rfl, h.value⟩, [_], [_, _], rfl, ⟨rfl, h.owner⟩, [_], [_], rfl, ⟨rfl, h.rho⟩, ⟨rfl, h.blind⟩⟩
structure SpentOk (s : SpentM) : Prop where
  note : NoteOk s.note
  key : okU s.key
  number : okI s.number
  position : okI s.position
/-- The cells of a spent note. -/
def spentCells (s : SpentM) (a : Option Addr) (cap : Nat) : List Value :=
  [.int .u64 s.note.value, .int .u64 s.note.owner, .int .u64 s.note.rho, .int .u64 s.note.blind, .int .u64 s.key, .int .i64 s.number, .int .i64 s.position, .slice a s.path.length cap, .bool s.dummy]
theorem spentR.inv {S : Nat → Prop} {w : World} {cs : List Value} {s : SpentM} (h : spentR.rel S w cs s) : ∃ a cap, cs = spentCells s a cap ∧ SpentOk s ∧ numsR.rel S w [.slice a s.path.length cap] s.path := by
  obtain ⟨c1, _, rfl, h1, _, _, rfl, ⟨rfl, w2⟩, _, _, rfl, ⟨rfl, w3⟩, _, _, rfl, ⟨rfl, w4⟩, _, _, rfl, h5, rfl⟩ := h
  obtain ⟨rfl, hn⟩ := noteR.inv h1
  obtain ⟨a, cap, rfl⟩ := one_form h5
  exact ⟨a, cap, rfl, ⟨hn, w2, w3, w4⟩, h5⟩
theorem spentR.mk {S : Nat → Prop} {w : World} {s : SpentM} {a : Option Addr} {cap : Nat} (h : SpentOk s) (hp : numsR.rel S w [.slice a s.path.length cap] s.path) : spentR.rel S w (spentCells s a cap) s :=
  ⟨[_, _, _, _], [_, _, _, _, _], rfl, noteR.mk h.note, [_], [_, _, _, _], rfl, ⟨rfl, h.key⟩, [_], [_, _, _], rfl, ⟨rfl, h.number⟩, [_], [_, _], rfl, ⟨rfl, h.position⟩, [_], [_], rfl, hp, rfl⟩

/-- Number k of a slice of words. -/
theorem nums_at {S : Nat → Prop} {w : World} {a : Option Addr} {len cap : Nat} {l : List Int} (h : numsR.rel S w [.slice a len cap] l) (k : Nat) (hk : k < l.length) :
    ∃ b off, a = some ⟨b, off, none⟩ ∧ b < w.heap.size ∧ 0 ≤ l[k] ∧ l[k] < 18446744073709551616 ∧ w.cell? ⟨b, off + k, none⟩ = some (.int .u64 l[k]) := by
  obtain ⟨b, off, es, rfl, hb, hbl, ⟨rfl, hw⟩, hca⟩ := sliceR.at h k hk
  have := hca 0 _ rfl
  have h2 := okU_in hw
  exact ⟨b, off, rfl, hbl, h2.1, h2.2, by simpa [intR] using this⟩
theorem nums_in {S : Nat → Prop} {w : World} {a : Option Addr} {len cap : Nat} {l : List Int} (h : numsR.rel S w [.slice a len cap] l) : ∀ x ∈ l, 0 ≤ x ∧ x < 18446744073709551616 := by
  intro x hx
  obtain ⟨k, hk, rfl⟩ := List.getElem_of_mem hx
  obtain ⟨b, off, -, -, h1, h2, -⟩ := nums_at h k hk
  exact ⟨h1, h2⟩
/-- Byte number k. -/
theorem bytes_at {S : Nat → Prop} {w : World} {a : Option Addr} {len cap : Nat} {l : List Int} (h : bytesR.rel S w [.slice a len cap] l) (k : Nat) (hk : k < l.length) :
    ∃ b off, a = some ⟨b, off, none⟩ ∧ b < w.heap.size ∧ S b ∧ 0 ≤ l[k] ∧ l[k] < 256 ∧ w.cell? ⟨b, off + k, none⟩ = some (.int .u8 l[k]) := by
  obtain ⟨b, off, es, rfl, hb, hbl, ⟨rfl, hw⟩, hca⟩ := sliceR.at h k hk
  have := hca 0 _ rfl
  have h2 := okB_in hw
  exact ⟨b, off, rfl, hbl, hb, h2.1, h2.2, by simpa [intR] using this⟩
theorem notes_at {S : Nat → Prop} {w : World} {a : Option Addr} {len cap : Nat} {l : List NoteM} (h : notesR.rel S w [.slice a len cap] l) (k : Nat) (hk : k < l.length) :
    ∃ b off, a = some ⟨b, off, none⟩ ∧ b < w.heap.size ∧ NoteOk l[k] ∧ w.cell? ⟨b, off + k * 4, none⟩ = some (.int .u64 l[k].value) ∧ w.cell? ⟨b, off + k * 4 + 1, none⟩ = some (.int .u64 l[k].owner) ∧
      w.cell? ⟨b, off + k * 4 + 2, none⟩ = some (.int .u64 l[k].rho) ∧ w.cell? ⟨b, off + k * 4 + 3, none⟩ = some (.int .u64 l[k].blind) := by
  obtain ⟨b, off, es, rfl, hb, hbl, hrel, hca⟩ := sliceR.at h k hk
  obtain ⟨rfl, hn⟩ := noteR.inv hrel
  rw [noteR.n] at hca
  exact ⟨b, off, rfl, hbl, hn, hca 0 _ rfl, hca 1 _ rfl, hca 2 _ rfl, hca 3 _ rfl⟩
theorem spents_at {S : Nat → Prop} {w : World} {a : Option Addr} {len cap : Nat} {l : List SpentM} (h : spentsR.rel S w [.slice a len cap] l) (k : Nat) (hk : k < l.length) :
    ∃ b off pa pc, a = some ⟨b, off, none⟩ ∧ b < w.heap.size ∧ SpentOk l[k] ∧ numsR.rel S w [.slice pa l[k].path.length pc] l[k].path ∧
      w.cell? ⟨b, off + k * 9, none⟩ = some (.int .u64 l[k].note.value) ∧ w.cell? ⟨b, off + k * 9 + 1, none⟩ = some (.int .u64 l[k].note.owner) ∧
      w.cell? ⟨b, off + k * 9 + 2, none⟩ = some (.int .u64 l[k].note.rho) ∧ w.cell? ⟨b, off + k * 9 + 3, none⟩ = some (.int .u64 l[k].note.blind) ∧
      w.cell? ⟨b, off + k * 9 + 4, none⟩ = some (.int .u64 l[k].key) ∧ w.cell? ⟨b, off + k * 9 + 5, none⟩ = some (.int .i64 l[k].number) ∧
      w.cell? ⟨b, off + k * 9 + 6, none⟩ = some (.int .i64 l[k].position) ∧ w.cell? ⟨b, off + k * 9 + 7, none⟩ = some (.slice pa l[k].path.length pc) ∧
      w.cell? ⟨b, off + k * 9 + 8, none⟩ = some (.bool l[k].dummy) := by
  obtain ⟨b, off, es, rfl, hb, hbl, hrel, hca⟩ := sliceR.at h k hk
  obtain ⟨pa, pc, rfl, hn, hp⟩ := spentR.inv hrel
  rw [spentR.n] at hca
  exact ⟨b, off, pa, pc, rfl, hbl, hn, hp, hca 0 _ rfl, hca 1 _ rfl, hca 2 _ rfl, hca 3 _ rfl, hca 4 _ rfl, hca 5 _ rfl, hca 6 _ rfl, hca 7 _ rfl, hca 8 _ rfl⟩

/-! The sponge -/
def absLoop (s : T3) : List Int → T3
  | [] => s
  | [x] => permS (addP s.1 x, s.2.1, s.2.2)
  | x :: y :: r => absLoop (permS (addP s.1 x, addP s.2.1 y, s.2.2)) r
def absStart (label : Int) (n : Nat) : T3 := (0, 0, addP (mulP label 65536) n)
def absorbS (label : Int) (l : List Int) : T3 := if l.length = 0 then permS (absStart label 0) else absLoop (absStart label l.length) l
def hashS (label : Int) (l : List Int) : Int := (absorbS label l).1
theorem permS_in (s : T3) : 0 ≤ (permS s).1 ∧ (permS s).1 < 18446744069414584321 := addP_in _ _
theorem permS_words (s : T3) : Words3 (permS s) := mixS_words _
theorem absLoop_in : ∀ (s : T3) (l : List Int), l ≠ [] → 0 ≤ (absLoop s l).1 ∧ (absLoop s l).1 < 18446744069414584321
  | _, [], h => absurd rfl h
  | _, [_], _ => permS_in _
  | _, [_, _], _ => permS_in _
  | _, _ :: _ :: z :: r, _ => absLoop_in _ (z :: r) (by simp)
theorem hashS_in (label : Int) (l : List Int) : 0 ≤ hashS label l ∧ hashS label l < 18446744069414584321 := by
  unfold hashS absorbS
  split
  · exact permS_in _
  · exact absLoop_in _ _ (fun h => by simp [h] at *)
theorem absStart_words (label : Int) (n : Nat) : Words3 (absStart label n) := by
  have := addP_word (mulP label 65536) n
  unfold Words3 absStart; simp; omega
/-- One round: two elements are left, or one. -/
theorem absLoop_two (s : T3) (l : List Int) (i : Nat) (h : i + 1 < l.length) : absLoop s (l.drop i) = absLoop (permS (addP s.1 l[i], addP s.2.1 l[i + 1], s.2.2)) (l.drop (i + 2)) := by
  rw [List.drop_eq_getElem_cons (show i < l.length by omega), List.drop_eq_getElem_cons h]; rfl
theorem absLoop_one (s : T3) (l : List Int) (i : Nat) (h : i < l.length) (h2 : l.length ≤ i + 1) : absLoop s (l.drop i) = permS (addP s.1 l[i], s.2.1, s.2.2) := by
  rw [List.drop_eq_getElem_cons h, List.drop_of_length_le h2]; rfl

/-! Numbers out of bytes -/
def leN : List Int → Int
  | [] => 0
  | d :: r => d + 256 * leN r
theorem leN_snoc : ∀ (l : List Int) (d : Int), leN (l ++ [d]) = leN l + d * 256 ^ l.length
  | [], d => by simp [leN]
  | x :: l, d => by
    simp only [List.cons_append, leN, leN_snoc l d, List.length_cons, Int.pow_succ]
    rw [Int.mul_add, ← Int.mul_assoc, Int.mul_comm 256 d, Int.mul_assoc, Int.mul_comm 256 (256 ^ l.length), Int.add_assoc]
theorem leN_in : ∀ (l : List Int), (∀ d ∈ l, 0 ≤ d ∧ d < 256) → 0 ≤ leN l ∧ leN l < 256 ^ l.length
  | [], _ => by simp [leN]
  | x :: l, h => by
    have h1 := h x (by simp)
    have h2 := leN_in l fun d hd => h d (by simp [hd])
    simp only [leN, List.length_cons, Int.pow_succ]
    omega
end Go.Proofs.YthggdacincfplaaGreatDoor
