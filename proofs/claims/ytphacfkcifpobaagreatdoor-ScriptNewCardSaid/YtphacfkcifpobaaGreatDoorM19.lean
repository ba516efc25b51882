/- The state of a chain of the program: the state behind a list of blocks; Apply and Undo of such states. -/
import Derived.Test.YtphacfkcifpobaaGreatDoorM18
import Derived.Test.YtphacfkcifpobaaGreatDoorM06
import Derived.Test.YtphacfkcifpobaaGreatDoorM14
set_option maxRecDepth 100000
namespace Go.Proofs.YtphacfkcifpobaaGreatDoor
open Go.ChangeShapes Go.WideShapes Go.ChangeAt Go.RowKit Go.Sort
def posB (b : BlkM) : Prop := ∀ t ∈ b.txs, ∀ o ∈ t.outs, 0 ≤ o.commit
theorem BlkIn.pos {S : Nat → Prop} {w : World} {b : BlkM} {xa : Option Addr} {xc : Nat} (h : BlkIn S w b xa xc) : posB b := by
 intro t ht
 obtain ⟨j, hj, rfl⟩ := List.getElem_of_mem ht; obtain ⟨_, _, _, _, _, _, _, _, _, _, hin, _⟩ := txs_at h.txs j hj
 exact outs_pos hin
theorem txs_ok {r : RuM} {N : Nat} : ∀ (l : List TxM) (s0 : PoM) (k : List TxM) (s : PoM) (m : List Int), TxsK r N s0 k s m → txsE r s l = 0 → (∀ t ∈ l, ∀ o ∈ t.outs, 0 ≤ o.commit) → ∃ m', TxsK r N s0 (k ++ l) (txsW s l) m'
 | [], s0, k, s, m, h, _, _ => ⟨m, by rw [List.append_nil]; exact h⟩
 | t :: l, s0, k, s, m, h, he, hp => by
   have he' : (if poCheckE r s t = 0 then (if perfE s t = 0 then txsE r (perfW s t) l else perfE s t) else poCheckE r s t) = 0 := he
   split at he'
   · rename_i h1
     split at he'
     · rename_i h2
       obtain ⟨m', h3⟩ := txs_ok l s0 (k ++ [t]) (perfW s t) (m ++ t.marks) (h.next h1 h2 (hp t (by simp))) he' fun t' ht' => hp t' (by simp [ht'])
       refine ⟨m', ?_⟩
       rw [List.append_assoc] at h3
       exact h3
     · rename_i h2; exact absurd he' h2
   · rename_i h1; exact absurd he' h1
theorem apply_block {r : RuM} {s : PoM} {b : BlkM} (h : applyE r s b = 0) : b.height = s.past.length + 1 ∧ b.miner < 18446744069414584321 ∧ blockE r s b = 0 := by
 unfold applyE at h
 split at h
 · split at h
   · exact ⟨by assumption, by assumption, h⟩
   · simp at h
 · simp at h
theorem block_txs {r : RuM} {s : PoM} {b : BlkM} (h : blockE r s b = 0) : txsE r s b.txs = 0 := by
 unfold blockE at h
 split at h
 · assumption
 · rename_i h1; exact absurd h h1
theorem block_part {r : RuM} {N : Nat} {s : PoM} {b : BlkM} (ok : PoOK r s N) (h : applyE r s b = 0) (hp : posB b) (hl : b.txs.length ≤ 64) : PoOK r (blockW r s b) (N + 400) ∧ Part s (blockW r s b) (marksL b.txs) := by
 obtain ⟨m', hk⟩ := txs_ok b.txs s [] s [] (TxsK.zero ok) (block_txs (apply_block h).2.2) hp; rw [List.nil_append] at hk; have hm := hk.mks; subst hm; have h1 := hk.ok
 have hN : N + 4 * b.txs.length ≤ N + 400 := by omega
 refine ⟨⟨h1.tree, h1.count, h1.leaves, Nat.le_trans h1.marks hN, creditL_up h1.up _ _, ?_, h1.hidden, h1.roots⟩, ⟨hk.part.leaves, hk.part.marks, hk.part.nodup, hk.part.fresh, hk.part.roots, hk.part.past⟩⟩
 have h2 := creditL_len (txsW s b.txs).book b.miner (wrapU (r.rew + feesL 0 b.txs)); have h3 := h1.book
 show (creditL _ _ _).length ≤ _
 omega
theorem apply_ok {r : RuM} {N : Nat} {s : PoM} {b : BlkM} (ok : PoOK r s N) (h : applyE r s b = 0) (hp : posB b) (hl : b.txs.length ≤ 64) : PoOK r (applyW r s b) (N + 400) := by
 obtain ⟨h1, h2⟩ := block_part ok h hp hl
 refine ⟨h1.tree, h1.count, h1.leaves, h1.marks, h1.up, h1.book, h1.hidden, ?_⟩
 show (s.roots ++ [_]).length = (s.past ++ [_]).length + 1
 rw [List.length_append, List.length_append, ok.roots]; simp
theorem undo_apply {r : RuM} {N : Nat} {s : PoM} {b : BlkM} (ok : PoOK r s N) (h : applyE r s b = 0) (hp : posB b) (hl : b.txs.length ≤ 64) (hup : s.marks.Pairwise (· < ·)) : undoW (applyW r s b) s.past (befM s b) s.roots = s := by
 obtain ⟨h1, h2⟩ := block_part ok h hp hl; have h3 := rest_part h2 hup; have e1 := congrArg PoM.leaves h3; have e2 := congrArg PoM.marks h3
 show PoM.mk s.tree ((blockW r s b).leaves.take (s.leaves.length : Int).toNat) (remW (blockW r s b).marks (marksL b.txs)) s.book s.hidden s.roots s.past = s
 rw [show (blockW r s b).leaves.take (s.leaves.length : Int).toNat = s.leaves from e1, show remW (blockW r s b).marks (marksL b.txs) = s.marks from e2]
def runW (r : RuM) (bs : List BlkM) : PoM := bs.foldl (applyW r) (newP r)
theorem runW_snoc (r : RuM) (bs : List BlkM) (b : BlkM) : runW r (bs ++ [b]) = applyW r (runW r bs) b := by unfold runW; rw [List.foldl_append]; rfl
structure BlkOK (b : BlkM) : Prop where
 valid : blkE b = 0
 pos : posB b
theorem BlkOK.txs {b : BlkM} (h : BlkOK b) : b.txs.length ≤ 64 := (blkE_head h.valid).2.2.2.2.2.2
def RunOK (r : RuM) (bs : List BlkM) : Prop := ∀ k (h : k < bs.length), BlkOK bs[k] ∧ applyE r (runW r (bs.take k)) bs[k] = 0
theorem RunOK.nil (r : RuM) : RunOK r [] := fun k h => by simp at h
theorem RunOK.snoc {r : RuM} {bs : List BlkM} (h : RunOK r bs) {b : BlkM} (hb : BlkOK b) (he : applyE r (runW r bs) b = 0) : RunOK r (bs ++ [b]) := by
 intro k hk
 rcases Nat.lt_or_ge k bs.length with hlt | hge
 · rw [List.getElem_append_left hlt, List.take_append_of_le_length (by omega)]
   exact h k hlt
 · have hk' : k = bs.length := by simp at hk; omega
   subst hk'
   rw [List.getElem_append_right (by omega), List.take_left']
   · simpa using ⟨hb, he⟩
   · rfl
theorem RunOK.take {r : RuM} {bs : List BlkM} (h : RunOK r bs) (n : Nat) : RunOK r (bs.take n) := by
 intro k hk
 rw [List.length_take] at hk
 rw [List.getElem_take, List.take_take, Nat.min_eq_left (by omega)]
 exact h k (by omega)
theorem RunOK.last {r : RuM} {bs : List BlkM} {b : BlkM} (h : RunOK r (bs ++ [b])) : RunOK r bs ∧ BlkOK b ∧ applyE r (runW r bs) b = 0 := by
 have h1 := h.take bs.length; rw [List.take_left' rfl] at h1
 have h2 := h bs.length (by simp)
 rw [List.getElem_append_right (by omega), List.take_left' rfl] at h2
 simp at h2
 exact ⟨h1, h2⟩
theorem newP_ok {r : RuM} (h : RuOK r) : PoOK r (newP r) 0 :=
 ⟨newF_ok _ (by have := h.d0; omega) (by have := h.d1; omega), rfl, by intro x hx; simp [newP] at hx, Nat.le_refl _, List.Pairwise.nil, Nat.le_refl _, okU_of (by show (0 : Int) ≤ 0; omega) (by show (0 : Int) < _; omega), rfl⟩
theorem addS_sorted_apply {r : RuM} {N : Nat} {s : PoM} {b : BlkM} (ok : PoOK r s N) (h : applyE r s b = 0) (hp : posB b) (hl : b.txs.length ≤ 64) (hup : s.marks.Pairwise (· < ·)) : (applyW r s b).marks.Pairwise (· < ·) := by
 obtain ⟨h1, h2⟩ := block_part ok h hp hl
 show (blockW r s b).marks.Pairwise _
 rw [h2.marks]
 exact sorted_addS _ _ hup
structure RunFacts (r : RuM) (bs : List BlkM) : Prop where
 ok : PoOK r (runW r bs) (400 * bs.length)
 up : (runW r bs).marks.Pairwise (· < ·)
 past : (runW r bs).past.length = bs.length
theorem RunFacts.snoc {r : RuM} {bs : List BlkM} {b : BlkM} (h : RunFacts r bs) (hb : BlkOK b) (he : applyE r (runW r bs) b = 0) : RunFacts r (bs ++ [b]) := by
 refine ⟨?_, ?_, ?_⟩
 · rw [runW_snoc, List.length_append, List.length_singleton, Nat.mul_add]
   exact apply_ok h.ok he hb.pos hb.txs
 · rw [runW_snoc]; exact addS_sorted_apply h.ok he hb.pos hb.txs h.up
 · rw [runW_snoc, List.length_append, List.length_singleton, ← h.past]
   show ((runW r bs).past ++ [_]).length = _
   rw [List.length_append]; rfl
theorem run_facts {r : RuM} (hr : RuOK r) : ∀ (n : Nat) (bs : List BlkM), bs.length = n → RunOK r bs → RunFacts r bs
 | 0, bs, h, _ => by
   obtain rfl := List.eq_nil_of_length_eq_zero h
   exact ⟨newP_ok hr, List.Pairwise.nil, rfl⟩
 | n + 1, bs, h, ho => by
   have hne : bs ≠ [] := by intro e; rw [e] at h; simp at h
   have e1 := List.dropLast_concat_getLast hne; rw [← e1] at ho ⊢; obtain ⟨h1, h2, h3⟩ := ho.last
   exact (run_facts hr n bs.dropLast (by rw [List.length_dropLast]; omega) h1).snoc h2 h3
theorem runW_undo {r : RuM} (hr : RuOK r) {bs : List BlkM} {b : BlkM} (ho : RunOK r (bs ++ [b])) : undoW (runW r (bs ++ [b])) (runW r bs).past (befM (runW r bs) b) (runW r bs).roots = runW r bs := by
 obtain ⟨h1, h2, h3⟩ := ho.last; have hf := run_facts hr _ bs rfl h1; rw [runW_snoc]
 exact undo_apply hf.ok h3 h2.pos h2.txs hf.up
theorem undo_run (p : Nat) (I : Nat → Prop) (w : World) (r : RuM) (hr : RuOK r) (bs : List BlkM) (b : BlkM) (ho : RunOK r (bs ++ [b])) (hl : bs.length ≤ 200) (v : PoV) (h : PoAt p I w r (runW r (bs ++ [b])) v) :
   Calls Tryz.prog 135 #[.pointer (some ⟨p, 0, none⟩)] w fun e w' => e = .returned (.bool true) ∧ PoTo p I v w r (runW r bs) w' := by
 obtain ⟨h1, h2, h3⟩ := ho.last; have hf := run_facts hr _ bs rfl h1; have hf2 := run_facts hr _ _ rfl ho
 have hlen : (bs ++ [b]).length ≤ 201 := by simp; omega
 obtain ⟨hb1, hb2⟩ := block_part hf.ok h3 h2.pos h2.txs
 have e1 : (runW r (bs ++ [b])).past = (runW r bs).past ++ [befM (runW r bs) b] := by rw [runW_snoc]; rfl
 have e2 : (runW r (bs ++ [b])).roots = (runW r bs).roots ++ [rootF (blockW r (runW r bs) b).tree r.depth.toNat] := by rw [runW_snoc]; rfl
 have e3 : (runW r bs).leaves.length ≤ (runW r (bs ++ [b])).leaves.length := by
   rw [runW_snoc]
   show _ ≤ (blockW r (runW r bs) b).leaves.length
   have := congrArg List.length hb2.leaves
   rw [List.length_take] at this; omega
 have hmk : (befM (runW r bs) b).marks.length ≤ 1000000 := by
   obtain ⟨m', hk⟩ := txs_ok b.txs (runW r bs) [] (runW r bs) [] (TxsK.zero hf.ok) (block_txs (apply_block h3).2.2) h2.pos; have h4 := hk.len; have h5 := hk.mks; subst h5; have h6 := h2.txs
   show (marksL b.txs).length ≤ _
   rw [List.nil_append] at h4
   omega
 have hu := undo_any p I w r (runW r (bs ++ [b])) v h (runW r bs).past (befM (runW r bs) b) e1 (by rw [hf.past]; omega) (runW r bs).leaves.length rfl e3 (leaves_len hf2.ok) (by have := hf2.ok.marks; omega) hmk (runW r bs).roots _ e2 (by rw [hf.ok.roots, hf.past]; omega)
 rw [runW_undo hr ho] at hu
 exact hu
theorem apply_run (p : Nat) (I : Nat → Prop) (w : World) (r : RuM) (hr : RuOK r) (bs : List BlkM) (ho : RunOK r bs) (hl : bs.length ≤ 200) (v : PoV) (h : PoAt p I w r (runW r bs) v) (S : Nat → Prop) (b : BlkM) (xa : Option Addr) (xc : Nat) (hb : BlkIn S w b xa xc) (hbl : b.txs.length ≤ 64) (hS : ∀ k, S k → ¬ PoMut p v k) :
   Calls Tryz.prog 134 #[.pointer (some ⟨p, 0, none⟩), .agg #[.int .u64 b.parent, .int .i64 b.height, .int .u64 b.miner, .int .u64 b.work, .int .u64 b.nonce, .slice xa b.txs.length xc]] w fun e w' => e = .returned (.int .i64 (applyE r (runW r bs) b)) ∧ PoTo p I v w r (apW r (runW r bs) b) w' := by
 have hf := run_facts hr _ bs rfl ho
 exact apply_any p I w r hr (runW r bs) v h (400 * bs.length) hf.ok (by omega) (by rw [hf.past]; omega) S b xa xc hb hbl hS
end Go.Proofs.YtphacfkcifpobaaGreatDoor
/- The chain of the program: plain values, representation in memory. -/
namespace Go.Proofs.YtphacfkcifpobaaGreatDoor
open Go.ChangeShapes Go.WideShapes Go.ChangeAt Go.RowKit Go.Sort
structure StB where
 id : Int
 b : BlkM
 tot : Int
 xa : Option Addr
 xc : Nat
abbrev stV (e : StB) : Value := .agg #[.int .u64 e.b.parent, .int .i64 e.b.height, .int .u64 e.b.miner, .int .u64 e.b.work, .int .u64 e.b.nonce, .slice e.xa e.b.txs.length e.xc, .int .u64 e.tot]
abbrev stZ : Value := .agg #[.int .u64 0, .int .i64 0, .int .u64 0, .int .u64 0, .int .u64 0, .slice none 0 0, .int .u64 0]
structure ChM where
 L : List StB
 best : List Int
 final : Int
 hgt : Nat
structure ChV where
 op : Nat
 mb : Nat
 ba : Option Addr
 bc : Nat
 p : Nat
 pv : PoV
def findS (L : List StB) (x : Int) : Option StB := L.find? fun e => e.id == x
def zeroB : BlkM := ⟨0, 0, 0, 0, 0, []⟩
def blkS (L : List StB) (x : Int) : BlkM := ((findS L x).map (·.b)).getD zeroB
def blksS (L : List StB) (l : List Int) : List BlkM := l.map (blkS L)
def OrIn (S : Nat → Prop) (p : Nat) (w : World) : Prop :=
 ∃ mk ms mp, w.heap[p]? = some (.cells #[.bool false, .int .u64 0, .int .i64 0, .slice none 0 0, .map (some mk), .map (some ms), .map (some mp)] 70 (0, 0)) ∧
   w.heap[mk]? = some (.map #[] 0) ∧ w.heap[ms]? = some (.map #[] 0) ∧ w.heap[mp]? = some (.map #[] 0) ∧ S p ∧ S mk ∧ S ms ∧ S mp
theorem OrIn.at' {S : Nat → Prop} {p : Nat} {w : World} (h : OrIn S p w) : OrAt false 0 p w := by
 obtain ⟨mk, ms, mp, h1, h2, h3, h4, -⟩ := h
 exact ⟨mk, ms, mp, h1, h2, h3, h4⟩
theorem OrAt.in' {p : Nat} {w : World} (h : OrAt false 0 p w) : OrIn (fun k => k < w.heap.size) p w := by
 obtain ⟨mk, ms, mp, h1, h2, h3, h4⟩ := h
 exact ⟨mk, ms, mp, h1, h2, h3, h4, box_lt h1, box_lt h2, box_lt h3, box_lt h4⟩
theorem OrIn.keep {S T : Nat → Prop} {p : Nat} {w w' : World} (h : OrIn S p w) (hk : Kept T w w') (hT : ∀ k, S k → T k) : OrIn S p w' := by
 obtain ⟨mk, ms, mp, h1, h2, h3, h4, s1, s2, s3, s4⟩ := h
 exact ⟨mk, ms, mp, box_kept hk h1 (hT _ s1), box_kept hk h2 (hT _ s2), box_kept hk h3 (hT _ s3), box_kept hk h4 (hT _ s4), s1, s2, s3, s4⟩
theorem OrIn.mono {S T : Nat → Prop} {p : Nat} {w : World} (h : OrIn S p w) (hT : ∀ k, S k → T k) : OrIn T p w := by
 obtain ⟨mk, ms, mp, h1, h2, h3, h4, s1, s2, s3, s4⟩ := h
 exact ⟨mk, ms, mp, h1, h2, h3, h4, hT _ s1, hT _ s2, hT _ s3, hT _ s4⟩
def ChMut (c : Nat) (v : ChV) (k : Nat) : Prop := k = c ∨ k = v.mb ∨ PoMut v.p v.pv k
abbrev chCells (r : RuM) (m : ChM) (v : ChV) : Array Value :=
 #[.pointer (some ⟨v.op, 0, none⟩), .int .i64 r.mode, .int .i64 r.depth, .int .i64 r.bl, .int .i64 r.bu, .int .i64 r.qu, .int .u64 r.rew, .int .i64 r.win, .int .i64 r.fin, .int .u64 r.work,
   .map (some v.mb), .slice v.ba m.best.length v.bc, .pointer (some ⟨v.p, 0, none⟩), .int .u64 m.final, .int .i64 (m.hgt : Nat)]
def StoAt (w : World) (mb : Nat) (L : List StB) : Prop := ∃ nm : NMap, MapAt w mb nm ∧ (∀ x, getM nm x = (findS L x).map stV) ∧ nm.length ≤ L.length
structure ChAt (c : Nat) (SB PI : Nat → Prop) (w : World) (r : RuM) (m : ChM) (bs : List BlkM) (v : ChV) : Prop where
 cell : w.heap[c]? = some (.cells (chCells r m v) 107 (0, 0))
 orc : r.mode = 2 → OrIn SB v.op w
 map : StoAt w v.mb m.L
 blocks : ∀ e ∈ m.L, BlkIn SB w e.b e.xa e.xc ∧ okU e.id ∧ okU e.tot
 best : numsR.rel SB w [.slice v.ba m.best.length v.bc] m.best
 state : PoAt v.p PI w r (runW r bs) v.pv
 free : ∀ k, ChMut c v k → ¬ SB k
 ap1 : ¬ PoMut v.p v.pv c
 ap2 : ¬ PoMut v.p v.pv v.mb
 pi : ∀ k, PI k → k ≠ c ∧ k ≠ v.mb
 lt : ∀ k, SB k → k < w.heap.size
section
variable {c : Nat} {SB PI : Nat → Prop} {w w' : World} {r : RuM} {m : ChM} {bs : List BlkM} {v : ChV}
theorem StoAt.keep {S : Nat → Prop} {mb : Nat} {L : List StB} (h : StoAt w mb L) (hk : Kept S w w') (hS : S mb) : StoAt w' mb L := by
 obtain ⟨nm, h1, h2⟩ := h; exact ⟨nm, h1.keep hk hS, h2⟩
theorem StoAt.keepB {mb : Nat} {L : List StB} (h : StoAt w mb L) (hb : Below w.heap.size w w') : StoAt w' mb L := by
 obtain ⟨nm, h1, h2⟩ := h; exact ⟨nm, h1.keepB hb, h2⟩
theorem StoAt.lt {mb : Nat} {L : List StB} (h : StoAt w mb L) : mb < w.heap.size := by obtain ⟨nm, h1, -⟩ := h; exact h1.lt
theorem ChAt.mut_lt (h : ChAt c SB PI w r m bs v) (k : Nat) (hk : ChMut c v k) : k < w.heap.size := by
 rcases hk with rfl | rfl | e
 · exact box_lt h.cell
 · exact h.map.lt
 · exact h.state.mut_lt k e
theorem ChAt.ne_mb (h : ChAt c SB PI w r m bs v) : c ≠ v.mb := by
 intro e
 obtain ⟨nm, ⟨es, clock, hb, _⟩, -⟩ := h.map
 rw [← e, h.cell] at hb; simp at hb
theorem ChAt.keep (h : ChAt c SB PI w r m bs v) {S : Nat → Prop} (hk : Kept S w w') (hI : ∀ k, SB k → S k) (hP : ∀ k, PI k → S k) (hM : ∀ k, ChMut c v k → S k) : ChAt c SB PI w' r m bs v :=
 ⟨(hk.block c (box_lt h.cell) (hM c (.inl rfl))).trans h.cell, fun e => (h.orc e).keep hk hI, h.map.keep hk (hM _ (.inr (.inl rfl))),
  fun e he => ⟨(h.blocks e he).1.keep (hk.mono fun k _ => hI k), (h.blocks e he).2⟩, numsR.keep h.best (hk.mono fun k _ => hI k),
  h.state.keep hk hP fun k hk => hM k (.inr (.inr hk)), h.free, h.ap1, h.ap2, h.pi, fun k hi => Nat.lt_of_lt_of_le (h.lt k hi) hk.size⟩
theorem ChAt.keepB (h : ChAt c SB PI w r m bs v) (hb : Below w.heap.size w w') : ChAt c SB PI w' r m bs v :=
 h.keep (Kept.of_below (S := fun k => k < w.heap.size) hb) h.lt h.state.lt h.mut_lt
theorem ChAt.keepC (h : ChAt c SB PI w r m bs v) (hk : Kept (fun k => k ≠ c) w w') : (r.mode = 2 → OrIn SB v.op w') ∧ StoAt w' v.mb m.L ∧ (∀ e ∈ m.L, BlkIn SB w' e.b e.xa e.xc ∧ okU e.id ∧ okU e.tot) ∧ numsR.rel SB w' [.slice v.ba m.best.length v.bc] m.best ∧ PoAt v.p PI w' r (runW r bs) v.pv := by
 have hs : ∀ k, SB k → k ≠ c := fun k hk e => h.free c (.inl rfl) (e ▸ hk)
 exact ⟨fun e => (h.orc e).keep hk hs, h.map.keep hk (Ne.symm h.ne_mb), fun e he => ⟨(h.blocks e he).1.keep (hk.mono fun k _ => hs k), (h.blocks e he).2⟩, numsR.keep h.best (hk.mono fun k _ => hs k),
   h.state.keep hk (fun k hk => (h.pi k hk).1) fun k hm e => h.ap1 (e ▸ hm)⟩
end
theorem zero_st (w : World) : (zeroValue 310).run Tryz.prog w = .ok stZ w := by
 have h0 : (Tryz.prog.info? 310).map (·.zero) = some (some stZ) := by kernel_rfl
 obtain ⟨i, hi, hz⟩ := Option.map_eq_some_iff.1 h0
 simp [zeroValue, typeInfo, hi, hz]
theorem fld_tot (a0 a1 a2 a3 a4 a6 : Int) (a5 : Option Addr) (n5 c5 : Nat) (w : World) : (Instr.field 310 (.agg #[.int .u64 a0, .int .i64 a1, .int .u64 a2, .int .u64 a3, .int .u64 a4, .slice a5 n5 c5, .int .u64 a6]) 1).run Tryz.prog w = .ok (.int .u64 a6) w := by kernel_rfl
theorem fld_blk (a0 a1 a2 a3 a4 a6 : Int) (a5 : Option Addr) (n5 c5 : Nat) (w : World) : (Instr.field 310 (.agg #[.int .u64 a0, .int .i64 a1, .int .u64 a2, .int .u64 a3, .int .u64 a4, .slice a5 n5 c5, .int .u64 a6]) 0).run Tryz.prog w = .ok (.agg #[.int .u64 a0, .int .i64 a1, .int .u64 a2, .int .u64 a3, .int .u64 a4, .slice a5 n5 c5]) w := by kernel_rfl
theorem StoAt.look {w : World} {mb : Nat} {L : List StB} (h : StoAt w mb L) (x : Int) (hx : okU x) : (Instr.lookup 104 (.map (some mb)) (.int .u64 x) false).run Tryz.prog w = .ok (((findS L x).map stV).getD stZ) w := by
 obtain ⟨nm, h1, h2, -⟩ := h; rw [h1.look Tryz.underlying104 (zero_st w) x hx, h2]
theorem StoAt.look_ok {w : World} {mb : Nat} {L : List StB} (h : StoAt w mb L) (x : Int) (hx : okU x) : (Instr.lookup 104 (.map (some mb)) (.int .u64 x) true).run Tryz.prog w = .ok (.tuple #[((findS L x).map stV).getD stZ, .bool (findS L x).isSome]) w := by
 obtain ⟨nm, h1, h2, -⟩ := h; rw [h1.look_ok Tryz.underlying104 (zero_st w) x hx, h2, Option.isSome_map]
theorem StoAt.found {w : World} {mb : Nat} {L : List StB} (h : StoAt w mb L) (x : Int) (hx : okU x) (e : StB) (he : findS L x = some e) : (Instr.lookup 104 (.map (some mb)) (.int .u64 x) false).run Tryz.prog w = .ok (.agg #[.int .u64 e.b.parent, .int .i64 e.b.height, .int .u64 e.b.miner, .int .u64 e.b.work, .int .u64 e.b.nonce, .slice e.xa e.b.txs.length e.xc, .int .u64 e.tot]) w := by
 rw [h.look x hx, he]; rfl
end Go.Proofs.YtphacfkcifpobaaGreatDoor
/- The chain of the program: Tip, Final, Best, better. -/
namespace Go.Proofs.YtphacfkcifpobaaGreatDoor
open Go.ChangeShapes Go.WideShapes Go.ChangeAt Go.RowKit Go.Sort
section
variable (c : Nat) (SB PI : Nat → Prop) (w : World) (r : RuM) (m : ChM) (bs : List BlkM) (v : ChV)
def tipS (m : ChM) : Int := m.best.getLast?.getD 0
theorem tip_any (h : ChAt c SB PI w r m bs v) (hl : m.best.length ≤ 100000) :
   Calls Tryz.prog 18 #[.pointer (some ⟨c, 0, none⟩)] w fun e w' => e = .returned (.tuple #[.int .u64 (tipS m), .int .i64 m.best.length]) ∧ Below w.heap.size w w' := by
 obtain ⟨x0, x1⟩ := box_cells h.cell
 simp only [chCells] at x0
 have HB := Lib.hid h.best; have HT : Hid (tipS m = m.best.getLast?.getD 0) := rfl; clear h; obtain ⟨n, hn⟩ : ∃ n, m.best.length = n := ⟨_, rfl⟩
 by_cases h0 : n = 0
 · have HF : Hid (tipS m = 0) := by show _ = _; rw [HT.out, List.eq_nil_of_length_eq_zero (hn.trans h0)]; rfl
   rw [hn] at x0 ⊢; subst h0
   go_enter Tryz.func18, Tryz.ntmps18
   go_wp2_with fail; go_ret2
   exact ⟨by rw [HF.out]; rfl, Below.refl _ _⟩
 · obtain ⟨k, hk⟩ : ∃ k, n = k + 1 := ⟨n - 1, by omega⟩
   have hlt : k < m.best.length := by omega
   have HF : Hid (tipS m = m.best[k]) := by show _ = _; rw [HT.out, List.getLast?_eq_getElem?, List.getElem?_eq_getElem (by omega)]; simp [hn, hk]
   obtain ⟨bb, off, hba, hbl, hcc⟩ := nums_at HB.out k hlt; rw [hn] at x0 ⊢; rw [hba] at x0; generalize m.best[k] = y at *
   have hk9 : k ≤ 100000 := by omega
   clear h0 hn hlt hba; subst hk
   have hwk : wrap64 (k : Int) = k := by unfold wrap64; omega
   go_enter Tryz.func18, Tryz.ntmps18
   go_wp2_with fail
   go_region
   go_wp2_with fail; go_ret2
   exact ⟨by rw [HF.out]; rfl, (Below.refl _ _).drew⟩
theorem best_any (h : ChAt c SB PI w r m bs v) (hl : m.best.length ≤ 100000) :
   Calls Tryz.prog 109 #[.pointer (some ⟨c, 0, none⟩)] w fun e w' => ∃ u, e = .returned u ∧ Own u64R w.heap.size 24 (fun k => w.heap.size ≤ k) w' u m.best ∧ Below w.heap.size w w' := by
 obtain ⟨x0, x1⟩ := box_cells h.cell
 simp only [chCells] at x0
 have HB := Lib.hid h.best; clear h
 go_enter Tryz.func109, Tryz.ntmps109
 go_wp2_with fail
 refine (cloneO_any SB w v.ba v.bc m.best HB.out (by omega)).mono ?_
 rintro e w1 ⟨u, rfl, ho, hb1⟩; have HO := Lib.hid ho; clear ho x0 x1; go_wp2_with fail; go_ret
 exact ⟨u, rfl, HO.out, hb1⟩
def betterB (m : ChM) (id work : Int) : Bool :=
 if m.best.length = 0 then true
 else decide (((findS m.L (tipS m)).map (·.tot)).getD 0 < work) || (work == ((findS m.L (tipS m)).map (·.tot)).getD 0) && decide (id < tipS m)
set_option maxHeartbeats 1000000 in
theorem better_any (h : ChAt c SB PI w r m bs v) (hl : m.best.length ≤ 100000) (hin : ∀ x ∈ m.best, ∃ e, findS m.L x = some e) (id work : Int) :
   Calls Tryz.prog 202 #[.pointer (some ⟨c, 0, none⟩), .int .u64 id, .int .u64 work] w fun e w' => e = .returned (.bool (betterB m id work)) ∧ Below w.heap.size w w' := by
 obtain ⟨x0, x1⟩ := box_cells h.cell; have HC := Lib.hid h.cell
 simp only [chCells] at x0
 have HB := Lib.hid h.best; have HM := Lib.hid h.map; have HT : Hid (tipS m = m.best.getLast?.getD 0) := rfl; have HBT : Hid (betterB m id work = if m.best.length = 0 then true else decide (((findS m.L (tipS m)).map (·.tot)).getD 0 < work) || (work == ((findS m.L (tipS m)).map (·.tot)).getD 0) && decide (id < tipS m)) := rfl; clear h; obtain ⟨n, hn⟩ : ∃ n, m.best.length = n := ⟨_, rfl⟩
 by_cases h0 : n = 0
 · have HF : Hid (betterB m id work = true) := by show _ = _; rw [HBT.out, if_pos (hn.trans h0)]
   rw [hn] at x0; subst h0
   go_enter Tryz.func202, Tryz.ntmps202
   go_wp2_with fail; go_ret
   exact ⟨by rw [HF.out]; rfl, Below.refl _ _⟩
 · obtain ⟨k, hk⟩ : ∃ k, n = k + 1 := ⟨n - 1, by omega⟩
   have hlt : k < m.best.length := by omega
   have hF : tipS m = m.best[k] := by rw [HT.out, List.getLast?_eq_getElem?, List.getElem?_eq_getElem (by omega)]; simp [hn, hk]
   obtain ⟨e, he⟩ := hin m.best[k] (List.getElem_mem hlt)
   have HBE : Hid (betterB m id work = (decide (e.tot < work) || (work == e.tot) && decide (id < m.best[k]))) := by
     show _ = _
     rw [HBT.out, if_neg (by omega), hF, he]; rfl
   have hoy := ints_wf HB.out _ (List.getElem_mem hlt); obtain ⟨bb, off, hba, hbl, hcc⟩ := nums_at HB.out k hlt; have HE := Lib.hid he; have HOY := Lib.hid hoy; rw [hn] at x0; rw [hba] at x0; generalize m.best[k] = y at *
   have hk9 : k ≤ 100000 := by omega
   clear h0 hn hlt hF he hoy hin hba; subst hk
   have hwk : wrap64 (k : Int) = k := by unfold wrap64; omega
   go_enter Tryz.func202, Tryz.ntmps202
   go_wp2_with fail
   go_region
   have hlk := (HM.out.keepB ((Below.refl w.heap.size w).drew)).found y HOY.out e HE.out; have hft := fld_tot e.b.parent e.b.height e.b.miner e.b.work e.b.nonce e.tot e.xa e.b.txs.length e.xc
   by_cases hA : e.tot < work
   · have HF : Hid (betterB m id work = true) := by show _ = _; rw [HBE.out, decide_eq_true hA]; rfl
     go_wp2_with fail; go_ret
     exact ⟨by rw [HF.out]; rfl, (Below.refl _ _).drew⟩
   · by_cases hB : work = e.tot
     · subst hB
       have HF : Hid (betterB m id e.tot = decide (id < y)) := by show _ = _; rw [HBE.out]; simp
       go_wp2_with fail; go_ret
       exact ⟨by rw [HF.out]; rfl, (Below.refl _ _).drew⟩
     · have z1 : (work == e.tot) = false := by rw [beq_eq_false_iff_ne]; exact hB
       have z2 : decide (e.tot < work) = false := decide_eq_false hA
       have HF : Hid (betterB m id work = false) := by show _ = _; rw [HBE.out, z1, z2]; rfl
       go_wp2_with fail; go_ret
       exact ⟨by rw [HF.out]; rfl, (Below.refl _ _).drew⟩
end
end Go.Proofs.YtphacfkcifpobaaGreatDoor
/- The chain of the program: parent. -/
namespace Go.Proofs.YtphacfkcifpobaaGreatDoor
open Go.ChangeShapes Go.WideShapes Go.ChangeAt Go.RowKit Go.Sort
def parentE (L : List StB) (b : BlkM) : Int :=
 if b.height = 1 then (if b.parent = 0 then 0 else 18)
 else match findS L b.parent with
   | some e => if e.b.height = b.height - 1 then 0 else 18
   | none => 18
set_option maxHeartbeats 1000000 in
theorem parent_any (c : Nat) (SB PI : Nat → Prop) (w : World) (r : RuM) (m : ChM) (bs : List BlkM) (v : ChV) (h : ChAt c SB PI w r m bs v) (b : BlkM) (xa : Option Addr) (xc : Nat) (hp : okU b.parent) (hh : 1 ≤ b.height) (hh2 : b.height ≤ 1048576) :
   Calls Tryz.prog 198 #[.pointer (some ⟨c, 0, none⟩), .agg #[.int .u64 b.parent, .int .i64 b.height, .int .u64 b.miner, .int .u64 b.work, .int .u64 b.nonce, .slice xa b.txs.length xc]] w fun e w' => e = .returned (.int .i64 (parentE m.L b)) ∧ Below w.heap.size w w' := by
 have hbA := bnew (Below.refl w.heap.size w) (.cells #[.int .u64 b.parent, .int .i64 b.height, .int .u64 b.miner, .int .u64 b.work, .int .u64 b.nonce, .slice xa b.txs.length xc] 177); have HX := Lib.hid (box_new w (.cells #[.int .u64 b.parent, .int .i64 b.height, .int .u64 b.miner, .int .u64 b.work, .int .u64 b.nonce, .slice xa b.txs.length xc] 177)); have HC := Lib.hid (box_after hbA h.cell); have HM := Lib.hid (h.map.keepB hbA); have HB := Lib.hid hbA
 have HU : Hid (parentE m.L b = if b.height = 1 then (if b.parent = 0 then 0 else 18) else match findS m.L b.parent with | some e => if e.b.height = b.height - 1 then 0 else 18 | none => 18) := rfl
 clear hbA h
 go_enter Tryz.func198, Tryz.ntmps198
 go_upto_region 1 with (fail)
 generalize w.alloc (.cells #[.int .u64 b.parent, .int .i64 b.height, .int .u64 b.miner, .int .u64 b.work, .int .u64 b.nonce, .slice xa b.txs.length xc] 177) = W at *; obtain ⟨x0, x1⟩ := box_cells HX.out
 by_cases h1 : b.height = 1
 · have z1 : (b.height == 1) = true := by rw [beq_iff_eq]; exact h1
   by_cases h2 : b.parent = 0
   · have HF : Hid (parentE m.L b = 0) := by show _ = _; rw [HU.out, if_pos h1, if_pos h2]
     have z2 : (b.parent != 0) = false := by rw [bne_eq_false_iff_eq]; exact h2
     clear h1 h2; go_wp2_with fail; go_ret
     exact ⟨ret_int HF.out.symm, HB.out⟩
   · have HF : Hid (parentE m.L b = 18) := by show _ = _; rw [HU.out, if_pos h1, if_neg h2]
     have z2 : (b.parent != 0) = true := by rw [bne_iff_ne]; exact h2
     clear h1 h2; go_wp2_with fail; go_ret
     exact ⟨ret_int HF.out.symm, HB.out⟩
 · have z1 : (b.height == 1) = false := by rw [beq_eq_false_iff_ne]; exact h1
   have HU1 := Lib.hid (HU.out.trans (if_neg h1))
   have hw1 : wrap64 (b.height - 1) = b.height - 1 := by unfold wrap64; omega
   clear HU; obtain ⟨y0, y1⟩ := box_cells HC.out
   simp only [chCells] at y0
   have yy := fun o' => (box_cells (box_old (o' := o') HC.out)).1
   have xx := fun o' => (box_cells (box_old (o' := o') HX.out)).1
   simp only [chCells] at yy
   cases hf : findS m.L b.parent with
   | none =>
     have HF : Hid (parentE m.L b = 18) := by show _ = _; rw [HU1.out, hf]
     have hl1 := (HM.out.keepB ((Below.refl W.heap.size W).drew)).look_ok b.parent hp
     have hl2 := fun o => (HM.out.keepB ((bnew (Below.refl W.heap.size W) o).drew)).look_ok b.parent hp
     rw [hf] at hl1
     simp only [hf] at hl2
     have hl1' : (Instr.lookup 104 (.map (some v.mb)) (.int .u64 b.parent) true).run Tryz.prog W.drew = .ok (.tuple #[.agg #[.int .u64 0, .int .i64 0, .int .u64 0, .int .u64 0, .int .u64 0, .slice none 0 0, .int .u64 0], .bool false]) W.drew := hl1; have hl2' : ∀ o, (Instr.lookup 104 (.map (some v.mb)) (.int .u64 b.parent) true).run Tryz.prog (W.alloc o).drew = .ok (.tuple #[.agg #[.int .u64 0, .int .i64 0, .int .u64 0, .int .u64 0, .int .u64 0, .slice none 0 0, .int .u64 0], .bool false]) (W.alloc o).drew := hl2; clear hl1 hl2 hf HU1
     go_upto_region 5 with (fail)
     go_cut [5, 6] from 7 (fun v5 v6 wc => ∃ q, v5 = .pointer (some ⟨q, 0, none⟩) ∧ v6 = .bool false ∧ Hid (Below W.heap.size W wc))
     case first =>
       go_region
       all_goals
         go_wp2_with fail
         go_meet
         case rel => exact ⟨_, rfl, rfl, (bnew (Below.refl _ _) _).drew⟩
     case rest =>
       obtain ⟨q, rfl, rfl, HBc⟩ := hcut; go_wp2_with fail; go_ret
       exact ⟨ret_int HF.out.symm, bnext HB.out HBc.out⟩
   | some e =>
     have hl1 := (HM.out.keepB ((Below.refl W.heap.size W).drew)).look_ok b.parent hp
     have hl2 := fun o => (HM.out.keepB ((bnew (Below.refl W.heap.size W) o).drew)).look_ok b.parent hp
     rw [hf] at hl1
     simp only [hf] at hl2
     have hl1' : (Instr.lookup 104 (.map (some v.mb)) (.int .u64 b.parent) true).run Tryz.prog W.drew = .ok (.tuple #[.agg #[.int .u64 e.b.parent, .int .i64 e.b.height, .int .u64 e.b.miner, .int .u64 e.b.work, .int .u64 e.b.nonce, .slice e.xa e.b.txs.length e.xc, .int .u64 e.tot], .bool true]) W.drew := hl1; have hl2' : ∀ o, (Instr.lookup 104 (.map (some v.mb)) (.int .u64 b.parent) true).run Tryz.prog (W.alloc o).drew = .ok (.tuple #[.agg #[.int .u64 e.b.parent, .int .i64 e.b.height, .int .u64 e.b.miner, .int .u64 e.b.work, .int .u64 e.b.nonce, .slice e.xa e.b.txs.length e.xc, .int .u64 e.tot], .bool true]) (W.alloc o).drew := hl2
     have HU2 : Hid (parentE m.L b = if e.b.height = b.height - 1 then 0 else 18) := by show _ = _; rw [HU1.out, hf]
     clear hl1 hl2 hf HU1
     go_upto_region 5 with (fail)
     go_cut [5, 6] from 7 (fun v5 v6 wc => ∃ q, v5 = .pointer (some ⟨q, 0, none⟩) ∧ v6 = .bool true ∧ Hid (wc.heap[q]? = some (.cells #[.int .u64 e.b.parent, .int .i64 e.b.height, .int .u64 e.b.miner, .int .u64 e.b.work, .int .u64 e.b.nonce, .slice e.xa e.b.txs.length e.xc, .int .u64 e.tot] 310 (0, 0))) ∧ Hid (Below W.heap.size W wc))
     case first =>
       go_region
       all_goals
         have HQ : Hid ((W.alloc (.cells #[.int .u64 e.b.parent, .int .i64 e.b.height, .int .u64 e.b.miner, .int .u64 e.b.work, .int .u64 e.b.nonce, .slice e.xa e.b.txs.length e.xc, .int .u64 e.tot] 310)).drew.heap[W.heap.size]? = some (.cells #[.int .u64 e.b.parent, .int .i64 e.b.height, .int .u64 e.b.miner, .int .u64 e.b.work, .int .u64 e.b.nonce, .slice e.xa e.b.txs.length e.xc, .int .u64 e.tot] 310 (0, 0))) := box_new W _; go_wp2_with fail
         go_meet
         case rel => exact ⟨_, rfl, rfl, HQ, (bnew (Below.refl _ _) _).drew⟩
     case rest =>
       obtain ⟨q, rfl, rfl, HQ, HBc⟩ := hcut; clear x0 x1 y0 y1 xx yy hl1' hl2'; obtain ⟨x0, x1⟩ := box_cells (box_after HBc.out HX.out); obtain ⟨q0, q1⟩ := box_cells HQ.out
       by_cases h3 : e.b.height = b.height - 1
       · have HF := Lib.hid (HU2.out.trans (if_pos h3))
         have z3 : (e.b.height != b.height - 1) = false := by rw [bne_eq_false_iff_eq]; exact h3
         clear h3; go_wp2_with fail; go_ret
         exact ⟨ret_int HF.out.symm, bnext HB.out HBc.out⟩
       · have HF := Lib.hid (HU2.out.trans (if_neg h3))
         have z3 : (e.b.height != b.height - 1) = true := by rw [bne_iff_ne]; exact h3
         clear h3; go_wp2_with fail; go_ret
         exact ⟨ret_int HF.out.symm, bnext HB.out HBc.out⟩
end Go.Proofs.YtphacfkcifpobaaGreatDoor
/- The chain of the program: branch. -/
namespace Go.Proofs.YtphacfkcifpobaaGreatDoor
open Go.ChangeShapes Go.WideShapes Go.ChangeAt Go.RowKit Go.Sort
def IsWay (L : List StB) (l : List Int) : Prop := ∀ (k : Nat) (h : k < l.length), ∃ e, findS L l[k] = some e ∧ e.b.height = k + 1 ∧ (0 < k → e.b.parent = l.getD (k - 1) 0)
def BrOut (l : List Int) (w : World) (e : Ending) (w' : World) : Prop := ∃ u, e = .returned u ∧ Own u64R w.heap.size 24 (fun k => False ∨ w.heap.size ≤ k) w' u l ∧ Below w.heap.size w w'
abbrev heightAt (w : World) (q : Nat) : Nat := match w.cell? ⟨q, 1, none⟩ with
 | some (.int _ h) => h.toNat
 | _ => 0
set_option maxHeartbeats 2000000 in
theorem branch_any (c : Nat) (SB PI : Nat → Prop) (w : World) (r : RuM) (m : ChM) (bs : List BlkM) (v : ChV) (h : ChAt c SB PI w r m bs v) (b : BlkM) (xa : Option Addr) (xc : Nat) (hpo : okU b.parent) (n : Nat) (hn : b.height = n + 1) (hn2 : n ≤ 100000) (l : List Int) (hw : IsWay m.L l) (hl : l.length = n) (hlast : 0 < n → b.parent = l.getD (n - 1) 0) :
   Calls Tryz.prog 199 #[.pointer (some ⟨c, 0, none⟩), .agg #[.int .u64 b.parent, .int .i64 b.height, .int .u64 b.miner, .int .u64 b.work, .int .u64 b.nonce, .slice xa b.txs.length xc]] w (BrOut l w) := by
 have hbA := bnew (Below.refl w.heap.size w) (.cells #[.int .u64 b.parent, .int .i64 b.height, .int .u64 b.miner, .int .u64 b.work, .int .u64 b.nonce, .slice xa b.txs.length xc] 177); have HX := Lib.hid (box_new w (.cells #[.int .u64 b.parent, .int .i64 b.height, .int .u64 b.miner, .int .u64 b.work, .int .u64 b.nonce, .slice xa b.txs.length xc] 177)); have HC := Lib.hid (h.keepB hbA); have HB := Lib.hid hbA; have HSZ : Hid ((w.alloc (.cells #[.int .u64 b.parent, .int .i64 b.height, .int .u64 b.miner, .int .u64 b.work, .int .u64 b.nonce, .slice xa b.txs.length xc] 177)).heap.size = w.heap.size + 1) := World.size_alloc ..; have HW := Lib.hid hw; have HLA := Lib.hid hlast; have HPO := Lib.hid hpo; have hcm := h.mut_lt; have HCM := Lib.hid hcm; have hlt := h.lt; have HLT := Lib.hid hlt
 have hw1 : wrap64 (b.height - 1) = (n : Int) := by unfold wrap64; omega
 have hw2 : IntKind.i64.wrap (b.height - 1) = (n : Int) := by rw [IntKind.wrap_i64]; omega
 have HHN := Lib.hid hn; have HL := Lib.hid hl; have HMB := Lib.hid h.ne_mb; clear hbA h hw hlast hpo hcm hlt hn hl
 go_enter Tryz.func199, Tryz.ntmps199
 go_upto_region 1 with (fail)
 generalize w.alloc (.cells #[.int .u64 b.parent, .int .i64 b.height, .int .u64 b.miner, .int .u64 b.work, .int .u64 b.nonce, .slice xa b.txs.length xc] 177) = W at *; obtain ⟨x0, x1⟩ := box_cells HX.out
 go_wp2_with (at_make; refine wpList_make_cells rfl _ _ rfl Tryz.etyNums (z := .int .u64 0) (by kernel_rfl) (n := n) rfl rfl (by first | rfl | exact hw1 | exact hw2) (by first | rfl | exact hw1 | exact hw2) ?_ ?_ ?_)
 · omega
 · unfold maxLen; omega
 rw [madeRow]
 have HO : Hid (Own u64R w.heap.size 24 (fun x => False ∨ W.heap.size ≤ x) (W.alloc (.cells (rowS [] n).toArray 24)) (.slice (some ⟨W.heap.size, 0, none⟩) n n) (List.replicate n 0)) := by
   have := own_ints (k := .u64) (base := W.heap.size) (e := 24) (xs := List.replicate n (0 : Int)) (cap := n) (cur := rowS [] n) (box_new W (.cells (rowS [] n).toArray 24)) (by simp [rowS]) (by simp [rowS]) (fun x hx => by rw [List.eq_of_mem_replicate hx]; exact okU_of (by omega) (by omega)) (by simp) (by unfold maxLen; omega) (Nat.le_refl _)
   rw [List.length_replicate] at this; obtain ⟨S, css, h1, h2, h3, h4, h5⟩ := this
   refine ⟨S, css, h1, h2, h3, h4, h5.1, ?_⟩
   rcases h5.2 with h6 | ⟨g, cap, cur, h6, h7, h8⟩
   · exact .inl h6
   · exact .inr ⟨g, cap, cur, h6, by have := HSZ.out; omega, h8⟩
 have HXA := Lib.hid (box_old (o' := .cells (rowS [] n).toArray 24) HX.out); have HBA := Lib.hid (bnew (Below.refl W.heap.size W) (.cells (rowS [] n).toArray 24)); have HSA : Hid ((W.alloc (.cells (rowS [] n).toArray 24)).heap.size = W.heap.size + 1) := World.size_alloc ..; generalize W.alloc (.cells (rowS [] n).toArray 24) = W2 at *; clear x0 x1 hw1 hw2; go_wp2_with fail
 go_loopw [10] (fun _ wr => ∃ (j : Nat) (bx : BlkM) (ya : Option Addr) (yc : Nat) (x : List Int), Hid (bx.height = j + 1) ∧ j ≤ n ∧ Hid (0 < j → bx.parent = l.getD (j - 1) 0) ∧ Hid (okU bx.parent) ∧ Hid (wr.heap[w.heap.size]? = some (.cells #[.int .u64 bx.parent, .int .i64 bx.height, .int .u64 bx.miner, .int .u64 bx.work, .int .u64 bx.nonce, .slice ya bx.txs.length yc] 177 (0, 0))) ∧ Hid (Own u64R w.heap.size 24 (fun x => False ∨ W.heap.size ≤ x) wr (.slice (some ⟨W.heap.size, 0, none⟩) n n) x) ∧ Hid (x.length = n) ∧ Hid (∀ i, j ≤ i → x.getD i 0 = l.getD i 0) ∧ Hid (Kept (fun k => k < w.heap.size) W wr)) (fun _ wr => heightAt wr w.heap.size)
 case atStart => exact ⟨n, b, xa, xc, List.replicate n 0, HHN, Nat.le_refl _, HLA, HPO, HXA, HO, by show _ = _; simp, fun i hi => by rw [List.getD_eq_getElem?_getD, List.getD_eq_getElem?_getD, List.getElem?_eq_none (by simp; omega), List.getElem?_eq_none (by rw [HL.out]; omega)], Kept.of_below HBA.out |>.mono fun k _ h => by have h' : k < w.heap.size := h; have := HSZ.out; omega⟩
 case round =>
   obtain ⟨j, bx, ya, yc, x, HH, hjn, HPA, HOP, HBX, HOW, HXL, HXE, HK⟩ := hrel
   have hms : heightAt wr w.heap.size = j + 1 := by
     show (match wr.cell? ⟨w.heap.size, 1, none⟩ with | some (.int _ h) => h.toNat | _ => 0) = _
     rw [(box_cells HBX.out).1]
     show bx.height.toNat = _
     rw [HH.out]; omega
   have HMS := Lib.hid hms; clear hms
   cases j with
   | zero =>
     have h1 : bx.height = 1 := by rw [HH.out]; rfl
     have hg : decide (1 < bx.height) = false := decide_eq_false (by omega)
     have hxl : x = l := by
       apply List.ext_getElem?
       intro i
       have h2 := HXE.out i (Nat.zero_le _); rw [List.getD_eq_getElem?_getD, List.getD_eq_getElem?_getD] at h2
       have h3 := HXL.out; have h4 := HL.out
       rcases Nat.lt_or_ge i n with h5 | h5
       · rw [List.getElem?_eq_getElem (by omega), List.getElem?_eq_getElem (by omega)] at h2 ⊢
         simpa using h2
       · rw [List.getElem?_eq_none (by omega), List.getElem?_eq_none (by omega)]
     subst hxl; obtain ⟨x0, x1⟩ := box_cells HBX.out; clear h1; go_wp2_with fail; go_ret
     refine ⟨_, rfl, HOW.out.mono fun k _ h => ?_, ?_⟩
     · rcases h with h | h
       · exact .inl h
       · exact .inr (by have := HSZ.out; omega)
     · have h0 : Kept (fun k => k < w.heap.size) w W := Kept.of_below HB.out
       exact (h0.trans HK.out fun _ _ h => h).below (Nat.le_refl _)
   | succ j =>
     have hh : bx.height = (j : Int) + 2 := by rw [HH.out]; push_cast; omega
     have hjl : j < l.length := by rw [HL.out]; omega
     have hbp : bx.parent = l[j] := by
       rw [HPA.out (by omega), Nat.add_sub_cancel, List.getD_eq_getElem?_getD, List.getElem?_eq_getElem hjl]; rfl
     obtain ⟨e, he, heh, hep⟩ := HW.out j hjl; rw [← hbp] at he; have HFE := Lib.hid he; have HEH := Lib.hid heh; have HEP := Lib.hid hep
     have hxj : j < x.length := by rw [HXL.out]; omega
     obtain ⟨g, cap, hv, hc1, -, hgl, hgB, hcell, hfr, hst⟩ := HOW.out.setInt j hxj
     simp only [Value.slice.injEq, Option.some.injEq, Addr.mk.injEq, and_true] at hv
     obtain ⟨rfl, -, rfl⟩ := hv; obtain ⟨ho5, hk5⟩ := hst bx.parent HOP.out; have HO5 := Lib.hid ho5
     have HK5 : Hid (Kept (fun k => k < w.heap.size) W (wr.setCell ⟨W.heap.size, j, none⟩ (.int .u64 bx.parent))) := HK.out.trans hk5 fun k _ h => by have h' : k < w.heap.size := h; have := HSZ.out; show k ≠ _; omega
     have HB5 := Lib.hid (box_kept hk5 HBX.out (show w.heap.size ≠ W.heap.size by have := HSZ.out; omega))
     obtain ⟨x0, x1⟩ := box_cells HBX.out
     have hg : decide (1 < bx.height) = true := decide_eq_true (by omega)
     have hwi : wrap64 (bx.height - 2) = (j : Int) := by unfold wrap64; omega
     have hwj : IntKind.i64.wrap (j : Int) = j := by rw [IntKind.wrap_i64]; omega
     have i0 : (0 : Int) ≤ (j : Int) := by omega
     have i1 : (j : Int) < (n : Int) := by omega
     have HXL5 : Hid ((x.set j bx.parent).length = n) := by show _ = _; rw [List.length_set, HXL.out]
     have HXE5 : Hid (∀ i, j ≤ i → (x.set j bx.parent).getD i 0 = l.getD i 0) := fun i hi => by
       rcases Nat.lt_or_ge j i with h5 | h5
       · rw [← HXE.out i h5, List.getD_eq_getElem?_getD, List.getD_eq_getElem?_getD, List.getElem?_set_ne (by omega)]
       · obtain rfl : i = j := by omega
         rw [List.getD_eq_getElem?_getD, List.getElem?_set_self hxj, List.getD_eq_getElem?_getD, List.getElem?_eq_getElem hjl, hbp]
     clear hh he heh hep hbp hst ho5 hk5 hc1 hgl hgB
     go_upto_region 4 with (fail)
     generalize wr.setCell ⟨W.heap.size, j, none⟩ (.int .u64 bx.parent) = w5 at *; clear x0 x1 hg hwi hwj i0 i1 hcell hfr; have HC5 := Lib.hid (box_kept HK5.out HC.out.cell (HCM.out c (.inl rfl))); have HM5 := Lib.hid (HC.out.map.keep HK5.out (HCM.out v.mb (.inr (.inl rfl)))); have hbd : Below w5.heap.size w5 w5.drew := (Below.refl _ _).drew; have hlk := (HM5.out.keepB hbd).found bx.parent HOP.out e HFE.out; have hfb := fld_blk e.b.parent e.b.height e.b.miner e.b.work e.b.nonce e.tot e.xa e.b.txs.length e.xc; obtain ⟨x0, x1⟩ := box_cells HB5.out; obtain ⟨y0, y1⟩ := box_cells HC5.out
     simp only [chCells] at y0
     have hkc := kept_cells w5 (q := w.heap.size) (S := fun k => k ≠ w.heap.size) (fun h => h rfl) [.int .u64 e.b.parent, .int .i64 e.b.height, .int .u64 e.b.miner, .int .u64 e.b.work, .int .u64 e.b.nonce, .slice e.xa e.b.txs.length e.xc] 0
     have hbf : Below (w5.setCells w.heap.size 0 [.int .u64 e.b.parent, .int .i64 e.b.height, .int .u64 e.b.miner, .int .u64 e.b.work, .int .u64 e.b.nonce, .slice e.xa e.b.txs.length e.xc]).heap.size (w5.setCells w.heap.size 0 [.int .u64 e.b.parent, .int .i64 e.b.height, .int .u64 e.b.miner, .int .u64 e.b.work, .int .u64 e.b.nonce, .slice e.xa e.b.txs.length e.xc]) (w5.setCells w.heap.size 0 [.int .u64 e.b.parent, .int .i64 e.b.height, .int .u64 e.b.miner, .int .u64 e.b.work, .int .u64 e.b.nonce, .slice e.xa e.b.txs.length e.xc]).drew := (Below.refl _ _).drew; have HBE := Lib.hid (box_after hbf (cells_box (old := [.int .u64 bx.parent, .int .i64 bx.height, .int .u64 bx.miner, .int .u64 bx.work, .int .u64 bx.nonce, .slice ya bx.txs.length yc]) HB5.out [.int .u64 e.b.parent, .int .i64 e.b.height, .int .u64 e.b.miner, .int .u64 e.b.work, .int .u64 e.b.nonce, .slice e.xa e.b.txs.length e.xc] rfl))
     have HKE : Hid (Kept (fun k => k < w.heap.size) W (w5.setCells w.heap.size 0 [.int .u64 e.b.parent, .int .i64 e.b.height, .int .u64 e.b.miner, .int .u64 e.b.work, .int .u64 e.b.nonce, .slice e.xa e.b.txs.length e.xc]).drew) := (HK5.out.trans hkc fun k _ h => by have h' : k < w.heap.size := h; show k ≠ _; omega).trans (Kept.of_below hbf) fun _ _ h => h
     have HOE := Lib.hid (Own.keepB (HO5.out.keep (hkc.mono fun k _ h => by rcases h with h | h; exact h.elim; have := HSZ.out; show k ≠ _; omega)) hbf)
     have hop2 : okU e.b.parent := (HC.out.blocks e (List.mem_of_find?_eq_some HFE.out)).1.parent; have HOP2 := Lib.hid hop2; obtain ⟨wf, hwf⟩ : ∃ wf, wf = (w5.setCells w.heap.size 0 [.int .u64 e.b.parent, .int .i64 e.b.height, .int .u64 e.b.miner, .int .u64 e.b.work, .int .u64 e.b.nonce, .slice e.xa e.b.txs.length e.xc]).drew := ⟨_, rfl⟩; rw [← hwf] at HBE HKE HOE
     simp only [World.setCells, Nat.reduceAdd, Nat.zero_add] at hwf
     have HWF := Lib.hid hwf; clear hkc hbd hbf hwf hop2
     go_region
     go_wp2_with fail; rw [← HWF.out]
     go_roundw
     case rel => exact ⟨j, e.b, e.xa, e.xc, x.set j bx.parent, HEH, by omega, HEP, HOP2, HBE, HOE, HXL5, HXE5, HKE⟩
     case measure =>
       have h1 : heightAt wf w.heap.size = j + 1 := by
         show (match wf.cell? ⟨w.heap.size, 1, none⟩ with | some (.int _ h) => h.toNat | _ => 0) = _
         rw [(box_cells HBE.out).1]
         show e.b.height.toNat = _
         rw [HEH.out]; omega
       rw [h1, HMS.out]; omega
end Go.Proofs.YtphacfkcifpobaaGreatDoor
/- The chain of the program: finish. -/
namespace Go.Proofs.YtphacfkcifpobaaGreatDoor
open Go.ChangeShapes Go.WideShapes Go.ChangeAt Go.RowKit Go.Sort
def finM (r : RuM) (m : ChM) : ChM :=
 if 1 ≤ (m.best.length : Int) - r.fin ∧ (m.hgt : Int) < (m.best.length : Int) - r.fin then ⟨m.L, m.best, m.best.getD (((m.best.length : Int) - r.fin).toNat - 1) 0, ((m.best.length : Int) - r.fin).toNat⟩ else m
theorem ChAt.setFinal {c : Nat} {SB PI : Nat → Prop} {w : World} {r : RuM} {m : ChM} {bs : List BlkM} {v : ChV} (h : ChAt c SB PI w r m bs v) (f : Int) (n : Nat) :
   ChAt c SB PI ((w.setCell ⟨c, 13, none⟩ (.int .u64 f)).setCell ⟨c, 14, none⟩ (.int .i64 n)) r ⟨m.L, m.best, f, n⟩ bs v ∧ Kept (fun k => k ≠ c) w ((w.setCell ⟨c, 13, none⟩ (.int .u64 f)).setCell ⟨c, 14, none⟩ (.int .i64 n)) := by
 have hk : Kept (fun k => k ≠ c) w ((w.setCell ⟨c, 13, none⟩ (.int .u64 f)).setCell ⟨c, 14, none⟩ (.int .i64 n)) := (kept_one w c 13 _).trans (kept_one _ c 14 _) fun _ _ h => h
 obtain ⟨h1, h2, h3, h4, h5⟩ := h.keepC hk
 exact ⟨⟨box_set (box_set h.cell), h1, h2, h3, h4, h5, h.free, h.ap1, h.ap2, h.pi, fun k hi => Nat.lt_of_lt_of_le (h.lt k hi) hk.size⟩, hk⟩
set_option maxHeartbeats 1000000 in
theorem finish_any (c : Nat) (SB PI : Nat → Prop) (w : World) (r : RuM) (m : ChM) (bs : List BlkM) (v : ChV) (h : ChAt c SB PI w r m bs v) (hf1 : 1 ≤ r.fin) (hf2 : r.fin ≤ 1048576) (hl : m.best.length ≤ 100000) :
   Calls Tryz.prog 204 #[.pointer (some ⟨c, 0, none⟩)] w fun e w' => e = .returned (.tuple #[]) ∧ ChAt c SB PI w' r (finM r m) bs v ∧ Kept (fun k => k ≠ c) w w' := by
 have H := Lib.hid h; have y0 := box_regrown h.cell
 simp only [chCells] at y0
 have HU : Hid (finM r m = if 1 ≤ (m.best.length : Int) - r.fin ∧ (m.hgt : Int) < (m.best.length : Int) - r.fin then ⟨m.L, m.best, m.best.getD (((m.best.length : Int) - r.fin).toNat - 1) 0, ((m.best.length : Int) - r.fin).toNat⟩ else m) := rfl
 have e1 : wrap64 ((m.best.length : Int) - r.fin) = (m.best.length : Int) - r.fin := by unfold wrap64; omega
 clear h
 go_enter Tryz.func204, Tryz.ntmps204
 go_wp2_with fail
 refine wp_region_quiet_below (by kernel_rfl) (by kernel_rfl) ?_
 repeat (first | go_big_quiet_step (fail) | quiet_step (fail))
 refine wpQuiet_nil ?_
 intro w1 hw'
 obtain ⟨⟨dq, osq⟩, hw''⟩ := hw'; have hbw1 := below_regrown w dq osq; rw [← hw''] at hbw1; clear hw'' y0; have H1 := Lib.hid (H.out.keepB hbw1)
 have HK1 : Hid (Kept (fun k => k ≠ c) w w1) := Kept.of_below hbw1
 clear hbw1 e1; obtain ⟨hh, hhe⟩ : ∃ x, (m.best.length : Int) - r.fin = x := ⟨_, rfl⟩; rw [hhe] at HU ⊢; have HHE := Lib.hid hhe; clear hhe; obtain ⟨y0, y1⟩ := box_cells H1.out.cell
 simp only [chCells] at y0
 by_cases c1 : 1 ≤ hh
 · by_cases c2 : (m.hgt : Int) < hh
   · have HF := Lib.hid (HU.out.trans (if_pos ⟨c1, c2⟩))
     obtain ⟨k, hk⟩ : ∃ k : Nat, hh = (k : Int) + 1 := ⟨(hh - 1).toNat, by omega⟩
     have hlt : k < m.best.length := by have := HHE.out; omega
     obtain ⟨bb, off, hba, hbl, hc0, hc2, hcc⟩ := nums_at H1.out.best k hlt
     have hgd : m.best.getD (hh.toNat - 1) 0 = m.best[k] := by
       have : hh.toNat - 1 = k := by omega
       rw [this, List.getD_eq_getElem?_getD, List.getElem?_eq_getElem hlt]; rfl
     have htn : hh.toNat = k + 1 := by omega
     rw [hgd, htn] at HF; obtain ⟨hat, hkc⟩ := H1.out.setFinal m.best[k] (k + 1); have HAT := Lib.hid hat
     have HKC := Lib.hid (HK1.out.trans hkc fun _ _ h => h)
     clear hat hkc hgd htn; generalize m.best[k] = y at *; rw [hba] at y0; subst hk
     have hw1 : wrap64 ((k : Int) + 1 - 1) = (k : Int) := by unfold wrap64; omega
     have hw2 : wrap64 (k : Int) = (k : Int) := by unfold wrap64; omega
     have hkl : (k : Int) < (m.best.length : Int) := by omega
     clear hba hlt hc0 hc2; go_wp2_with fail
     go_end0
     rw [HF.out]
     exact ⟨rfl, HAT.out, HKC.out⟩
   · have HF := Lib.hid (HU.out.trans (if_neg fun h => c2 h.2))
     go_wp2_with fail
     go_end0
     rw [HF.out]
     exact ⟨rfl, H1.out, HK1.out⟩
 · have HF := Lib.hid (HU.out.trans (if_neg fun h => c1 h.1))
   go_wp2_with fail
   go_end0
   rw [HF.out]
   exact ⟨rfl, H1.out, HK1.out⟩
end Go.Proofs.YtphacfkcifpobaaGreatDoor
