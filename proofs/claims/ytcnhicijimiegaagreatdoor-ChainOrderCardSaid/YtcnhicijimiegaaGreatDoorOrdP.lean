/- Submitting blocks again and again, in plain Lean: what is stored in the end, and what is best, does not depend on their order. -/
import Derived.Test.YtcnhicijimiegaaGreatDoorChU
set_option maxRecDepth 100000
namespace Go.Proofs.YtcnhicijimiegaaGreatDoor
open Go.ChangeShapes Go.WideShapes Go.ChangeAt Go.RowKit Go.Sort
inductive Steps (r : RuM) : ChM → List BlkM → ChM → Prop
 | nil (m : ChM) : Steps r m [] m
 | no {m m' : ChM} {b : BlkM} {bs : List BlkM} (h : subE r m b ≠ 0) (t : Steps r m bs m') : Steps r m (b :: bs) m'
 | yes {m m' : ChM} {b : BlkM} {bs : List BlkM} (h : subE r m b = 0) (ya : Option Addr) (yc : Nat) (t : Steps r (subM r m b ya yc) bs m') : Steps r m (b :: bs) m'
theorem Steps.app {r : RuM} {m m1 m2 : ChM} {xs bs : List BlkM} (h : Steps r m xs m1) (h2 : Steps r m1 bs m2) : Steps r m (xs ++ bs) m2 := by
 induction h with
 | nil m => exact h2
 | no h t ih => exact .no h (ih h2)
 | yes h ya yc t ih => exact .yes h ya yc (ih h2)
theorem Steps.split {r : RuM} {m m2 : ChM} : ∀ {xs bs : List BlkM}, Steps r m (xs ++ bs) m2 → ∃ m1, Steps r m xs m1 ∧ Steps r m1 bs m2 := by
 intro xs
 induction xs generalizing m with
 | nil => intro bs h; exact ⟨m, .nil m, h⟩
 | cons a xs ih =>
   intro bs h
   cases h with
   | no h t => obtain ⟨m1, h1, h2⟩ := ih t; exact ⟨m1, .no h h1, h2⟩
   | yes h ya yc t => obtain ⟨m1, h1, h2⟩ := ih t; exact ⟨m1, .yes h ya yc h1, h2⟩
def leftN (m : ChM) (l : List BlkM) : Nat := (l.filter fun b => (findS m.L (blkID b)).isNone).length
structure OrdI (r : RuM) (l : List BlkM) (m : ChM) : Prop where
 ok : ChOK r m
 mem : ∀ e ∈ m.L, e.b ∈ l ∧ blkCheck r.work e.b = 0 ∧ txErr r e.b.txs = 0 ∧ e.tot = r.work * e.b.height ∧ (e.b.height = 1 → e.b.parent = 0)
 cnt : m.L.length + leftN m l ≤ l.length
 hgt : m.hgt = 0
 none : m.best = [] → m.L = []
 top : m.best ≠ [] → ∃ t, findS m.L (tipS m) = some t ∧ t.b.height = m.best.length ∧ ∀ e ∈ m.L, e.tot < t.tot ∨ (e.tot = t.tot ∧ t.id ≤ e.id)
theorem filter_le {α : Type} {p q : α → Bool} : ∀ {l : List α}, (∀ x ∈ l, q x = true → p x = true) → (l.filter q).length ≤ (l.filter p).length
 | [], _ => Nat.le_refl _
 | a :: l, h => by
   have ih := filter_le (l := l) fun x hx => h x (List.mem_cons_of_mem _ hx)
   have ha := h a (List.mem_cons_self ..)
   simp only [List.filter_cons]
   cases hq : q a with
   | true =>
     rw [ha hq]
     simp; exact ih
   | false =>
     cases hp : p a with
     | true => simp; omega
     | false => simpa using ih
theorem filter_lt {α : Type} {p q : α → Bool} : ∀ {l : List α}, (∀ x ∈ l, q x = true → p x = true) → ∀ {y}, y ∈ l → p y = true → q y = false → (l.filter q).length + 1 ≤ (l.filter p).length
 | [], _, y, hy, _, _ => by simp at hy
 | a :: l, h, y, hy, hp, hq => by
   have hl := fun x hx => h x (List.mem_cons_of_mem a hx)
   simp only [List.filter_cons]
   rcases List.mem_cons.1 hy with rfl | hy'
   · rw [hp, hq]
     have := filter_le hl
     simp; omega
   · have ih := filter_lt hl hy' hp hq
     have ha := h a (List.mem_cons_self ..)
     cases hqa : q a with
     | true => rw [ha hqa]; simp; omega
     | false =>
       cases hpa : p a with
       | true => simp; omega
       | false => simpa using ih
theorem ordI_new (r : RuM) (l : List BlkM) : OrdI r l ⟨[], [], 0, 0⟩ :=
 ⟨⟨fun e he => by simp at he, fun e he => by simp at he, fun e he => by simp at he, fun e he => by simp at he, fun e he => by simp at he, IsWay.nil _, RunOK.nil r, Nat.le_refl _, fun h => by simp at h⟩,
  fun e he => by simp at he, by show 0 + leftN _ l ≤ l.length; rw [Nat.zero_add]; exact List.length_filter_le _ _, rfl, fun _ => rfl, fun h => absurd rfl h⟩
theorem leftN_sub {r : RuM} {l : List BlkM} {m : ChM} {b : BlkM} (hb : b ∈ l) (h : SubOK r m b) (ya : Option Addr) (yc : Nat) : leftN (subM r m b ya yc) l + 1 ≤ leftN m l := by
 unfold leftN
 refine filter_lt (fun x _ hx => ?_) hb (by rw [h.new]; rfl) ?_
 · cases hf : findS m.L (blkID x) with
   | none => rfl
   | some e =>
     have := findS_app hf [(⟨blkID b, b, totS m b, ya, yc⟩ : StB)]; rw [subM_L] at hx; unfold addM at hx; rw [this] at hx
     simp at hx
 · rw [subM_L]
   unfold addM; have : findS (m.L ++ [(⟨blkID b, b, totS m b, ya, yc⟩ : StB)]) (blkID b) = some ⟨blkID b, b, totS m b, ya, yc⟩ := findS_new (e := ⟨blkID b, b, totS m b, ya, yc⟩) h.new
   rw [this]; rfl
theorem OrdI.step {r : RuM} {l : List BlkM} {m : ChM} (hr : RuOK r) (hl : l.length ≤ 8) (hf : (l.length : Int) ≤ r.fin) (hp : ∀ b ∈ l, posB b) (I : OrdI r l m) {b : BlkM} (hb : b ∈ l) (h : subE r m b = 0) (ya : Option Addr) (yc : Nat) : OrdI r l (subM r m b ya yc) := by
 have hs := sub_zero h; obtain ⟨hv, hwk⟩ := blkCheck_zero hs.chk; have hh := (blkE_head hv).1
 have hok := sub_ok I.ok (by have := hr.f0; omega) hs (hp b hb) ya yc
 have hcnt := leftN_sub hb hs ya yc
 have hlen : (subM r m b ya yc).L.length = m.L.length + 1 := by rw [subM_L, addM_len]
 have hc := I.cnt; obtain ⟨hway, hbl, -, -⟩ := bran_ok I.ok hh hs.par; have hblen := hway.len I.ok.high; have hk0 := hr.k0; have hk1 := hr.k1
 have htot : totS m b = r.work * b.height := by
   unfold totS
   by_cases h0 : 0 < (branF m.L b).length
   · rw [if_pos h0]
     obtain ⟨e, he, heh⟩ := par_some hs.par (by omega)
     have h1 := (I.mem e (findS_some he).1).2.2.2.1; rw [he]
     show wrapU (b.work + e.tot) = _
     rw [h1, hwk, heh]
     have h2 : r.work + r.work * (b.height - 1) = r.work * b.height := by rw [Int.mul_sub, Int.mul_one]; omega
     rw [h2]
     have h3 : r.work * b.height ≤ 65536 * 9 := Int.mul_le_mul hk1 (by omega) (by omega) (by omega)
     have h4 : 0 ≤ r.work * b.height := Int.mul_nonneg (by omega) (by omega)
     show IntKind.u64.wrap (r.work * b.height) = _
     rw [IntKind.wrap_u64]
     omega
   · rw [if_neg h0]
     have : b.height = 1 := by omega
     rw [this, Int.mul_one, hwk]
 have hnf : ∀ (x : List Int) (f : Int) (L : List StB), x.length ≤ l.length → finM r ⟨L, x, f, m.hgt⟩ = ⟨L, x, f, m.hgt⟩ := fun x f L hx => by
   unfold finM; rw [if_neg]
   intro hc
   have := hc.1
   dsimp only at this
   omega
 have hbb : (branF m.L b ++ [blkID b]).length ≤ l.length := by rw [List.length_append, List.length_singleton]; omega
 have hsplit : subM r m b ya yc = if betS m b = true then ⟨(addM m b ya yc).L, branF m.L b ++ [blkID b], m.final, m.hgt⟩ else addM m b ya yc := by
   unfold subM
   by_cases hb : betS m b = true
   · rw [if_pos hb, if_pos hb]; exact hnf _ _ _ hbb
   · rw [if_neg hb, if_neg hb]
 have hmem : ∀ e ∈ (subM r m b ya yc).L, e ∈ m.L ∨ e = ⟨blkID b, b, totS m b, ya, yc⟩ := fun e he => by
   rw [subM_L] at he
   rcases List.mem_append.1 he with h1 | h1
   · exact .inl h1
   · exact .inr (List.mem_singleton.1 h1)
 have hnew : findS (subM r m b ya yc).L (blkID b) = some ⟨blkID b, b, totS m b, ya, yc⟩ := by
   rw [subM_L]; exact findS_new (e := ⟨blkID b, b, totS m b, ya, yc⟩) hs.new
 have hhgt : (subM r m b ya yc).hgt = 0 := by rw [hsplit]; split <;> exact I.hgt
 refine ⟨hok, fun e he => ?_, by omega, hhgt, fun hn => ?_, fun hn => ?_⟩
 · rcases hmem e he with h1 | rfl
   · exact I.mem e h1
   · refine ⟨hb, hs.chk, hs.txs, htot, fun h1 => ?_⟩
     have h2 := hs.par; have h1' : b.height = 1 := h1; unfold parentE at h2; rw [if_pos h1'] at h2
     split at h2
     · assumption
     · simp at h2
 · exfalso
   rw [hsplit] at hn
   split at hn
   · simp at hn
   · rename_i hb'
     have hn' : m.best = [] := hn
     refine hb' ?_
     unfold betS betterB
     rw [hn']; rfl
 · cases hbet : betS m b with
   | true =>
     have hbest : (subM r m b ya yc).best = branF m.L b ++ [blkID b] := subM_best hbet
     have htip : tipS (subM r m b ya yc) = blkID b := by unfold tipS; rw [hbest]; simp
     rw [htip, hbest]
     refine ⟨_, hnew, ?_, fun e he => ?_⟩
     · show b.height = _
       rw [List.length_append, List.length_singleton]; push_cast; omega
     · show e.tot < totS m b ∨ (e.tot = totS m b ∧ blkID b ≤ e.id)
       rcases hmem e he with h1 | rfl
       · by_cases hm0 : m.best = []
         · rw [I.none hm0] at h1; simp at h1
         · obtain ⟨t, ht, -, hall⟩ := I.top hm0
           have h2 := hall e h1
           have hbl0 : m.best.length ≠ 0 := fun h => hm0 (List.eq_nil_of_length_eq_zero h)
           unfold betS betterB at hbet; rw [if_neg hbl0, ht] at hbet
           simp only [Option.map_some, Option.getD_some, Bool.or_eq_true, Bool.and_eq_true, decide_eq_true_eq, beq_iff_eq] at hbet
           have hti := (findS_some ht).2
           rcases hbet with h3 | ⟨h3, h4⟩
           · rcases h2 with h5 | ⟨h5, -⟩ <;> exact .inl (by omega)
           · rcases h2 with h5 | ⟨h5, h6⟩
             · exact .inl (by omega)
             · exact .inr ⟨by omega, by omega⟩
       · exact .inr ⟨rfl, Int.le_refl _⟩
   | false =>
     have hbest : subM r m b ya yc = addM m b ya yc := subM_no hbet
     have hm0 : m.best ≠ [] := by rw [hbest] at hn; exact hn
     obtain ⟨t, ht, hth, hall⟩ := I.top hm0
     have htip : tipS (subM r m b ya yc) = tipS m := by rw [hbest]; rfl
     refine ⟨t, ?_, ?_, fun e he => ?_⟩
     · rw [htip, subM_L]; exact findS_app ht _
     · rw [hbest]; exact hth
     · rcases hmem e he with h1 | rfl
       · exact hall e h1
       · show totS m b < t.tot ∨ (totS m b = t.tot ∧ t.id ≤ blkID b)
         have hbl0 : m.best.length ≠ 0 := fun h => hm0 (List.eq_nil_of_length_eq_zero h)
         unfold betS betterB at hbet; rw [if_neg hbl0, ht] at hbet
         simp only [Option.map_some, Option.getD_some, Bool.or_eq_false_iff, Bool.and_eq_false_iff, decide_eq_false_iff_not, beq_eq_false_iff_ne] at hbet
         have hti := (findS_some ht).2; obtain ⟨h3, h4⟩ := hbet
         rcases Int.lt_trichotomy (totS m b) t.tot with h5 | h5 | h5
         · exact .inl h5
         · rcases h4 with h6 | h6
           · exact absurd h5 h6
           · exact .inr ⟨h5, by omega⟩
         · exact absurd h5 h3
theorem Steps.stay {r : RuM} {m m' : ChM} {bs : List BlkM} (h : Steps r m bs m') (hs : ∀ b ∈ bs, subE r m b ≠ 0) : m' = m := by
 induction h with
 | nil m => rfl
 | no h t ih => exact ih fun x hx => hs x (List.mem_cons_of_mem _ hx)
 | yes h ya yc t ih => exact absurd h (hs _ (List.mem_cons_self ..))
def Stable (r : RuM) (l : List BlkM) (m : ChM) : Prop := ∀ b ∈ l, subE r m b ≠ 0
section
variable {r : RuM} {l : List BlkM}
theorem OrdI.steps (hr : RuOK r) (hl : l.length ≤ 8) (hf : (l.length : Int) ≤ r.fin) (hp : ∀ b ∈ l, posB b) {m m' : ChM} {bs : List BlkM} (h : Steps r m bs m') (I : OrdI r l m) (hb : ∀ b ∈ bs, b ∈ l) : OrdI r l m' ∧ leftN m' l ≤ leftN m l ∧ (leftN m' l = leftN m l → m' = m ∧ ∀ b ∈ bs, subE r m b ≠ 0) := by
 induction h with
 | nil m => exact ⟨I, Nat.le_refl _, fun _ => ⟨rfl, fun b hb => by simp at hb⟩⟩
 | @no m m' b bs h t ih =>
   obtain ⟨h1, h2, h3⟩ := ih I fun x hx => hb x (List.mem_cons_of_mem _ hx)
   refine ⟨h1, h2, fun he => ?_⟩
   obtain ⟨h4, h5⟩ := h3 he
   refine ⟨h4, fun x hx => ?_⟩
   rcases List.mem_cons.1 hx with rfl | hx
   · exact h
   · exact h5 x hx
 | @yes m m' b bs h ya yc t ih =>
   have hbl := hb b (List.mem_cons_self ..); have hI := I.step hr hl hf hp hbl h ya yc
   obtain ⟨h1, h2, -⟩ := ih hI fun x hx => hb x (List.mem_cons_of_mem _ hx)
   have h6 := leftN_sub hbl (sub_zero h) ya yc
   exact ⟨h1, by omega, fun he => by omega⟩
theorem rounds_stable (hr : RuOK r) (hl : l.length ≤ 8) (hf : (l.length : Int) ≤ r.fin) (hp : ∀ b ∈ l, posB b) {l2 : List BlkM} (h12 : ∀ b, b ∈ l2 ↔ b ∈ l) : ∀ (k : Nat) (m m' : ChM), Steps r m (List.replicate k l2).flatten m' → OrdI r l m → OrdI r l m' ∧ (Stable r l m' ∨ leftN m' l + k ≤ leftN m l)
 | 0, m, m', h, I => by
   have h' : Steps r m [] m' := h
   cases h'
   exact ⟨I, .inr (Nat.le_refl _)⟩
 | k + 1, m, m', h, I => by
   rw [List.replicate_succ, List.flatten_cons] at h; obtain ⟨m1, h1, h2⟩ := h.split
   obtain ⟨I1, hle, heq⟩ := I.steps hr hl hf hp h1 fun b hb => (h12 b).1 hb
   obtain ⟨I2, h3⟩ := rounds_stable hr hl hf hp h12 k m1 m' h2 I1
   refine ⟨I2, ?_⟩
   rcases Nat.lt_or_ge (leftN m1 l) (leftN m l) with h4 | h4
   · rcases h3 with h5 | h5
     · exact .inl h5
     · exact .inr (by omega)
   · obtain ⟨rfl, h5⟩ := heq (by omega)
     have hst : Stable r l m1 := fun b hb => h5 b ((h12 b).2 hb)
     have : m' = m1 := Steps.stay h2 fun b hb => by
       obtain ⟨x, hx, hbx⟩ := List.mem_flatten.1 hb; rw [List.eq_of_mem_replicate hx] at hbx
       exact hst b ((h12 b).1 hbx)
     rw [this]
     exact .inl hst
theorem all_stable (hr : RuOK r) (hl : l.length ≤ 8) (hf : (l.length : Int) ≤ r.fin) (hp : ∀ b ∈ l, posB b) {l2 : List BlkM} (h12 : ∀ b, b ∈ l2 ↔ b ∈ l) {m : ChM} (h : Steps r ⟨[], [], 0, 0⟩ (List.replicate l.length l2).flatten m) : OrdI r l m ∧ Stable r l m := by
 obtain ⟨I, h1⟩ := rounds_stable hr hl hf hp h12 l.length _ m h (ordI_new r l)
 refine ⟨I, ?_⟩
 rcases h1 with h1 | h1
 · exact h1
 · intro b hb he
   have h2 : leftN ⟨[], [], 0, 0⟩ l ≤ l.length := List.length_filter_le _ _
   have h3 : leftN m l = 0 := by omega
   have hs := sub_zero he
   have h4 : b ∈ l.filter fun b => (findS m.L (blkID b)).isNone := List.mem_filter.2 ⟨hb, by rw [hs.new]; rfl⟩
   unfold leftN at h3; rw [List.eq_nil_of_length_eq_zero h3] at h4
   simp at h4
end
def NoClash (l : List BlkM) : Prop := ∀ b ∈ l, ∀ b' ∈ l, blkID b = blkID b' → blkE b = 0 → blkE b' = 0 → b = b'
theorem way_cons {L : List StB} {x : Int} {e : StB} (h : findS L x = some e) (n : Nat) : wayF L (n + 1) x = wayF L n e.b.parent ++ [x] := by
 show (match findS L x with | some e => wayF L n e.b.parent ++ [x] | none => []) = _
 rw [h]
theorem stored_both {r : RuM} {l : List BlkM} {m m' : ChM} (hc : NoClash l) (I : OrdI r l m) (I' : OrdI r l m') (hs : Stable r l m') :
   ∀ (n : Nat) (e : StB), e ∈ m.L → e.b.height = n + 1 → (∃ e', findS m'.L e.id = some e' ∧ e'.b = e.b) ∧ wayF m'.L (n + 1) e.id = wayF m.L (n + 1) e.id ∧ blksS m'.L (wayF m.L (n + 1) e.id) = blksS m.L (wayF m.L (n + 1) e.id) := by
 have hone : ∀ (x : Int) (e e' : StB), findS m.L x = some e → findS m'.L x = some e' → e'.b = e.b := fun x e e' h h' => by
   obtain ⟨h1, h2⟩ := findS_some h; obtain ⟨h1', h2'⟩ := findS_some h'; have h3 := (I.ok.blk e h1); have h3' := (I'.ok.blk e' h1')
   exact hc _ (I'.mem e' h1').1 _ (I.mem e h1).1 (by rw [← h3.2.1, ← h3'.2.1, h2, h2']) h3'.1.valid h3.1.valid
 have hstep : ∀ (n : Nat) (e : StB), e ∈ m.L → e.b.height = n + 1 → parentE m'.L e.b = 0 → wayF m'.L n e.b.parent = wayF m.L n e.b.parent → blksS m'.L (wayF m.L n e.b.parent) = blksS m.L (wayF m.L n e.b.parent) →
     (∃ e', findS m'.L e.id = some e' ∧ e'.b = e.b) ∧ wayF m'.L (n + 1) e.id = wayF m.L (n + 1) e.id ∧ blksS m'.L (wayF m.L (n + 1) e.id) = blksS m.L (wayF m.L (n + 1) e.id) := by
   intro n e he hh hpar hw hb
   have hfe := I.ok.uniq e he; have hwe := way_cons hfe n
   have hbe : blkS m.L e.id = e.b := by unfold blkS; rw [hfe]; rfl
   have hbr : branF m.L e.b = wayF m.L n e.b.parent := by unfold branF; rw [show e.b.height.toNat - 1 = n by omega]
   have hbr' : branF m'.L e.b = wayF m.L n e.b.parent := by unfold branF; rw [show e.b.height.toNat - 1 = n by omega]; exact hw
   have hex : ∃ e', findS m'.L e.id = some e' ∧ e'.b = e.b := by
     cases hf : findS m'.L e.id with
     | some e' => exact ⟨e', rfl, hone _ e e' hfe hf⟩
     | none =>
       exfalso
       obtain ⟨hm1, hm2, hm3, -⟩ := I.mem e he; obtain ⟨hb1, hb2, -⟩ := I.ok.blk e he; have hrun := I.ok.run e he
       rw [show e.b.height.toNat = n + 1 by omega, hwe] at hrun
       have hsp : blksS m.L (wayF m.L n e.b.parent ++ [e.id]) = blksS m.L (wayF m.L n e.b.parent) ++ [e.b] := by
         unfold blksS; rw [List.map_append]
         show _ ++ [blkS m.L e.id] = _
         rw [hbe]
       rw [hsp] at hrun; have happ := hrun.last.2.2
       refine hs _ hm1 ?_
       rw [subE_app hm2 (by rw [← hb2]; exact hf) hpar ?_ hm3, hbr', hb]
       · exact happ
       · unfold finB
         rw [decide_eq_false_iff_not]
         intro h
         have := I'.hgt
         omega
   obtain ⟨e', hfe', hbe'⟩ := hex
   refine ⟨⟨e', hfe', hbe'⟩, ?_, ?_⟩
   · rw [hwe, way_cons hfe' n, hbe', hw]
   · rw [hwe]
     unfold blksS at hb ⊢; rw [List.map_append, List.map_append, hb]
     show _ ++ [blkS m'.L e.id] = _ ++ [blkS m.L e.id]
     rw [hbe]; unfold blkS; rw [hfe']
     show _ ++ [e'.b] = _
     rw [hbe']
 intro n
 induction n with
 | zero =>
   intro e he hh
   refine hstep 0 e he hh ?_ rfl rfl
   unfold parentE
   rw [if_pos (by omega), if_pos ((I.mem e he).2.2.2.2 (by omega))]
 | succ n ih =>
   intro e he hh
   rcases I.ok.clos e he with h1 | ⟨p, hp, hph⟩
   · push_cast at hh; omega
   · obtain ⟨hpm, hpi⟩ := findS_some hp
     obtain ⟨⟨p', hp', hpb⟩, h2, h3⟩ := ih p hpm (by rw [hph, hh]; push_cast; omega)
     rw [hpi] at hp' h2 h3
     refine hstep (n + 1) e he hh ?_ h2 h3
     unfold parentE
     rw [if_neg (by omega), hp']
     show (if p'.b.height = e.b.height - 1 then (0 : Int) else 18) = 0
     rw [hpb, if_pos hph]
theorem isWay_eq {L : List StB} {l : List Int} (h : IsWay L l) : ∀ (n : Nat) (hn : n < l.length), l.take (n + 1) = wayF L (n + 1) l[n]
 | 0, hn => by
   obtain ⟨e, he, -, -⟩ := h 0 hn; rw [way_cons he 0]
   cases l with
   | nil => simp at hn
   | cons a l => simp [wayF]
 | n + 1, hn => by
   obtain ⟨e, he, -, hpar⟩ := h (n + 1) hn
   rw [way_cons he (n + 1), List.take_succ_eq_append_getElem hn, isWay_eq h n (by omega)]
   have h1 := hpar (by omega)
   rw [Nat.add_sub_cancel, List.getD_eq_getElem?_getD, List.getElem?_eq_getElem (by omega : n < l.length)] at h1
   have h2 : e.b.parent = l[n] := h1; rw [h2]
theorem best_eq {r : RuM} {l : List BlkM} {m : ChM} (I : OrdI r l m) (hb : m.best ≠ []) : m.best = wayF m.L m.best.length (tipS m) := by
 obtain ⟨n, hn⟩ : ∃ n, m.best.length = n + 1 := ⟨m.best.length - 1, by have := List.length_pos_iff.2 hb; omega⟩
 have h1 := isWay_eq I.ok.best n (by omega)
 rw [← hn, List.take_length] at h1
 have h2 : tipS m = m.best[n]'(by omega) := by
   unfold tipS
   have h3 : m.best.length - 1 = n := by omega
   rw [List.getLast?_eq_getElem?, h3, List.getElem?_eq_getElem (by omega)]; rfl
 rw [h2]
 exact h1
theorem ends_alike {r : RuM} {l : List BlkM} {m m' : ChM} (hc : NoClash l) (I : OrdI r l m) (hs : Stable r l m) (I' : OrdI r l m') (hs' : Stable r l m') :
   m.best = m'.best ∧ tipS m = tipS m' ∧ (∀ x e, findS m.L x = some e → ∃ e', findS m'.L x = some e' ∧ e'.b = e.b) ∧ (∀ x e, findS m'.L x = some e → ∃ e', findS m.L x = some e' ∧ e'.b = e.b) := by
 have hall : ∀ {m m' : ChM}, OrdI r l m → OrdI r l m' → Stable r l m' → ∀ x e, findS m.L x = some e → ∃ e', findS m'.L x = some e' ∧ e'.b = e.b := fun {m m'} I I' hs' x e h => by
   obtain ⟨h1, h2⟩ := findS_some h; have h3 := (I.ok.high e h1).1
   have h4 := (stored_both hc I I' hs' (e.b.height.toNat - 1) e h1 (by omega)).1
   rw [h2] at h4
   exact h4
 have ha := hall I I' hs'; have hb := hall I' I hs
 have hemp : ∀ {m m' : ChM}, OrdI r l m → OrdI r l m' → (∀ x e, findS m'.L x = some e → ∃ e', findS m.L x = some e' ∧ e'.b = e.b) → m.best = [] → m'.best = [] := fun {m m'} I I' h h0 => by
   by_cases h1 : m'.best = []
   · exact h1
   · obtain ⟨t, ht, -⟩ := I'.top h1
     obtain ⟨e, he, -⟩ := h _ _ ht; rw [I.none h0] at he
     exact absurd he (by simp [findS])
 by_cases h0 : m.best = []
 · have h1 := hemp I I' hb h0
   exact ⟨by rw [h0, h1], by unfold tipS; rw [h0, h1], ha, hb⟩
 · have h1 : m'.best ≠ [] := fun h => h0 (hemp I' I ha h)
   obtain ⟨t, ht, hth, hopt⟩ := I.top h0; obtain ⟨t', ht', hth', hopt'⟩ := I'.top h1; obtain ⟨u, hu, hub⟩ := ha _ _ ht; obtain ⟨u', hu', hub'⟩ := hb _ _ ht'; have e1 := findS_some ht; have e2 := findS_some ht'; have e3 := findS_some hu; have e4 := findS_some hu'; have k1 := hopt' u e3.1; have k2 := hopt u' e4.1; have t1 := (I.mem t e1.1).2.2.2.1; have t2 := (I'.mem t' e2.1).2.2.2.1; have t3 := (I'.mem u e3.1).2.2.2.1; have t4 := (I.mem u' e4.1).2.2.2.1; rw [hub] at t3; rw [hub'] at t4
   have htip : tipS m = tipS m' := by
     rw [← e1.2, ← e2.2]; rw [← e1.2] at e3; rw [← e2.2] at e4
     have q1 : u.tot = t.tot := by rw [t3, t1]
     have q2 : u'.tot = t'.tot := by rw [t4, t2]
     have q3 := e3.2; have q4 := e4.2
     rcases k1 with k1 | ⟨k1, k1'⟩ <;> rcases k2 with k2 | ⟨k2, k2'⟩ <;> omega
   refine ⟨?_, htip, ha, hb⟩
   have hbt : t'.b = t.b := by
     rw [htip] at hu; rw [hu] at ht'; obtain rfl := Option.some.inj ht'
     exact hub
   have hlen : m.best.length = m'.best.length := by
     rw [hbt] at hth'
     omega
   rw [best_eq I h0, best_eq I' h1, ← htip, ← hlen]
   obtain ⟨n, hn⟩ : ∃ n, m.best.length = n + 1 := ⟨m.best.length - 1, by have := List.length_pos_iff.2 h0; omega⟩
   rw [hn]
   have := (stored_both hc I I' hs' n t e1.1 (by rw [hth, hn]; push_cast; rfl)).2.1
   rw [e1.2] at this
   exact this.symm
end Go.Proofs.YtcnhicijimiegaaGreatDoor
