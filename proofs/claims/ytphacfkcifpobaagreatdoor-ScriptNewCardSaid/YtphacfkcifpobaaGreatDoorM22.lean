/- The chain as a part of a frame: New, Submit, Tip, Best. -/
import Derived.Test.YtphacfkcifpobaaGreatDoorM11
import Derived.Test.YtphacfkcifpobaaGreatDoorChU
import Derived.Test.YtphacfkcifpobaaGreatDoorM21
import Derived.Test.YtphacfkcifpobaaGreatDoorM05
import Derived.Test.YtphacfkcifpobaaGreatDoorM03
import Derived.Test.YtphacfkcifpobaaGreatDoorM06
import Derived.Test.YtphacfkcifpobaaGreatDoorM15
import Derived.Test.YtphacfkcifpobaaGreatDoorM01
import Derived.Test.YtphacfkcifpobaaGreatDoorM04
import Derived.WalkSpells
import Derived.Deep.RegionHeld3
import Derived.Deep.QuietTactic
import Derived.BigQuiet
import Derived.Deep.RegionLaw
set_option maxRecDepth 100000
namespace Go.Proofs.YtphacfkcifpobaaGreatDoor
open Go.ChangeShapes Go.WideShapes Go.ChangeAt Go.RowKit Go.Sort
section
variable {O : Nat → Prop}
def chA (c : Nat) (r : RuM) (m : ChM) : Asn O where
 rel F w := ∃ (SB PI : Nat → Prop) (v : ChV), ChAt c SB PI w r m (blksS m.L m.best) v ∧ (∀ k, SB k → F k ∨ O k) ∧ (∀ k, PI k → F k) ∧ ∀ k, ChMut c v k → F k
 keep := by
   rintro F w w' ⟨SB, PI, v, h, h1, h2, h3⟩ hk
   exact ⟨SB, PI, v, h.keep hk h1 (fun k h => .inl (h2 k h)) fun k h => .inl (h3 k h), h1, h2, h3⟩
 mono := by
   rintro F F' w ⟨SB, PI, v, h, h1, h2, h3⟩ hF
   exact ⟨SB, PI, v, h, fun k hk => (h1 k hk).imp (hF k (h.lt k hk)) id, fun k hk => hF k (h.state.lt k hk) (h2 k hk), fun k hk => hF k (h.mut_lt k hk) (h3 k hk)⟩
def chM0 : ChM := ⟨[], [], 0, 0⟩
theorem chAt_shrink {c : Nat} {SB PI T : Nat → Prop} {w : World} {r : RuM} {v : ChV} (h : ChAt c SB PI w r chM0 [] v) (ho : r.mode = 2 → OrIn T v.op w) (hT : ∀ k, T k → SB k) : ChAt c T PI w r chM0 [] v := by
 refine ⟨h.cell, ho, h.map, fun e he => by simp [chM0] at he, ?_, h.state, fun k hm ht => h.free k hm (hT k ht), h.ap1, h.ap2, h.pi, fun k hk => h.lt k (hT k hk)⟩
 obtain ⟨a, len, cap, hv, h1, h2, h3, h4, -⟩ := h.best
 exact ⟨a, len, cap, hv, h1, h2, h3, h4, fun i x hx => by simp [chM0] at hx⟩
variable {L E : List (Asn O)} {f : Asn O → List (Asn O)} {F0 : Nat → Prop} {w0 w : World}
theorem chNew_fr (h : Fr L F0 w0 w) (op : Nat) (ideal : Bool) (st : Int) (ho : OrAt ideal st op w) (hst : ideal = false → st = 0) (r : RuM) (hr : okU r.rew) (hO : r.mode = 2 → OrIn O op w) (h0 : newE r ideal = 0) :
   Calls Tryz.prog 25 #[.pointer (some ⟨op, 0, none⟩), .agg #[.int .i64 r.mode, .int .i64 r.depth, .int .i64 r.bl, .int .i64 r.bu, .int .i64 r.qu, .int .u64 r.rew, .int .i64 r.win, .int .i64 r.fin, .int .u64 r.work]] w fun e w' =>
     ∃ c, e = .returned (.tuple #[.pointer (some ⟨c, 0, none⟩), .int .i64 0]) ∧ Fr (chA c r chM0 :: L) F0 w0 w' ∧ Below w.heap.size w w' := by
 refine (chNew_any w op ideal st ho hst r hr).mono ?_
 rintro e w' ⟨hq, -⟩; obtain ⟨c, PI, v, rfl, hat, rfl, hmu, hpi, hb⟩ := hq h0
 refine ⟨c, rfl, h.new hb ⟨O, PI, v, chAt_shrink hat (fun e => (hO e).keep (Kept.of_below hb) fun _ h => h) fun k hk => Nat.lt_of_lt_of_le (h.con k hk).1 h.kept.size, fun k hk => .inr hk, hpi, hmu⟩, hb⟩
theorem chA_get {c : Nat} {r : RuM} {m : ChM} (h : Fr L F0 w0 w) (ix : In L (chA c r m) f E) : ∃ (SB PI : Nat → Prop) (v : ChV), ChAt c SB PI w r m (blksS m.L m.best) v := by
 obtain ⟨SB, PI, v, h1, -⟩ := h.get ix
 exact ⟨SB, PI, v, h1⟩
theorem chSubmit_fr {c : Nat} {r : RuM} {m : ChM} (h : Fr L F0 w0 w) (ix : In L (chA c r m) f E) (hr : RuOK r) (hmo : r.mode = 2) (ok : ChOK r m) (hn : m.L.length ≤ 100) (b : BlkM) (hz : subE r m b = 0) (hb0 : b.txs = []) (xa : Option Addr) (xc : Nat) (hbk : BlkIn (fun _ => False) w b xa xc) :
   Calls Tryz.prog 139 #[.pointer (some ⟨c, 0, none⟩), .agg #[.int .u64 b.parent, .int .i64 b.height, .int .u64 b.miner, .int .u64 b.work, .int .u64 b.nonce, .slice xa 0 xc]] w fun e w' =>
     e = .returned (.tuple #[.int .i64 (cntU m b), .int .i64 (cntA m b), .int .i64 0]) ∧ ∃ (ya : Option Addr) (yc : Nat), ChOK r (subM r m b ya yc) ∧ Fr (f (chA c r (subM r m b ya yc))) F0 w0 w' := by
 obtain ⟨G, hG, ⟨SB, PI, v, hat, h1, h2, h3⟩, -, hcl⟩ := h.open ix
 have hs := submit_any c SB PI w r hr hmo m v hat ok hn (fun _ => False) b xa xc hbk (fun k h => h.elim) (fun t ht => by rw [hb0] at ht; simp at ht)
 rw [show b.txs.length = 0 by rw [hb0]; rfl] at hs
 refine hs.mono ?_
 rintro e w' (⟨hne, -⟩ | ⟨-, rfl, ya, yc, SB', PI', v', hat', hst⟩)
 · exact absurd hz hne
 · have hk : Kept (fun k => ¬ G k) w w' := hst.kept.mono fun k _ hg hm => hg (h3 k hm)
   refine ⟨rfl, ya, yc, sub_ok ok (by have := hr.f0; omega) (sub_zero hz) (by intro t ht; rw [hb0] at ht; simp at ht) ya yc, hcl _ _ ⟨SB', PI', v', hat', fun k hk => ?_, fun k hk => ?_, fun k hk => ?_⟩ hk⟩
   · rcases hst.sb' k hk with h | h
     · exact (h1 k h).imp .inl id
     · exact .inl (.inr h)
   · rcases hst.pi' k hk with h | h | h
     · exact .inl (h2 k h)
     · exact .inl (h3 k h)
     · exact .inr h
   · rcases hst.turn k hk with h | h
     · exact .inl (h3 k h)
     · exact .inr h
end
end Go.Proofs.YtphacfkcifpobaaGreatDoor
/- Script: new mempools, wallet seeds. -/
namespace Go.Proofs.YtphacfkcifpobaaGreatDoor
open Go.ChangeShapes Go.WideShapes Go.ChangeAt Go.RowKit Go.Sort
theorem mpNew_any (w : World) (n : Int) (h : 1 ≤ n) : Calls Tryz.prog 27 #[.int .i64 n] w fun e w' => e = .returned (.pointer (some ⟨w.heap.size, 0, none⟩)) ∧ w' = w.alloc (.cells #[.int .i64 n, .slice none 0 0] 115) := by
 go_enter Tryz.func27, Tryz.ntmps27
 go_wp2_with fail; go_ret
 exact ⟨rfl, rfl⟩
theorem spend_any (w : World) (x : Int) (hx : okU x) : Calls Tryz.prog 41 #[.int .u64 x] w fun e w' => e = .returned (.int .u64 (hashS 8 [x])) ∧ Below w.heap.size w w' := by
 have HX := Lib.hid (nums1 w 24 hx); clear hx
 go_enter Tryz.func41, Tryz.ntmps41
 go_wp2_with fail
 refine (keysHash_any (fun _ => True) _ 8 (by omega) _ 1 1 [x] rfl HX.out (by simp)).mono ?_
 rintro e w1 ⟨rfl, hb⟩; go_wp2_with fail; go_ret
 exact ⟨rfl, bnext (bnew (Below.refl _ _) _) hb⟩
theorem secret_any (w : World) (x : Int) (hx : okU x) : Calls Tryz.prog 148 #[.int .u64 x] w fun e w' => e = .returned (.int .u64 (hashS 9 [x])) ∧ Below w.heap.size w w' := by
 have HX := Lib.hid (nums1 w 24 hx); clear hx
 go_enter Tryz.func148, Tryz.ntmps148
 go_wp2_with fail
 refine (keysHash_any (fun _ => True) _ 9 (by omega) _ 1 1 [x] rfl HX.out (by simp)).mono ?_
 rintro e w1 ⟨rfl, hb⟩; go_wp2_with fail; go_ret
 exact ⟨rfl, bnext (bnew (Below.refl _ _) _) hb⟩
theorem wseed_any (w : World) (seed : Int) (i : Nat) (hs : okU seed) (hi : i ≤ 1000) : Calls Tryz.prog 23 #[.int .u64 seed, .int .i64 i] w fun e w' => e = .returned (.int .u64 (hashS 8 [seed, i])) ∧ Below w.heap.size w w' := by
 have hw : IntKind.u64.wrap (i : Int) = (i : Int) := (IntKind.wrap_u64 _).trans (by omega)
 have HX := Lib.hid (nums2 w 24 hs (okU_of (show (0 : Int) ≤ (i : Int) by omega) (by omega)))
 clear hs
 go_enter Tryz.func23, Tryz.ntmps23
 go_wp2_with fail
 try rw [hw]
 refine (Hash_big 8 (by omega) (fun _ => True) _ _ 2 [seed, (i : Int)] (by simpa using HX.out) (by simp)).mono ?_
 rintro e w1 ⟨rfl, hb⟩; go_wp2_with fail; go_ret
 exact ⟨rfl, bnext (bnew (Below.refl _ _) _) hb⟩
end Go.Proofs.YtphacfkcifpobaaGreatDoor
/- More of the small library. -/
namespace Go.Proofs.YtphacfkcifpobaaGreatDoor
open Go.ChangeShapes Go.WideShapes Go.ChangeAt Go.RowKit
section
variable {α : Type} {r : Rep α} {base : Nat} {e : TypeId} {F : Nat → Prop} {w w' : World} {v : Value} {xs : List α}
end
def GivesA {α : Type} (r : Rep α) (F : Nat → Prop) (x : α) (w : World) (e : Ending) (w' : World) : Prop :=
 ∃ cs, e = .returned (.agg cs.toArray) ∧ r.rel F w' cs x ∧ Below w.heap.size w w'
theorem wpList_make_n {P : Program} {w : World} {ops : Array Oper} {rest : List Oper} {o : Oper} {a : Act} {Q : Exit → Act → World → Prop} (hg : o.guard = none) (l c : Operand) {t : TypeId} (hop : o.op = Op.makeSlice t l c)
   {α : Type} (r : Rep α) (base : Nat) {e : TypeId} {bytes : Nat} (hT : ElemTy P t e r.n bytes) {z : Value} (hzz : (P.info? e).map (·.zero) = some (some z)) {x0 : α} (hx0 : ∀ S w, r.rel S w z.cells.toList x0)
   {kl kc : IntKind} {L C : Int} {n : Nat} (hl : a.eval l = .int kl L) (hc : a.eval c = .int kc C) (hL : L = (n : Int)) (hC : C = (n : Int))
   (b2 : bytes * n ≤ 281474976710656) (b3 : n ≤ maxLen) (b4 : base ≤ w.heap.size)
   (hK : ∀ w', Own r base e (fun k => k = w.heap.size) w' (.slice (some ⟨w.heap.size, 0, none⟩) n n) (List.replicate n x0) → Below w.heap.size w w' → wpList P ops Q rest (a.put o.dst (.slice (some ⟨w.heap.size, 0, none⟩) n n)) w') :
   wpList P ops Q (o :: rest) a w := by
 obtain ⟨ht, hn, i, z', hi, hz, hsize, hby, hzs⟩ := hT
 obtain rfl : z' = z := by rw [hi] at hzz; simp only [Option.map_some, Option.some.injEq] at hzz; rw [hz] at hzz; exact Option.some.inj hzz
 refine wpList_make_full w hg l c t hop base e i z' r.n ht hi hz hsize kl kc L C n hl hc hL hC (by rw [hby]; exact b2) b3 b4 fun w' ho hgr => hK w' ?_ ?_
 · rw [madeCells_flat z'.cells r.n n hzs hn] at ho
   refine ⟨fun _ => False, List.replicate n z'.cells.toList, fun _ h => h.elim, fun k h => ⟨fun h => h, by simpa [Value.ownBlock, eq_comm] using h⟩, by simp, fun i cs x h1 h2 => ?_, by simpa using ho⟩
   have e1 := (List.mem_replicate.1 (List.mem_of_getElem? h1)).2; have e2 := (List.mem_replicate.1 (List.mem_of_getElem? h2)).2
   rw [e1, e2]; exact hx0 _ _
 · exact ⟨hgr.os, hgr.tape, hgr.output, hgr.size, fun k hk => hgr.block k hk (by simp)⟩
open Go.ChangeShapes Go.WideShapes Go.ChangeAt Go.RowKit
theorem eraseIdx_len {β : Type} (l : List β) (k : Nat) (h : k < l.length) : (l.eraseIdx k).length = l.length - 1 := by rw [List.length_eraseIdx, if_pos h]
theorem eraseIdx_get {β : Type} (l : List β) (k : Nat) : l.eraseIdx k = l.take k ++ l.drop (k + 1) := List.eraseIdx_eq_take_drop_succ l k
theorem run_delete_append {P : Program} {α : Type} {r : Rep α} {t e : TypeId} {bytes : Nat} (hT : ElemTy P t e r.n bytes) {S : Nat → Prop} {w : World} {g cap : Nat} {xs : List α} (h : Row r e S w g cap xs) (k : Nat) (hk : k < xs.length)
   (ad : Addr) (c : Nat) (had : k + 1 < xs.length → ad = ⟨g, (k + 1) * r.n, none⟩) :
   ∃ w1, (∀ ty, (Builtin.append_ #[t, t] ty #[.slice (some ⟨g, 0, none⟩) k cap, .slice (some ad) (xs.length - (k + 1)) c]).run P w = .ok (.slice (some ⟨g, 0, none⟩) (xs.length - 1) cap) w1) ∧ Row r e S w1 g cap (xs.eraseIdx k) ∧ Kept (fun x => x ≠ g) w w1 := by
 obtain ⟨ht, hn, i, z, hi, hz, hsize, hby, hzs⟩ := hT; obtain ⟨cur, css, hg, h4, hl, hr, h5, h2, hng, hS⟩ := h; have hall := all_len hl hr
 have hfl : css.flatten.length = xs.length * r.n := by rw [flatten_len hall, hl]
 have hnl : (css.drop (k + 1)).flatten.length = (xs.length - (k + 1)) * r.n := by
   rw [flatten_len (fun cs hc => hall cs (List.mem_of_mem_drop hc)), List.length_drop, hl]
 have hcur : ∀ j u, css.flatten[j]? = some u → w.cell? ⟨g, j, none⟩ = some u := by
   intro j u hj
   rw [(box_cells hg).1, ← Array.getElem?_toList]; rw [← h5, List.getElem?_take] at hj
   split at hj
   · exact hj
   · simp at hj
 have hnews : ∀ j u, (css.drop (k + 1)).flatten[j]? = some u → w.cell? (ad.add j) = some u := by
   intro j u hj
   have hjl : j < (xs.length - (k + 1)) * r.n := by rw [← hnl]; exact (List.getElem?_eq_some_iff.1 hj).1
   have hpos : k + 1 < xs.length := by
     rcases Nat.lt_or_ge (k + 1) xs.length with h | h
     · exact h
     · rw [Nat.sub_eq_zero_of_le h] at hjl; omega
   rw [had hpos, Addr.add_lit]; rw [flatten_drop css hall, List.getElem?_drop] at hj
   exact hcur _ _ hj
 have hsz : xs.length * r.n ≤ cap * r.n := Nat.mul_le_mul_right _ h2
 have hk1 : k * r.n + (xs.length - (k + 1)) * r.n + r.n = xs.length * r.n := by
   rw [← Nat.add_mul]
   have : xs.length = (k + (xs.length - (k + 1))) + 1 := by omega
   conv => rhs; rw [this, Nat.succ_mul]
 have hrun := fun ty => run_append_room (P := P) w t ty e i ht hi g k cap cur hg ad (xs.length - (k + 1)) c (css.drop (k + 1)).flatten (by rw [hsize, hnl]) hnews
   (fun u hu => all_one hl hr u (by rw [flatten_drop css hall] at hu; exact List.mem_of_mem_drop hu)) (by omega) (by rw [hsize, hnl, h4]; omega)
 rw [hsize] at hrun
 refine ⟨_, fun ty => by rw [hrun]; congr 3; omega, ?_, kept_setRow w g _⟩
 have htk : cur.toList.take (k * r.n) = (css.take k).flatten := by
   rw [flatten_take css hall, ← h5, List.take_take, Nat.min_eq_left (by omega)]
 refine Row.rewrite (css := css.eraseIdx k) hg hng hS (by rw [eraseIdx_len _ _ (by omega), eraseIdx_len _ _ hk, hl]) ?_ _ ?_ ?_ ?_
 · intro j cs x hc hx
   rw [List.getElem?_eraseIdx] at hc hx
   split at hc
   · rw [if_pos (by assumption)] at hx; exact hr _ cs x hc hx
   · rw [if_neg (by assumption)] at hx; exact hr _ cs x hc hx
 · simp only [List.length_append, List.length_take, List.length_drop, Array.length_toList, hnl, h4]
   omega
 · rw [eraseIdx_len _ _ hk, eraseIdx_get, List.flatten_append, htk]
   have hlen : ((css.take k).flatten ++ (css.drop (k + 1)).flatten).length = (xs.length - 1) * r.n := by
     rw [List.length_append, hnl, flatten_take css hall, List.length_take, hfl, Nat.min_eq_left (by omega), ← Nat.add_mul]
     congr 1; omega
   rw [List.take_left' hlen]
 · rw [eraseIdx_len _ _ hk]; omega
theorem zeroCells_len (z : Array Value) (m : Nat) : (Builtin.zeroCells z m).toList.length = m * z.size := by
 rw [Array.length_toList, size_zeroCells]
theorem run_clear_row {P : Program} {α : Type} {r : Rep α} {t e : TypeId} (ht : P.underlying t = some (.slice e)) {z : Value} (hz : ∀ w, (zeroValue e).run P w = .ok z w) (hzs : z.cells.size = r.n) (hzo : ∀ m, ∀ u ∈ (Builtin.zeroCells z.cells m).toList, u.oneCell' = true)
   {S : Nat → Prop} {w : World} {g cap : Nat} {xs : List α} (h : Row r e S w g cap xs) (o m : Nat) (hom : o + m ≤ cap) (hxo : xs.length ≤ o) (ad : Addr) (had : 0 < m → ad = ⟨g, o * r.n, none⟩) :
   ∃ w1, (∀ ty c, (Builtin.clear_ #[t] ty #[.slice (some ad) m c]).run P w = .ok (.tuple #[]) w1) ∧ Row r e S w1 g cap xs ∧ Kept (fun x => x ≠ g) w w1 := by
 cases m with
 | zero =>
   refine ⟨w, fun ty c => ?_, h, Kept.refl _ _⟩
   simp [Builtin.clear_, run_underlying ht]
 | succ m =>
   obtain rfl := had (by omega)
   obtain ⟨cur, css, hg, h4, hl, hr, h5, h2, hng, hS⟩ := h
   have hcl : cur.toList.length = cap * r.n := by simpa using h4
   have hlz : (Builtin.zeroCells z.cells (m + 1)).toList.length = (m + 1) * r.n := by rw [zeroCells_len, hzs]
   have hle : o * r.n + (m + 1) * r.n ≤ cap * r.n := by rw [← Nat.add_mul]; exact Nat.mul_le_mul_right _ hom
   have hxle : xs.length * r.n ≤ o * r.n := Nat.mul_le_mul_right _ hxo
   have hst := run_storeCells_at P g (o * r.n) e (Builtin.zeroCells z.cells (m + 1)).toList 0 cur w hg (by rw [hlz, h4]; omega) (hzo (m + 1))
   simp only [Nat.add_zero] at hst
   refine ⟨_, fun ty c => ?_, ?_, kept_setRow w g (cur.toList.take (o * r.n) ++ (Builtin.zeroCells z.cells (m + 1)).toList ++ cur.toList.drop (o * r.n + (Builtin.zeroCells z.cells (m + 1)).toList.length)).toArray⟩
   · simp [Builtin.clear_, run_underlying ht, hz, hst]
   · refine Row.rewrite (css := css) hg hng hS hl hr _ ?_ ?_ h2
     · simp only [List.length_append, List.length_take, List.length_drop, Array.length_toList, hlz, h4]
       omega
     · rw [List.append_assoc, List.take_append_of_le_length (by rw [List.length_take, hcl, Nat.min_eq_left (by omega)]; exact hxle), List.take_take, Nat.min_eq_left hxle, h5]
theorem step_append_eq {P : Program} {ops : Array Oper} {o : Oper} {a : Act} {K : Act → World → Prop} {Q : Exit → Act → World → Prop} {E : Prop} (hgd : o.guard = none) (s x : Operand) {t : TypeId}
   (ho : o.op = .call { callee := .builtin .append, args := #[s, x], argTypes := #[t, t] }) {w w' : World} {v u v' : Value} (hs : a.eval s = v) (hx : a.eval x = u)
   (hr : ∀ ty, (Builtin.append_ #[t, t] ty #[v, u]).run P w = .ok v' w') (hK : K (a.put o.dst v') w') : if Region.wanted o (yielded ops a.tmps) = true then Oper.wp P o a w K Q else E := by
 have hw : Region.wanted o (yielded ops a.tmps) = true := by simp [Region.wanted, hgd]
 rw [if_pos hw]; unfold Oper.wp execOp
 simp only [ho, resolve, invoke, builtin, Sem.run_bind, Sem.run_pure, Result.andThen_ok, List.map_toArray, List.map_cons, List.map_nil, hs, hx, hr]
 exact hK
theorem Row.facts {α : Type} {r : Rep α} {e : TypeId} {S : Nat → Prop} {w : World} {g cap : Nat} {xs : List α} (h : Row r e S w g cap xs) : ¬ S g ∧ (∀ k, S k → k < w.heap.size) ∧ xs.length ≤ cap := by
 obtain ⟨cur, css, hg, h4, hl, hr, h5, h2, hng, hS⟩ := h
 exact ⟨hng, hS, h2⟩
end Go.Proofs.YtphacfkcifpobaaGreatDoor
/- Script: trees of paths and wallets without notes. -/
namespace Go.Proofs.YtphacfkcifpobaaGreatDoor
open Go.ChangeShapes Go.WideShapes Go.ChangeAt Go.RowKit Go.Sort
theorem Tryz.etyRows : ElemTy Tryz.prog 159 86 1 24 := ElemTy.of Tryz.underlying159 (z := .slice none 0 0) (by kernel_rfl) rfl (by omega)
theorem Tryz.etyScan : ElemTy Tryz.prog 90 439 3 40 := ElemTy.of Tryz.underlying90 (z := .agg #[.int .i64 0, .int .i64 0, .slice none 0 0]) (by kernel_rfl) rfl (by omega)
def scR : Rep Unit where
 n := 3
 rel _ _ cs _ := cs = [.int .i64 0, .int .i64 0, .slice none 0 0]
 len h := by rw [h]; rfl
 one h := by rw [h]; simp [Value.oneCell']
 keep h _ := h
 mono h _ := h
section
variable {O : Nat → Prop}
def tlA (p D : Nat) : Asn O := exA fun v : Value => listA [boxA p #[.int .i64 D, v] 161, ownA numsR 0 86 v (List.replicate (D + 1) [])]
abbrev walC (op : Nat) (r : RuM) (seed : Int) (lp : Nat) (pv : Value) : Array Value := #[.pointer (some ⟨op, 0, none⟩), .int .i64 r.mode, .int .i64 r.depth, .int .i64 r.bl, .int .i64 r.bu, .int .i64 r.qu, .int .u64 r.rew, .int .i64 r.win, .int .i64 r.fin, .int .u64 r.work, .int .u64 seed, .int .u64 (hashS 8 [seed]), .pointer (some ⟨lp, 0, none⟩), .slice none 0 0, pv]
def walL (p op : Nat) (r : RuM) (seed : Int) (h : Nat) (x : Nat × Value) : List (Asn O) := [boxA p (walC op r seed x.1 x.2) 92, tlA x.1 r.depth.toNat, ownA scR 0 439 x.2 (List.replicate h ())]
def walA (p op : Nat) (r : RuM) (seed : Int) (h : Nat) : Asn O := exA fun x : Nat × Value => listA (walL p op r seed h x)
variable {L E : List (Asn O)} {f : Asn O → List (Asn O)} {F0 : Nat → Prop} {w0 w : World}
theorem rules_depth {m d bl bu q rew win fin work : Int} (h : rulesE m d bl bu q rew win fin work = 0) : 1 ≤ d ∧ d ≤ 12 := by
 unfold rulesE at h
 split at h
 · rename_i h1
   unfold rulesB at h1; rw [decide_eq_true_eq] at h1
   exact ⟨h1.1.2.2.1, h1.1.2.2.2.1⟩
 · simp at h
theorem tlNew_any (hf : Fr (O := O) [] (fun _ => False) w w) (D : Nat) (h1 : 1 ≤ D) (h2 : D ≤ 12) : Calls Tryz.prog 40 #[.int .i64 D] w fun e w' => ∃ p, e = .returned (.tuple #[.pointer (some ⟨p, 0, none⟩), .int .i64 0]) ∧ Fr [tlA (O := O) p D] (fun _ => False) w w' := by
 have d1 : decide ((D : Int) < 1) = false := decide_eq_false (by omega)
 have d2 : decide (12 < (D : Int)) = false := decide_eq_false (by omega)
 have d3 : wrap64 ((D : Int) + 1) = ((D + 1 : Nat) : Int) := by unfold wrap64; omega
 have HF := Lib.hid hf; clear hf
 go_enter Tryz.func40, Tryz.ntmps40
 go_wp2_with (at_make; go_loud (refine wpList_make_n rfl _ _ rfl numsR 0 Tryz.etyRows (z := .slice none 0 0) (by kernel_rfl) (x0 := []) (fun _ _ => sliceR.nil) (n := D + 1) rfl rfl (by first | exact d3 | omega) (by first | exact d3 | omega) (by omega) (by unfold maxLen; omega) (Nat.zero_le _) ?_); intro w1 ho hb)
 have hf1 := HF.out.new (A := ownA numsR 0 86 (.slice (some ⟨w.heap.size, 0, none⟩) (D + 1) (D + 1)) (List.replicate (D + 1) [])) hb (ho.mono fun k _ h => by rw [h]; exact Nat.le_refl _)
 have hf2 := hf1.alloc #[.int .i64 D, .slice (some ⟨w.heap.size, 0, none⟩) (D + 1) (D + 1)] 161; go_wp2_with fail; go_ret2
 exact ⟨_, rfl, hf2.done fun F h => ⟨_, h⟩⟩
theorem tl_parts {p D : Nat} {F : Nat → Prop} (h : (tlA (O := O) p D).rel F w) : ∃ (b off c c' : Nat) (z : Option Addr), w.heap[p]? = some (.cells #[.int .i64 D, .slice (some ⟨b, off, none⟩) (D + 1) c] 161 (0, 0)) ∧ w.cell? ⟨b, off, none⟩ = some (.slice z 0 c') := by
 obtain ⟨v, G1, -, ⟨-, hb⟩, G2, -, ho, -⟩ := h; obtain ⟨a, c, rfl, -, -⟩ := sliceR.form (Own.slice ho); have hl : (List.replicate (D + 1) ([] : List Int)).length = D + 1 := List.length_replicate; rw [hl] at hb
 obtain ⟨b, off, es, rfl, -, -, hes, hc⟩ := sliceR.at (Own.slice ho) 0 (by rw [hl]; omega)
 have hz : (List.replicate (D + 1) ([] : List Int))[0]'(by rw [hl]; omega) = [] := by simp
 rw [hz] at hes; obtain ⟨z, len, c', rfl, h1, -⟩ := hes
 simp only [List.length_nil] at h1
 subst h1; have h0 := hc 0 _ rfl
 exact ⟨b, off, c, c', z, hb, by simpa using h0⟩
theorem tlNewI_any (hf : Fr (O := O) [] (fun _ => False) w w) (d : Int) (h1 : 1 ≤ d) (h2 : d ≤ 12) : Calls Tryz.prog 40 #[.int .i64 d] w fun e w' => ∃ p, e = .returned (.tuple #[.pointer (some ⟨p, 0, none⟩), .int .i64 0]) ∧ Fr [tlA (O := O) p d.toNat] (fun _ => False) w w' := by
 obtain ⟨D, rfl⟩ : ∃ D : Nat, d = D := Int.eq_ofNat_of_zero_le (by omega)
 rw [Int.toNat_natCast]
 exact tlNew_any hf D (by omega) (by omega)
theorem tlCount_any {p D : Nat} {F : Nat → Prop} (w : World) (h : (tlA (O := O) p D).rel F w) (h1 : 1 ≤ D) (h2 : D ≤ 12) : Calls Tryz.prog 47 #[.pointer (some ⟨p, 0, none⟩)] w fun e w' => e = .returned (.int .i64 0) ∧ Below w.heap.size w w' := by
 obtain ⟨b, off, c, c', z, hb, hz⟩ := tl_parts h; obtain ⟨x0, x1⟩ := box_cells hb
 have d1 : decide ((D : Int) < 1) = false := decide_eq_false (by omega)
 have d2 : (0 : Int) < (D : Int) + 1 := by omega
 clear h hb h1 h2
 go_enter Tryz.func47, Tryz.ntmps47
 go_wp2_with fail; go_ret
 exact ⟨rfl, Below.refl _ _⟩
set_option maxHeartbeats 1000000 in
theorem walNew_any (hf : Fr (O := O) [] (fun _ => False) w w) (op : Nat) (ideal : Bool) (st : Int) (ho : OrAt ideal st op w) (r : RuM) (hru : rulesE r.mode r.depth r.bl r.bu r.qu r.rew r.win r.fin r.work = 0) (him : (r.mode == 3) = ideal) (seed : Int) (hs : okU seed) :
   Calls Tryz.prog 26 #[.pointer (some ⟨op, 0, none⟩), .agg #[.int .i64 r.mode, .int .i64 r.depth, .int .i64 r.bl, .int .i64 r.bu, .int .i64 r.qu, .int .u64 r.rew, .int .i64 r.win, .int .i64 r.fin, .int .u64 r.work], .int .u64 seed] w fun e w' => ∃ p, e = .returned (.tuple #[.pointer (some ⟨p, 0, none⟩), .int .i64 0]) ∧ Fr [walA (O := O) p op r (seed % 18446744069414584321) 0] (fun _ => False) w w' := by
 have hdep : 1 ≤ r.depth ∧ r.depth ≤ 12 := rules_depth hru; have HD := Lib.hid hdep; have htm : seed.tmod 18446744069414584321 = seed % 18446744069414584321 := Int.tmod_eq_emod_of_nonneg (okU_in hs).1
 have hsb : okU (seed % 18446744069414584321) := okU_of (by have := (okU_in hs).1; omega) (by omega)
 have HSB := Lib.hid hsb; have HM := Lib.hid htm; have HO := Lib.hid ho; have HRU := Lib.hid hru; have hfa := (hf.new (A := ownA scR 0 439 (.slice none 0 0) []) (Below.refl _ _) (Own.nil _ _ _ _ _)).alloc #[.int .i64 r.mode, .int .i64 r.depth, .int .i64 r.bl, .int .i64 r.bu, .int .i64 r.qu, .int .u64 r.rew, .int .i64 r.win, .int .i64 r.fin, .int .u64 r.work] 26; have HF := Lib.hid hfa; have HOA := Lib.hid (ho.keepB (bnew (Below.refl w.heap.size w) (.cells #[.int .i64 r.mode, .int .i64 r.depth, .int .i64 r.bl, .int .i64 r.bu, .int .i64 r.qu, .int .u64 r.rew, .int .i64 r.win, .int .i64 r.fin, .int .u64 r.work] 26))); clear hf ho hru hs htm hsb hdep hfa
 go_enter Tryz.func26, Tryz.ntmps26
 go_upto_region 1 with (fail)
 obtain ⟨W, hW⟩ : ∃ x, w.alloc (.cells #[.int .i64 r.mode, .int .i64 r.depth, .int .i64 r.bl, .int .i64 r.bu, .int .i64 r.qu, .int .u64 r.rew, .int .i64 r.win, .int .i64 r.fin, .int .u64 r.work] 26) = x := ⟨_, rfl⟩; obtain ⟨B, hB⟩ : ∃ x, w.heap.size = x := ⟨_, rfl⟩; rw [hW, hB] at HF; rw [hW] at HOA; rw [hW, hB]; have HFW := HF; clear HF hW hB
 go_wp2_with (refine wpList_load_row rfl _ _ rfl B rfl _ _ _ _ (HFW.out.box i0) Tryz.underlying26 rfl (by kernel_rfl) ?_)
 refine (rules_any r.mode r.depth r.bl r.bu r.qu r.rew r.win r.fin r.work W).mono ?_
 rintro e w1 ⟨rfl, hb1⟩; rw [HRU.out]; have HF1 := Lib.hid (HFW.out.keepB hb1); have HO1 := Lib.hid (HOA.out.keepB hb1); clear hb1 HFW HOA HO
 -- MARK1
 have hc : ∀ (d : Nat) (os : Array Obj), Calls Tryz.prog 21 #[.pointer (some ⟨op, 0, none⟩)] (grow (redrawn w1 d) os) fun e w' => e = .returned (.bool ideal) ∧ Below (grow (redrawn w1 d) os).heap.size (grow (redrawn w1 d) os) w' := fun d os =>
   (isIdeal_any _ op _ st (HO1.out.keepB (below_regrown w1 d os))).mono fun _ _ h => ⟨h.1, by rw [← h.2]; exact Below.refl _ _⟩
 have x0 := box_regrown (HF1.out.box i0); go_wp2_with fail
 refine wp_region_quiet_below (by kernel_rfl) (by kernel_rfl) ?_
 repeat (first | go_big_quiet_step (exact Calls.regrown_of (hc _ _)) | quiet_step (exact Calls.regrown_of (hc _ _)))
 refine wpQuiet_nil ?_
 intro w2 hw'
 obtain ⟨⟨dq, osq⟩, hw''⟩ := hw'; have hbw2 := below_regrown w1 dq osq; rw [← hw''] at hbw2; clear hw'' x0 hc; have HF2 := Lib.hid (HF1.out.keepB hbw2); clear hbw2 HF1 HO1; have x0 := (box_cells (HF2.out.box i0)).1
 -- MARK2
 go_wp2_with fail
 refine (tlNewI_any HF2.out.start r.depth HD.out.1 HD.out.2).mono ?_
 rintro e w3 ⟨lp, rfl, hf3⟩; have HF3 := Lib.hid (HF2.out.join hf3); clear hf3 HF2 x0
 go_upto_region 10 with (fail)
 rw [HM.out]
 -- MARK3
 have HFwg00 := Lib.hid (HF3.out.drew); have hS0 : Hid ((Held [(B, #[.int .i64 r.mode, .int .i64 r.depth, .int .i64 r.bl, .int .i64 r.bu, .int .i64 r.qu, .int .u64 r.rew, .int .i64 r.win, .int .i64 r.fin, .int .u64 r.work], 26)] []) w3.drew) := Held.keepB (⟨⟨HF3.out.box i1, trivial⟩, trivial⟩) (Below.refl _ _).drew
 refine wp_region_held_drew (S := (Held [(B, #[.int .i64 r.mode, .int .i64 r.depth, .int .i64 r.bl, .int .i64 r.bu, .int .i64 r.qu, .int .u64 r.rew, .int .i64 r.win, .int .i64 r.fin, .int .u64 r.work], 26)] [])) (by kernel_rfl) hS0.out (fun hHeld => ?_)
 obtain ⟨wg0, hwd⟩ : ∃ x, w3.drew = x := ⟨_, rfl⟩; rw [hwd] at hHeld HFwg00 ⊢; have HFwg0 := HFwg00; clear hwd HFwg00 hS0
 go_simp
 refine tkV 0 rfl (fun wz hSz => by go_simp; all_goals with_reducible rfl) ?_
 go_simp
 refine tkY 1 rfl (yieldsIf_load_mid (by rfl) _ _ rfl (B) 0 rfl [.int .i64 r.mode, .int .i64 r.depth, .int .i64 r.bl, .int .i64 r.bu, .int .i64 r.qu, .int .u64 r.rew, .int .i64 r.win, .int .i64 r.fin, .int .u64 r.work] _ (fun wz hSz => range_box hSz.b.1) Tryz.underlying26 rfl (by kernel_rfl)) ?_
 go_simp
 refine tkV 2 rfl (fun wz hSz => by go_simp; all_goals with_reducible rfl) ?_
 go_simp
 refine tkV 3 rfl (fun wz hSz => by go_simp; all_goals with_reducible rfl) ?_
 go_simp
 refine tkV 5 rfl (fun wz hSz => by go_simp; all_goals with_reducible rfl) ?_
 go_simp
 refine rd1 4 rfl (fun K hK => ?_)
 go_simp
 refine (spend_any wg0 (seed % 18446744069414584321) HSB.out).mono ?_
 rintro E wg1 ⟨rfl, hb⟩; have HFwg1 := Lib.hid (HFwg0.out.keepB hb); clear hHeld hb
 refine hK.out _ _ (⟨⟨HFwg1.out.box i1, trivial⟩, trivial⟩) (fun hHeld => ?_)
 clear hK K
 go_simp
 refine tkV 6 rfl (fun wz hSz => by go_simp; all_goals with_reducible rfl) ?_
 go_simp
 refine rd1 7 rfl (fun K hK => ?_)
 go_simp
 have hfa := HFwg1.out.alloc #[.pointer (some ⟨op, 0, none⟩), .int .i64 r.mode, .int .i64 r.depth, .int .i64 r.bl, .int .i64 r.bu, .int .i64 r.qu, .int .u64 r.rew, .int .i64 r.win, .int .i64 r.fin, .int .u64 r.work, .int .u64 (seed % 18446744069414584321), .int .u64 (hashS 8 [seed % 18446744069414584321]), .pointer (some ⟨lp, 0, none⟩), .slice none 0 0, .slice none 0 0] 92; obtain ⟨bw, hbn⟩ : ∃ x, wg1.heap.size = x := ⟨_, rfl⟩; rw [hbn] at hfa
 try rw [hbn]
 obtain ⟨wg2, hw⟩ : ∃ x, wg1.alloc (.cells #[.pointer (some ⟨op, 0, none⟩), .int .i64 r.mode, .int .i64 r.depth, .int .i64 r.bl, .int .i64 r.bu, .int .i64 r.qu, .int .u64 r.rew, .int .i64 r.win, .int .i64 r.fin, .int .u64 r.work, .int .u64 (seed % 18446744069414584321), .int .u64 (hashS 8 [seed % 18446744069414584321]), .pointer (some ⟨lp, 0, none⟩), .slice none 0 0, .slice none 0 0] 92) = x := ⟨_, rfl⟩; rw [hw] at hfa ⊢; have HFwg2 := Lib.hid hfa; clear hHeld hfa hw hbn
 refine hK.out _ _ (⟨⟨HFwg2.out.box i2, trivial⟩, trivial⟩) (fun hHeld => ?_)
 clear hK K
 go_simp
 refine tkV 8 rfl (fun wz hSz => by go_simp; all_goals with_reducible rfl) ?_
 go_simp
 refine tkV 9 rfl (fun wz hSz => by go_simp; all_goals with_reducible rfl) ?_
 go_simp
 clear hHeld
 refine wpAnyH_done (by kernel_rfl) ?_ _
 go_wp2_with fail; go_ret2
 exact ⟨bw, rfl, (HFwg2.out.drop i2).done fun F h => ⟨(lp, .slice none 0 0), h⟩⟩
end
end Go.Proofs.YtphacfkcifpobaaGreatDoor
/- The network's own functions: what each returns and what becomes of memory. -/
namespace Go.Proofs.YtphacfkcifpobaaGreatDoor
open Go.ChangeShapes Go.WideShapes Go.ChangeAt Go.RowKit
structure Msg where
 kind : Int
 frm : Int
 «to» : Int
 bytes : List Int
def msgR : Rep Msg := mapR (fun m => (m.kind, m.frm, m.to, m.bytes)) (pairR (intR .i64) (pairR (intR .i64) (pairR (intR .i64) bytesR)))
theorem msgR.n : msgR.n = 4 := rfl
theorem msgR.inv {S : Nat → Prop} {w : World} {cs : List Value} {m : Msg} (h : msgR.rel S w cs m) :
   ∃ v, cs = [.int .i64 m.kind, .int .i64 m.frm, .int .i64 m.to, v] ∧ (Lit.int .i64 m.kind).wf = true ∧ (Lit.int .i64 m.frm).wf = true ∧ (Lit.int .i64 m.to).wf = true ∧ bytesR.rel S w [v] m.bytes := by
 obtain ⟨c1, c2, rfl, h1, d1, d2, rfl, h2, e1, e2, rfl, h3, h4⟩ := h; have hl := bytesR.len h4; obtain ⟨rfl, w1⟩ := h1; obtain ⟨rfl, w2⟩ := h2; obtain ⟨rfl, w3⟩ := h3
 match e2, hl with
 | [v], _ => exact ⟨v, rfl, w1, w2, w3, h4⟩
theorem msgR.mk {S : Nat → Prop} {w : World} {m : Msg} {v : Value} (h1 : (Lit.int .i64 m.kind).wf = true) (h2 : (Lit.int .i64 m.frm).wf = true) (h3 : (Lit.int .i64 m.to).wf = true) (h4 : bytesR.rel S w [v] m.bytes) :
   msgR.rel S w [.int .i64 m.kind, .int .i64 m.frm, .int .i64 m.to, v] m :=
 ⟨[.int .i64 m.kind], _, rfl, ⟨rfl, h1⟩, [.int .i64 m.frm], _, rfl, ⟨rfl, h2⟩, [.int .i64 m.to], [v], rfl, ⟨rfl, h3⟩, h4⟩
theorem Tryz.etyMsgs : ElemTy Tryz.prog 41 145 4 48 := ElemTy.of Tryz.underlying41 (z := .agg #[.int .i64 0, .int .i64 0, .int .i64 0, .slice none 0 0]) (by kernel_rfl) rfl (by omega)
set_option maxHeartbeats 400000 in
theorem cloneBytes (S : Nat → Prop) (w : World) (v : Value) (xs : List Int) (h : bytesR.rel S w [v] xs) (hl : xs.length ≤ 4194304) :
   Calls Tryz.prog 103 #[v] w (GivesS (intR .u8) (fun k => w.heap.size ≤ k) xs w) := by
 obtain ⟨a, cap, rfl, h1, h2⟩ := sliceR.form h
 cases a with
 | none =>
   obtain ⟨_, _, _, h4⟩ := sliceR.lens h; have hc := h4 rfl; subst hc
   have hx : xs = [] := List.eq_nil_of_length_eq_zero (by omega)
   subst hx
   have ke := fun w => Lib.run_eql_slice_nil (P := Tryz.prog) w
   go_enter Tryz.func103, Tryz.ntmps103
   go_wp2
   go_ret
   exact GivesS.mk sliceR.nil (Below.refl _ _)
 | some ad =>
   have ke := fun w => Lib.run_eql_slice_nil (P := Tryz.prog) w
   have hb0 : Below w.heap.size w (w.alloc (.cells #[] 5)) := bnew (Below.refl _ _) _; have hown := Own.empty (intR .u8) w.heap.size 5 (w := w.alloc (.cells #[] 5)) (heap_alloc_new w _) (Nat.le_refl _)
   have hsrc := (Src.of_slice (bytesR.keepB h hb0)).plain (Plain.int .u8) (S' := fun _ => False)
   go_enter Tryz.func103, Tryz.ntmps103
   go_wp2_with (at_builtin; refine wpList_append_rel rfl _ _ rfl Tryz.etyBytes rfl rfl hown hsrc ?_ ?_ ?_ ?_ ?_ ?_)
   · intro k _ h; exact h.elim
   · intro k _ h; exact h
   · unfold maxLen; simp; omega
   · simp; omega
   · simp
   intro v' w1 ho hk _
   go_wp2
   go_ret
   refine GivesS.mk ?_ ?_
   · have := bytesR.mono ho.slice (S' := fun k => w.heap.size ≤ k) (by
       rintro k _ (h | h)
       · omega
       · have : (w.alloc (.cells #[] 5)).heap.size = w.heap.size + 1 := by simp
         omega)
     simpa using this
   · exact Kept.behind hb0 hk (by simp) (fun k hk h => by simp [Value.ownBlock] at h; omega)
set_option maxHeartbeats 400000 in
theorem cloneMsg (S : Nat → Prop) (w : World) (cs : List Value) (m : Msg) (h : msgR.rel S w cs m) (hl : m.bytes.length ≤ 4194304) :
   Calls Tryz.prog 165 #[.agg cs.toArray] w (GivesA msgR (fun k => w.heap.size ≤ k) m w) := by
 obtain ⟨v, rfl, h1, h2, h3, h4⟩ := msgR.inv h; have hb0 : Below w.heap.size w ((w.alloc (.cells #[.int .i64 m.kind, .int .i64 m.frm, .int .i64 m.to, v] 145)).alloc (.cells #[.int .i64 0, .int .i64 0, .int .i64 0, .slice none 0 0] 145)) := bnew (bnew (Below.refl _ _) _) _
 go_enter Tryz.func165, Tryz.ntmps165
 go_wp2_with fail
 refine (cloneBytes S _ _ _ (bytesR.keepB h4 hb0) hl).mono ?_
 rintro e w1 ⟨a1, c1, rfl, hv1, hb1⟩; obtain ⟨hc, hf⟩ := box_cells (box_after hb1 (box_old (box_new w _)))
 obtain ⟨hc2, hf2⟩ := box_cells (b := w.heap.size + 1) (box_after hb1 (by rw [← World.size_alloc w (.cells #[.int .i64 m.kind, .int .i64 m.frm, .int .i64 m.to, v] 145)]; exact box_new _ _))
 go_wp2_with fail
 refine bodyPost_ret (v := .agg #[.int .i64 m.kind, .int .i64 m.frm, .int .i64 m.to, .slice a1 m.bytes.length c1]) (by simp [results, Tryz.results165, go_sem, hc2]) rfl ⟨[.int .i64 m.kind, .int .i64 m.frm, .int .i64 m.to, .slice a1 m.bytes.length c1], rfl, msgR.mk h1 h2 h3 ?_, ?_⟩
 · refine bytesR.mono (bytesR.keep hv1 (((((Kept.refl _ _).setCell ?_ _).setCell ?_ _).setCell ?_ _).setCell ?_ _ |>.setCell ?_ _)) ?_
   all_goals simp
   all_goals omega
 · exact (((((bnext hb0 hb1).setCell (by simp) _).setCell (by simp) _).setCell (by simp) _).setCell (by simp) _).setCell (by simp) _
def NetAt (O : Nat → Prop) (w : World) (p : Nat) (nodes : Int) (ms : List Msg) : Prop :=
 O p ∧ 1 ≤ nodes ∧ nodes ≤ 64 ∧ ms.length ≤ 4096 ∧ (∀ m ∈ ms, 0 ≤ m.frm ∧ m.frm < nodes ∧ 0 ≤ m.to ∧ m.to < nodes ∧ m.bytes.length ≤ 4194304) ∧
 ∃ v, w.heap[p]? = some (.cells #[.int .i64 nodes, v] 75 (0, 0)) ∧ Own msgR 0 145 (fun k => O k ∧ k ≠ p) w v ms
theorem NetAt.keep {O : Nat → Prop} {w w' : World} {p : Nat} {nodes : Int} {ms : List Msg} (h : NetAt O w p nodes ms) (hk : Kept O w w') : NetAt O w' p nodes ms := by
 obtain ⟨h1, h2, h3, h4, h5, v, h6, h7⟩ := h
 exact ⟨h1, h2, h3, h4, h5, v, box_kept hk h6 h1, h7.keep (hk.mono fun k _ h => h.1)⟩
theorem NetAt.mono {O O' : Nat → Prop} {w : World} {p : Nat} {nodes : Int} {ms : List Msg} (h : NetAt O w p nodes ms) (hO : ∀ k, k < w.heap.size → O k → O' k) : NetAt O' w p nodes ms := by
 obtain ⟨h1, h2, h3, h4, h5, v, h6, h7⟩ := h
 exact ⟨hO p (box_lt h6) h1, h2, h3, h4, h5, v, h6, h7.mono fun k hk h => ⟨hO k hk h.1, h.2⟩⟩
def fitsB (nodes : Int) (n : Nat) (m : Msg) : Bool := decide (0 ≤ m.frm ∧ m.frm < nodes ∧ 0 ≤ m.to ∧ m.to < nodes ∧ m.bytes.length ≤ 4194304 ∧ n < 4096)
def addL (nodes : Int) (ms : List Msg) (m : Msg) : List Msg := if fitsB nodes ms.length m = true then ms ++ [m] else ms
def NetRet (O : Nat → Prop) (p : Nat) (nodes : Int) (v : Value) (ms' : List Msg) (w : World) (e : Ending) (w' : World) : Prop :=
 e = .returned v ∧ NetAt (fun k => O k ∨ w.heap.size ≤ k) w' p nodes ms' ∧ Kept (fun k => ¬ O k) w w'
def Touch (w : World) (p k : Nat) : Prop := k = p ∨ ∃ n v, w.heap[p]? = some (.cells #[n, v] 75 (0, 0)) ∧ v.ownBlock = some k
def NetRet2 (O : Nat → Prop) (p : Nat) (nodes : Int) (v : Value) (ms' : List Msg) (w : World) (e : Ending) (w' : World) : Prop :=
 NetRet O p nodes v ms' w e w' ∧ Kept (fun k => ¬ Touch w p k) w w'
theorem netRet_same {O : Nat → Prop} {w w' : World} {p : Nat} {nodes : Int} {ms : List Msg} {v : Value} (hn : NetAt O w p nodes ms) (hb : Below w.heap.size w w') :
   NetRet O p nodes v ms w (.returned v) w' :=
 ⟨rfl, (hn.keep (Kept.of_below hb)).mono fun _ _ h => .inl h, Kept.of_below hb⟩
theorem netAdd_no {O : Nat → Prop} {w w' : World} {p : Nat} {nodes : Int} {ms : List Msg} {m : Msg} (hn : NetAt O w p nodes ms) (hb : Below w.heap.size w w') (hf : Hid (fitsB nodes ms.length m = false)) :
   NetRet2 O p nodes (.bool (fitsB nodes ms.length m)) (addL nodes ms m) w (.returned (.bool false)) w' := by
 unfold addL
 rw [hf.out, if_neg (by simp)]
 exact ⟨netRet_same hn hb, Kept.of_below hb⟩
set_option maxHeartbeats 1000000 in
theorem netAdd_false (O S : Nat → Prop) (w : World) (p : Nat) (nodes : Int) (ms : List Msg) (cs : List Value) (m : Msg) (hn : NetAt O w p nodes ms) (hm : msgR.rel S w cs m) (hf : fitsB nodes ms.length m = false) :
   Calls Tryz.prog 106 #[.pointer (some ⟨p, 0, none⟩), .agg cs.toArray] w (NetRet2 O p nodes (.bool (fitsB nodes ms.length m)) (addL nodes ms m) w) := by
 obtain ⟨v, rfl, h1, h2, h3, h4⟩ := msgR.inv hm; obtain ⟨a, cap, rfl, g1, g2⟩ := sliceR.form h4; obtain ⟨n1, n2, n3, n4, n5, nv, n6, n7⟩ := id hn; obtain ⟨na, ncap, rfl, g3, g4⟩ := sliceR.form n7.slice; have hp := box_lt n6; obtain ⟨kc, kf⟩ := box_cells n6; have kc0 := kc 0; have kc1 := kc 1
 simp at kc0 kc1
 have HF := Lib.hid hf
 have hff : ¬ (0 ≤ m.frm ∧ m.frm < nodes ∧ 0 ≤ m.to ∧ m.to < nodes ∧ m.bytes.length ≤ 4194304 ∧ ms.length < 4096) := by
   unfold fitsB at hf; exact of_decide_eq_false hf
 unfold maxLen at g2 g4; clear kc hf n5 n7 hm h4; have hb : Below w.heap.size w (w.alloc (.cells #[.int .i64 m.kind, .int .i64 m.frm, .int .i64 m.to, .slice a m.bytes.length cap] 145)) := bnew (Below.refl _ _) _
 by_cases f1 : m.frm < 0
 · clear hff
   have d1 : decide (m.frm < 0) = true := by simpa using f1
   go_enter Tryz.func106, Tryz.ntmps106
   go_wp2_with fail
   go_quiet (fail)
   go_wp2_with fail; go_ret
   exact netAdd_no hn (by repeat (first | exact hb | refine bdrewN ?_ _)) HF
 have d1 : decide (m.frm < 0) = false := by simpa using f1
 by_cases f2 : nodes ≤ m.frm
 · clear hff
   go_enter Tryz.func106, Tryz.ntmps106
   go_wp2_with fail
   go_quiet (fail)
   go_wp2_with fail; go_ret
   exact netAdd_no hn (by repeat (first | exact hb | refine bdrewN ?_ _)) HF
 by_cases f3 : m.to < 0
 · clear hff
   have d3 : decide (m.to < 0) = true := by simpa using f3
   go_enter Tryz.func106, Tryz.ntmps106
   go_wp2_with fail
   go_quiet (fail)
   go_wp2_with fail
   go_quiet (fail)
   go_wp2_with fail; go_ret
   exact netAdd_no hn (by repeat (first | exact hb | refine bdrewN ?_ _)) HF
 have d3 : decide (m.to < 0) = false := by simpa using f3
 by_cases f4 : nodes ≤ m.to
 · clear hff
   go_enter Tryz.func106, Tryz.ntmps106
   go_wp2_with fail
   go_quiet (fail)
   go_wp2_with fail
   go_quiet (fail)
   go_wp2_with fail; go_ret
   exact netAdd_no hn (by repeat (first | exact hb | refine bdrewN ?_ _)) HF
 by_cases f5 : 4194304 < m.bytes.length
 · clear hff
   go_enter Tryz.func106, Tryz.ntmps106
   go_wp2_with fail
   go_quiet (fail)
   go_wp2_with fail
   go_quiet (fail)
   go_wp2_with fail; go_ret
   exact netAdd_no hn (by repeat (first | exact hb | refine bdrewN ?_ _)) HF
 have f6 : 4096 ≤ ms.length := by omega
 clear hff
 go_enter Tryz.func106, Tryz.ntmps106
 go_wp2_with fail
 go_quiet (fail)
 go_wp2_with fail
 go_quiet (fail)
 go_wp2_with fail; go_ret
 exact netAdd_no hn (by repeat (first | exact hb | refine bdrewN ?_ _)) HF
end Go.Proofs.YtphacfkcifpobaaGreatDoor
/- The network's own functions, continued. -/
namespace Go.Proofs.YtphacfkcifpobaaGreatDoor
open Go.ChangeShapes Go.WideShapes Go.ChangeAt Go.RowKit
theorem netAdd_yes {O : Nat → Prop} {w wA w2 : World} {p : Nat} {nodes : Int} {ms : List Msg} {m : Msg} {v v2 : Value} (hn : NetAt O w p nodes ms)
   (n6 : w.heap[p]? = some (.cells #[.int .i64 nodes, v] 75 (0, 0))) (n7 : Own msgR 0 145 (fun k => O k ∧ k ≠ p) w v ms) (hf : fitsB nodes ms.length m = true)
   (hbA : Below w.heap.size w wA) (hk2 : Kept (fun k => v.ownBlock ≠ some k) wA w2) (ho2 : Own msgR 0 145 (fun k => (O k ∧ k ≠ p ∨ w.heap.size ≤ k) ∨ wA.heap.size ≤ k) w2 v2 (ms ++ [m])) :
   NetRet2 O p nodes (.bool (fitsB nodes ms.length m)) (addL nodes ms m) w (.returned (.bool true)) (w2.setCell ⟨p, 1, none⟩ v2) := by
 obtain ⟨n1, n2, n3, n4, n5, -⟩ := hn
 obtain ⟨f1, f2, f3, f4, f5, f6⟩ : 0 ≤ m.frm ∧ m.frm < nodes ∧ 0 ≤ m.to ∧ m.to < nodes ∧ m.bytes.length ≤ 4194304 ∧ ms.length < 4096 := by
   unfold fitsB at hf; exact of_decide_eq_true hf
 have hp := box_lt n6; have hpA := box_after hbA n6; have hz := hbA.size
 have hp2 := box_kept hk2 hpA (fun h => (n7.lt h).2.1.2 rfl)
 unfold addL; rw [hf, if_pos rfl]
 refine ⟨⟨rfl, ⟨.inl n1, n2, n3, by simp; omega, ?_, v2, by simpa using box_set (i := 1) (v := v2) hp2, ?_⟩, ?_⟩, ?_⟩
 · intro x hx
   rcases List.mem_append.1 hx with h | h
   · exact n5 x h
   · simp at h; subst h; exact ⟨f1, f2, f3, f4, f5⟩
 · refine (ho2.mono (F' := fun k => (O k ∨ w.heap.size ≤ k) ∧ k ≠ p) ?_).keep ((Kept.refl _ _).setCell ?_ _)
   · rintro k - ((⟨h1, h2⟩ | h) | h)
     · exact ⟨.inl h1, h2⟩
     · exact ⟨.inr h, by omega⟩
     · exact ⟨.inr (by omega), by omega⟩
   · rintro - ⟨-, h⟩; exact h rfl
 · refine ((Kept.of_below hbA).trans hk2 ?_).setCell ?_ _
   · intro k _ hk h; exact hk (n7.lt h).2.1.1
   · intro _ h; exact h n1
 · refine ((Kept.of_below hbA).trans hk2 ?_).setCell ?_ _
   · intro k _ hk h; exact hk (.inr ⟨_, _, n6, h⟩)
   · intro _ h; exact h (.inl rfl)
set_option maxHeartbeats 1000000 in
theorem netAdd_true (O S : Nat → Prop) (w : World) (p : Nat) (nodes : Int) (ms : List Msg) (cs : List Value) (m : Msg) (hn : NetAt O w p nodes ms) (hm : msgR.rel S w cs m) (hf : fitsB nodes ms.length m = true) :
   Calls Tryz.prog 106 #[.pointer (some ⟨p, 0, none⟩), .agg cs.toArray] w (NetRet2 O p nodes (.bool (fitsB nodes ms.length m)) (addL nodes ms m) w) := by
 obtain ⟨v, rfl, h1, h2, h3, h4⟩ := msgR.inv hm; obtain ⟨a, cap, rfl, g1, g2⟩ := sliceR.form h4; obtain ⟨n1, n2, n3, n4, n5, nv, n6, n7⟩ := id hn; obtain ⟨na, ncap, rfl, g3, g4⟩ := sliceR.form n7.slice; have hp := box_lt n6; obtain ⟨kc, kf⟩ := box_cells n6; have kc0 := kc 0; have kc1 := kc 1
 simp at kc0 kc1
 have HF := Lib.hid hf
 obtain ⟨f1, f2, f3, f4, f5, f6⟩ : 0 ≤ m.frm ∧ m.frm < nodes ∧ 0 ≤ m.to ∧ m.to < nodes ∧ m.bytes.length ≤ 4194304 ∧ ms.length < 4096 := by
   unfold fitsB at hf; exact of_decide_eq_true hf
 unfold maxLen at g2 g4; clear kc hf n5; have hb : Below w.heap.size w (w.alloc (.cells #[.int .i64 m.kind, .int .i64 m.frm, .int .i64 m.to, .slice a m.bytes.length cap] 145)) := bnew (Below.refl _ _) _
 have d1 : decide (m.frm < 0) = false := by simpa using f1
 have d3 : decide (m.to < 0) = false := by simpa using f3
 go_enter Tryz.func106, Tryz.ntmps106
 go_wp2_with fail
 go_quiet (fail)
 go_wp2_with fail
 go_quiet (fail)
 go_wp2_with fail; generalize hW : (w.alloc (.cells #[.int .i64 m.kind, .int .i64 m.frm, .int .i64 m.to, .slice a m.bytes.length cap] 145)).drewN (_ + _) = W
 have HB0 : Below w.heap.size w W := by rw [← hW]; exact bdrewN hb _
 have HB : Below w.heap.size w W.drew := HB0.drew
 have HX : W.heap[w.heap.size]? = some (.cells #[.int .i64 m.kind, .int .i64 m.frm, .int .i64 m.to, .slice a m.bytes.length cap] 145) := by rw [← hW]; exact box_new w _
 have hz : w.heap.size < W.heap.size := box_lt HX; obtain ⟨xc, xf⟩ := box_cells HX; have HP := box_after HB0 n6; obtain ⟨pc, pf⟩ := box_cells HP
 have n7a : Own msgR 0 145 (fun k => (O k ∧ k ≠ p) ∨ w.heap.size ≤ k) W.drew (.slice na ms.length ncap) ms := (n7.keepB HB).mono fun _ _ h => .inl h
 have hlt := fun k (hk : Value.ownBlock (.slice na ms.length ncap) = some k) => (n7.lt hk).1
 have HLT := Lib.hid hlt
 have HNE : Hid (Value.ownBlock (.slice na ms.length ncap) ≠ some p) := fun h => (n7.lt h).2.1.2 rfl
 clear hW kc0 kc1 kf hlt
 go_region_law (first
   | (refine step_append_rel (r := msgR) (v := .slice na ms.length ncap) (u := .slice (some ⟨w1.heap.size, 0, none⟩) 1 1) rfl _ _ rfl Tryz.etyMsgs rfl rfl (n7a.keepB (bnew hb1 _)) (Src.one (msgR.keepB hv1 (bnew (Below.refl _ _) _)) (CellsAt.new w1 _ 145)) (fun k _ h => .inr (Nat.le_trans HB0.size h)) (fun k hk h => absurd (HLT.out k hk) (Nat.not_lt.2 (Nat.le_trans HB0.size h))) (by unfold maxLen; simp; omega) (by simp; omega) (Nat.zero_le _) ?_; intro v2 w2 ho2 hk2 hl2; obtain ⟨a2, cap2, rfl, -, -⟩ := sliceR.form ho2.slice; obtain ⟨pc2, pf2⟩ := box_cells (box_kept hk2 (box_old (box_after (W := W.drew) hb1 HP)) HNE.out))
   | (go_simp; go_at_call 165; refine (cloneMsg S _ _ m (msgR.keepB hm HB) f5).mono ?_; rintro e w1 ⟨cs1, rfl, hv1, hb1⟩; obtain ⟨v1, rfl, -⟩ := msgR.inv hv1; obtain ⟨pc1, pf1⟩ := box_cells (box_after (W := W.drew) hb1 HP); have pa1 := fun o' => (box_cells (box_old (o' := o') (box_after (W := W.drew) hb1 HP))).1))
 all_goals go_wp2_with fail
 all_goals go_ret
 all_goals exact netAdd_yes hn n6 n7 HF.out (bnew (bnext HB hb1) _) hk2 (by simpa using ho2)
theorem netAdd_any (O S : Nat → Prop) (w : World) (p : Nat) (nodes : Int) (ms : List Msg) (cs : List Value) (m : Msg) (hn : NetAt O w p nodes ms) (hm : msgR.rel S w cs m) :
   Calls Tryz.prog 106 #[.pointer (some ⟨p, 0, none⟩), .agg cs.toArray] w (NetRet2 O p nodes (.bool (fitsB nodes ms.length m)) (addL nodes ms m) w) := by
 cases hf : fitsB nodes ms.length m with
 | true => rw [← hf]; exact netAdd_true O S w p nodes ms cs m hn hm hf
 | false => rw [← hf]; exact netAdd_false O S w p nodes ms cs m hn hm hf
end Go.Proofs.YtphacfkcifpobaaGreatDoor
