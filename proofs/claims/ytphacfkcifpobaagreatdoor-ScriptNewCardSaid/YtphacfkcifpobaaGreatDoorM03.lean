/- Rows of numbers: made, copied, read. Nothing of the program is named here; no conditions. -/
import Derived.Test.YtphacfkcifpobaaGreatDoorM01
import Derived.Laws.CopyOwn
import Derived.Test.YtphacfkcifpobaaGreatDoorM02
import Derived.Lib.QuietBelow
import Derived.StillTail
set_option maxRecDepth 100000
namespace Go.Proofs.YtphacfkcifpobaaGreatDoor
open Go.ChangeShapes Go.WideShapes Go.ChangeAt Go.RowKit
theorem flatten_ones {α β : Type} (f : α → β) : ∀ xs : List α, (xs.map fun x => [f x]).flatten = xs.map f
 | [] => rfl
 | x :: xs => by simp [flatten_ones f xs]
theorem own_ints {k : IntKind} {base : Nat} {e : TypeId} {w : World} {g cap : Nat} {xs : List Int} {cur : List Value} (hg : w.heap[g]? = some (.cells cur.toArray e (0, 0))) (hsz : cur.length = cap) (ht : cur.take xs.length = xs.map (Value.int k))
   (hwf : ∀ x ∈ xs, (Lit.int k x).wf = true) (hle : xs.length ≤ cap) (hm : cap ≤ maxLen) (hb : base ≤ g) : Own (intR k) base e (fun x => False ∨ base ≤ x) w (.slice (some ⟨g, 0, none⟩) xs.length cap) xs := by
 refine Row.own (S := fun _ => False) ⟨cur.toArray, xs.map (fun x => [.int k x]), hg, by simp [hsz, intR], by simp, fun i cs x hc hx => ?_, ?_, hle, fun h => h, fun _ h => h.elim⟩ (fun _ h => h.elim) (.inr hb) hb hm
 · rw [List.getElem?_map, hx] at hc
   simp at hc
   subst hc
   exact ⟨rfl, hwf x (List.mem_of_getElem? hx)⟩
 · rw [flatten_ones]
   simpa [intR] using ht
theorem ints_cells {k : IntKind} {S : Nat → Prop} {w : World} {a : Option Addr} {len cap : Nat} {xs : List Int} (h : (sliceR (intR k)).rel S w [.slice a len cap] xs) (h0 : 0 < xs.length) :
   ∃ ad, a = some ad ∧ ∀ j v, (xs.map (Value.int k))[j]? = some v → w.cell? (ad.add j) = some v := by
 obtain ⟨b, off, es, rfl, -, -, -, -⟩ := sliceR.at h 0 h0
 refine ⟨_, rfl, fun j v hj => ?_⟩
 rw [List.getElem?_map] at hj; obtain ⟨x, hx, rfl⟩ := Option.map_eq_some_iff.1 hj; obtain ⟨hjl, rfl⟩ := List.getElem?_eq_some_iff.1 hx; obtain ⟨b', off', es, he, -, -, ⟨rfl, -⟩, hca⟩ := sliceR.at h j hjl
 simp at he
 obtain ⟨rfl, rfl⟩ := he; rw [Addr.add_lit]; have := hca 0 _ rfl
 simpa [intR] using this
theorem ints_wf {k : IntKind} {S : Nat → Prop} {w : World} {a : Option Addr} {len cap : Nat} {xs : List Int} (h : (sliceR (intR k)).rel S w [.slice a len cap] xs) : ∀ x ∈ xs, (Lit.int k x).wf = true := by
 intro x hx
 obtain ⟨j, hj, rfl⟩ := List.getElem_of_mem hx; obtain ⟨b', off', es, he, -, -, ⟨rfl, hw⟩, hca⟩ := sliceR.at h j hj
 exact hw
theorem wpList_make_lc {P : Program} {w : World} {ops : Array Oper} {rest : List Oper} {o : Oper} {a : Act} {Q : Exit → Act → World → Prop} (hg : o.guard = none) (l c : Operand) {t : TypeId} (hop : o.op = Op.makeSlice t l c)
   {e : TypeId} {bytes : Nat} (hT : ElemTy P t e 1 bytes) {kl kc : IntKind} {L C : Int} {n m : Nat} (hl : a.eval l = .int kl L) (hc : a.eval c = .int kc C) (hL : L = (n : Int)) (hC : C = (m : Int)) (hnm : n ≤ m)
   (b2 : bytes * m ≤ 281474976710656) (b3 : m ≤ maxLen)
   (hK : ∀ cur : List Value, cur.length = m → ∀ w', w'.heap[w.heap.size]? = some (.cells cur.toArray e (0, 0)) → Below w.heap.size w w' → w'.heap.size = w.heap.size + 1 → wpList P ops Q rest (a.put o.dst (.slice (some ⟨w.heap.size, 0, none⟩) n m)) w') :
   wpList P ops Q (o :: rest) a w := by
 obtain ⟨ht, hn, i, z, hi, hz, hsize, hby, hzs⟩ := hT
 refine wpList_plain hg fun K hK' => ?_
 subst hL hC
 have h63 : (m : Int) ≤ 9223372036854775807 := by unfold maxLen at b3; omega
 have hb' : (i.bytes : Int) * (m : Int) ≤ 281474976710656 := by
   have h : ((i.bytes * m : Nat) : Int) ≤ 281474976710656 := by rw [hby]; omega
   rwa [Int.natCast_mul] at h
 have hr := run_make (P := P) w t e i z ht hi hz kl kc n m (by omega) (by omega) hb' h63
 simp only [Int.toNat_natCast, hsize, Nat.mul_one] at hr
 unfold Oper.wp
 simp [execOp, hop, hl, hc, hr, Result.andThen]
 refine hK' _ _ (hK (madeCells z.cells m).toList (by simp [size_madeCells]) _ ?_ (bnew (Below.refl _ _) _) (by simp))
 have := box_new w (.cells (madeCells z.cells m) e)
 simpa using this
theorem wpList_make_cells {P : Program} {w : World} {ops : Array Oper} {rest : List Oper} {o : Oper} {a : Act} {Q : Exit → Act → World → Prop} (hg : o.guard = none) (l c : Operand) {t : TypeId} (hop : o.op = Op.makeSlice t l c)
   {e : TypeId} {bytes : Nat} (hT : ElemTy P t e 1 bytes) {z : Value} (hzz : (P.info? e).map (·.zero) = some (some z)) {kl kc : IntKind} {L C : Int} {n : Nat} (hl : a.eval l = .int kl L) (hc : a.eval c = .int kc C) (hL : L = (n : Int)) (hC : C = (n : Int))
   (b2 : bytes * n ≤ 281474976710656) (b3 : n ≤ maxLen)
   (hK : wpList P ops Q rest (a.put o.dst (.slice (some ⟨w.heap.size, 0, none⟩) n n)) (w.alloc (.cells (madeCells z.cells n).toList.toArray e))) :
   wpList P ops Q (o :: rest) a w := by
 obtain ⟨ht, hn, i, z', hi, hz, hsize, hby, hzs⟩ := hT
 obtain rfl : z' = z := by rw [hi] at hzz; simp only [Option.map_some, Option.some.injEq] at hzz; rw [hz] at hzz; exact Option.some.inj hzz
 refine wpList_plain hg fun K hK' => ?_
 subst hL hC
 have h63 : (n : Int) ≤ 9223372036854775807 := by unfold maxLen at b3; omega
 have hb' : (i.bytes : Int) * (n : Int) ≤ 281474976710656 := by
   have h : ((i.bytes * n : Nat) : Int) ≤ 281474976710656 := by rw [hby]; omega
   rwa [Int.natCast_mul] at h
 have hr := run_make (P := P) w t e i z' ht hi hz kl kc n n (by omega) (Int.le_refl _) hb' h63
 simp only [Int.toNat_natCast, hsize, Nat.mul_one] at hr
 unfold Oper.wp
 simp [execOp, hop, hl, hc, hr, Result.andThen]
 exact hK' _ _ (by simpa using hK)
end Go.Proofs.YtphacfkcifpobaaGreatDoor
/- Pushing one element onto an owned row. Nothing of the program is named here; no conditions. -/
namespace Go.Proofs.YtphacfkcifpobaaGreatDoor
open Go.ChangeShapes Go.WideShapes Go.ChangeAt Go.RowKit
theorem wpList_push {P : Program} {ops : Array Oper} {rest : List Oper} {o : Oper} {a : Act} {Q : Exit → Act → World → Prop} (hgd : o.guard = none) (s x : Operand) {t : TypeId}
   (ho : o.op = .call { callee := .builtin .append, args := #[s, x], argTypes := #[t, t] }) {α : Type} {r : Rep α} {e : TypeId} {bytes : Nat} (hT : ElemTy P t e r.n bytes) {S T : Nat → Prop} {B : Nat} {w0 wr : World} {v : Value} {xs : List α} {es : List Value} {y : α}
   (hs : a.eval s = v) (hx : a.eval x = .slice (some ⟨wr.heap.size, 0, none⟩) 1 1)
   (hbr : Below B w0 wr) (hB : B ≤ wr.heap.size) (hor : Own r B e (fun x => S x ∨ B ≤ x) wr v xs) (hy : r.rel T wr es y) (hTS : ∀ k, T k → (S k ∨ B ≤ k) ∧ v.ownBlock ≠ some k)
   (h63 : xs.length + 1 ≤ maxLen) (hbytes : (xs.length + 1) * bytes ≤ 140737488355328)
   (hK : ∀ v' w', Own r B e (fun x => S x ∨ B ≤ x) w' v' (xs ++ [y]) → Below B w0 w' → wpList P ops Q rest (a.put o.dst v') w') :
   wpList P ops Q (o :: rest) a (wr.alloc (.cells es.toArray e)) := by
 have hbn := bnew (Below.refl wr.heap.size wr) (.cells es.toArray e)
 refine wpList_append_rel (ys := [y]) hgd s x ho hT hs hx (hor.keepB hbn) (Src.one (r.keepB hy hbn) (CellsAt.new wr es e)) (fun k _ hk => (hTS k hk).1) (fun k hk h => (hTS k h).2 hk) h63 hbytes (by simp; omega) fun v' w' ho' hk' _ => hK v' w' ?_ ?_
 · refine ho'.mono fun k _ h => ?_
   rcases h with h | h
   · exact h
   · simp at h; exact .inr (by omega)
 · exact Kept.behind (hbr.trans (hbn.mono hB)) hk' (by simp; omega) fun k hk h => by have := (hor.lt h).2.2; omega
end Go.Proofs.YtphacfkcifpobaaGreatDoor
/- The writing functions of the wire. -/
namespace Go.Proofs.YtphacfkcifpobaaGreatDoor
open Go.ChangeShapes Go.WideShapes Go.ChangeAt Go.RowKit
def digs : Nat → Int → List Int
 | 0, _ => []
 | k + 1, n => n % 256 :: digs k (n / 256)
theorem digs_len : ∀ k n, (digs k n).length = k
 | 0, _ => rfl
 | k + 1, n => by simp [digs, digs_len k]
abbrev u8R : Rep Int := intR .u8
theorem Tryz.etyBytes : ElemTy Tryz.prog 49 5 1 1 := ElemTy.of Tryz.underlying49 (z := .int .u8 0) (by kernel_rfl) rfl (by omega)
theorem Tryz.etyNums : ElemTy Tryz.prog 86 24 1 8 := ElemTy.of Tryz.underlying86 (z := .int .u64 0) (by kernel_rfl) rfl (by omega)
def GrewTo (B : Nat) (w0 : World) (ys : List Int) (e : Ending) (w' : World) : Prop :=
 ∃ v', e = .returned v' ∧ Own u8R B 5 (fun x => False ∨ B ≤ x) w' v' ys ∧ Below B w0 w'
set_option maxHeartbeats 1000000 in
theorem appendDigits_any (w0 w : World) (B : Nat) (hb : Below B w0 w) (hB0 : B ≤ w0.heap.size) (v : Value) (xs : List Int) (ho : Own u8R B 5 (fun x => False ∨ B ≤ x) w v xs) (n : Int) (n0 : 0 ≤ n) (n1 : n < 18446744073709551616) (size : Nat) (hs : size ≤ 8)
   (hl : xs.length ≤ 1000000000) : Calls Tryz.prog 46 #[v, .int .u64 n, .int .i64 size] w (GrewTo B w0 (xs ++ digs size n)) := by
 go_enter Tryz.func46, Tryz.ntmps46
 go_wp2_with fail
 go_loopw [0, 1, 8] (fun vb vn vi wr => ∃ (k : Nat) (m : Int) (ys : List Int), k ≤ size ∧ vi = .int .i64 k ∧ vn = .int .u64 m ∧ 0 ≤ m ∧ m < 18446744073709551616 ∧ ys.length = xs.length + k ∧ Hid (ys ++ digs (size - k) m = xs ++ digs size n) ∧
     Own u8R B 5 (fun x => False ∨ B ≤ x) wr vb ys ∧ Below B w0 wr ∧ B ≤ wr.heap.size) (fun _ _ vi _ => size - (intOf vi).toNat)
 case atStart => exact ⟨0, n, xs, Nat.zero_le _, rfl, rfl, n0, n1, rfl, rfl, ho, hb, Nat.le_trans hB0 hb.size⟩
 case round =>
   obtain ⟨k, m, ys, hk, rfl, rfl, m0, m1, hyl, hinv, hor, hbr, hBr⟩ := hrel; have HYL := Lib.hid hyl; clear hyl
   by_cases hlt : k < size
   · have HI : Hid ((ys ++ [m % 256]) ++ digs (size - (k + 1)) (m / 256) = xs ++ digs size n) := by
       show _ = _
       rw [← hinv.out, List.append_assoc, show size - k = (size - (k + 1)) + 1 by omega]
       rfl
     have hwf : (Lit.int .u8 (m % 256)).wf = true := by
       simp [Lit.wf, IntKind.min, IntKind.max, IntKind.signed, IntKind.bits]; omega
     have hyR : u8R.rel (fun _ => False) wr [.int .u8 (m % 256)] (m % 256) := ⟨rfl, hwf⟩
     have HO := Lib.hid hor; have HY := Lib.hid hyR
     have e2 : 0 ≤ m / 256 := by omega
     have e3 : m / 256 < 18446744073709551616 := by omega
     clear hor hyR hwf
     go_wp2_with (at_builtin; refine wpList_push (r := u8R) (wr := wr) (es := [.int .u8 (m % 256)]) (v := u0) (w0 := w0) (B := B) rfl _ _ rfl Tryz.etyBytes rfl rfl hbr hBr HO.out HY.out (fun x hx => hx.elim) (by unfold maxLen; have := HYL.out; omega) (by have := HYL.out; omega) ?_)
     intro v2 w2 ho2 hb2
     have HZ := Lib.hid (Own.mono ho2 (F' := fun x => False ∨ B ≤ x) fun x _ h => by first | exact h | exact .inr h)
     have hB2 : B ≤ w2.heap.size := Nat.le_trans hB0 hb2.size; clear ho2; go_wp2_with fail
     go_roundw
     case rel => exact ⟨k + 1, m / 256, ys ++ [m % 256], by omega, by go_num, rfl, e2, e3, by rw [List.length_append, HYL.out]; simp; omega, HI, HZ.out, hb2, hB2⟩
     case measure => simp [intOf]; omega
   · obtain rfl : k = size := by omega
     have HF : Hid (ys = xs ++ digs k n) := by
       show _ = _
       rw [← hinv.out, Nat.sub_self]; simp [digs]
     go_wp2_with fail; go_ret
     exact ⟨_, rfl, by rw [← HF.out]; exact hor, hbr⟩
end Go.Proofs.YtphacfkcifpobaaGreatDoor
/- The tests of numbers, notes and transactions. -/
namespace Go.Proofs.YtphacfkcifpobaaGreatDoor
open Go.ChangeShapes Go.WideShapes Go.ChangeAt Go.RowKit
def allUp (p : Nat → Bool) : Nat → Bool
 | 0 => true
 | k + 1 => allUp p k && p k
theorem allUp_false {p : Nat → Bool} {k : Nat} (hp : p k = false) : ∀ {n : Nat}, k < n → allUp p n = false
 | 0, h => absurd h (Nat.not_lt_zero _)
 | n + 1, h => by
   unfold allUp
   rcases Nat.lt_or_ge k n with h1 | h1
   · rw [allUp_false hp h1]; rfl
   · obtain rfl : k = n := by omega
     rw [hp, Bool.and_false]
theorem allUp_step {p : Nat → Bool} {k : Nat} (h : allUp p k = true) (hp : p k = true) : allUp p (k + 1) = true := by
 unfold allUp; rw [h, hp]; rfl
def elemB (n : Int) : Bool := decide (n < 18446744069414584321)
def elemsB (l : List Int) : Bool := allUp (fun k => elemB (l.getD k 0)) l.length
theorem getD_at {α : Type} (l : List α) (d : α) (k : Nat) (h : k < l.length) : l.getD k d = l[k] := by simp [h]
theorem nums_new (w : World) (t : TypeId) (l : List Int) (cap : Nat) (hl : ∀ x ∈ l, okU x) (hc : l.length ≤ cap) (hm : cap ≤ maxLen) : numsR.rel (fun _ => True) (w.alloc (.cells (l.map (Value.int .u64)).toArray t)) [.slice (some ⟨w.heap.size, 0, none⟩) l.length cap] l := by
 refine ⟨_, _, _, rfl, rfl, hc, hm, (fun h => by cases h), fun i x hx => ⟨w.heap.size, 0, [.int .u64 x], rfl, trivial, ⟨rfl, hl x (List.mem_of_getElem? hx)⟩, fun j c hj => ?_, by simp⟩⟩
 have hb := (box_cells (box_new w (.cells (l.map (Value.int .u64)).toArray t))).1; rw [hb]
 match j, hj with
 | 0, hj =>
   simp at hj
   subst hj
   simp [intR, hx]
set_option maxHeartbeats 1000000 in
theorem elements_any (S : Nat → Prop) (w : World) (a : Option Addr) (cap : Nat) (l : List Int) (h : numsR.rel S w [.slice a l.length cap] l) :
   Calls Tryz.prog 341 #[.slice a l.length cap] w fun e w' => e = .returned (.bool (elemsB l)) ∧ Below w.heap.size w w' := by
 have g1 := (sliceR.lens h).2; unfold maxLen at g1; have H := Lib.hid h; clear h
 go_enter Tryz.func341, Tryz.ntmps341
 go_wp2_with fail
 go_loop [7] (fun i => ∃ k : Nat, k ≤ l.length ∧ i = .int .i64 k ∧ Hid (allUp (fun k => elemB (l.getD k 0)) k = true)) (fun i => l.length - (intOf i).toNat)
 case atStart => exact ⟨0, Nat.zero_le _, rfl, rfl⟩
 case round =>
   obtain ⟨k, hk, rfl, hall⟩ := hrel
   by_cases hlt : k < l.length
   · obtain ⟨b, off, rfl, hbl, n0, n1, hc⟩ := nums_at H.out k hlt
     have hg := Lib.hid (getD_at l 0 k hlt); generalize l[k] = n at *
     by_cases hp : n < 18446744069414584321
     · have HY : Hid (allUp (fun k => elemB (l.getD k 0)) (k + 1) = true) := allUp_step hall.out (by rw [hg.out]; exact decide_eq_true hp)
       go_wp2_with fail
       go_round
       case rel => exact ⟨k + 1, by omega, by go_num, HY⟩
       case measure => simp [intOf]; omega
     · have HF : Hid (elemsB l = false) := allUp_false (k := k) (by rw [hg.out]; exact decide_eq_false hp) hlt
       go_wp2_with fail; go_ret
       exact ⟨ret_bool HF.out.symm, Below.refl _ _⟩
   · obtain rfl : k = l.length := by omega
     have HF : Hid (elemsB l = true) := hall; go_wp2_with fail; go_ret
     exact ⟨ret_bool HF.out.symm, Below.refl _ _⟩
set_option maxHeartbeats 1000000 in
theorem oelements_any (S : Nat → Prop) (w : World) (a : Option Addr) (cap : Nat) (l : List Int) (h : numsR.rel S w [.slice a l.length cap] l) :
   Calls Tryz.prog 333 #[.slice a l.length cap] w fun e w' => e = .returned (.bool (elemsB l)) ∧ Below w.heap.size w w' := by
 have g1 := (sliceR.lens h).2; unfold maxLen at g1; have H := Lib.hid h; clear h
 go_enter Tryz.func333, Tryz.ntmps333
 go_wp2_with fail
 go_loop [7] (fun i => ∃ k : Nat, k ≤ l.length ∧ i = .int .i64 k ∧ Hid (allUp (fun k => elemB (l.getD k 0)) k = true)) (fun i => l.length - (intOf i).toNat)
 case atStart => exact ⟨0, Nat.zero_le _, rfl, rfl⟩
 case round =>
   obtain ⟨k, hk, rfl, hall⟩ := hrel
   by_cases hlt : k < l.length
   · obtain ⟨b, off, rfl, hbl, n0, n1, hc⟩ := nums_at H.out k hlt
     have hg := Lib.hid (getD_at l 0 k hlt); generalize l[k] = n at *
     by_cases hp : n < 18446744069414584321
     · have HY : Hid (allUp (fun k => elemB (l.getD k 0)) (k + 1) = true) := allUp_step hall.out (by rw [hg.out]; exact decide_eq_true hp)
       go_wp2_with fail
       go_round
       case rel => exact ⟨k + 1, by omega, by go_num, HY⟩
       case measure => simp [intOf]; omega
     · have HF : Hid (elemsB l = false) := allUp_false (k := k) (by rw [hg.out]; exact decide_eq_false hp) hlt
       go_wp2_with fail; go_ret
       exact ⟨ret_bool HF.out.symm, Below.refl _ _⟩
   · obtain rfl : k = l.length := by omega
     have HF : Hid (elemsB l = true) := hall; go_wp2_with fail; go_ret
     exact ⟨ret_bool HF.out.symm, Below.refl _ _⟩
def noteB (n : NoteM) : Bool := decide (n.value ≤ 4294967295 ∧ n.owner < 18446744069414584321 ∧ n.rho < 18446744069414584321 ∧ n.blind < 18446744069414584321)
set_option maxHeartbeats 1000000 in
theorem noteValid_any (w : World) (n : NoteM) : Calls Tryz.prog 328 #[.agg #[.int .u64 n.value, .int .u64 n.owner, .int .u64 n.rho, .int .u64 n.blind]] w fun e w' => e = .returned (.bool (noteB n)) ∧ Below w.heap.size w w' := by
 go_enter Tryz.func328, Tryz.ntmps328
 go_wp2_with fail
 all_goals go_ret
 all_goals refine ⟨ret_bool ?_, (Below.refl _ _).alloc (Nat.le_refl _) _⟩
 all_goals unfold noteB
 all_goals first
   | exact (decide_eq_true (by omega)).symm
   | exact (decide_eq_false (by omega)).symm
   | exact decide_eq_decide.2 (by omega)
def groupB (x y : Int) : Bool := decide (x < 18446744069414584321 ∧ y < 18446744069414584321 ∧ (x ≠ 0 ∨ y ≠ 0))
set_option maxHeartbeats 1000000 in
theorem groupValid_any (w : World) (x y : Int) : Calls Tryz.prog 230 #[.agg #[.int .u64 x, .int .u64 y]] w fun e w' => e = .returned (.bool (groupB x y)) ∧ Below w.heap.size w w' := by
 go_enter Tryz.func230, Tryz.ntmps230
 go_wp2_with fail
 all_goals go_ret
 all_goals refine ⟨ret_bool ?_, (Below.refl _ _).alloc (Nat.le_refl _) _⟩
 all_goals unfold groupB
 all_goals first
   | exact (decide_eq_true (by omega)).symm
   | exact (decide_eq_false (by omega)).symm
   | exact decide_eq_decide.2 (by omega)
   | (rw [Bool.eq_iff_iff]; simp; omega)
def amountsB (t : TxM) : Bool :=
 decide ((t.dep ≤ 4294967295 ∧ t.wd ≤ 4294967295 ∧ t.fee ≤ 4294967295) ∧ (t.acc < 18446744069414584321 ∧ t.nonce < 18446744069414584321) ∧ (0 < t.dep → t.wd = 0) ∧ (¬ 0 < t.dep → (t.marks.length ≠ 0 ∧ t.nonce = 0) ∧ (0 < t.wd ∨ t.acc = 0)))
set_option maxHeartbeats 2000000 in
theorem amounts_any (S : Nat → Prop) (w : World) (t : TxM) (ma oa pa : Option Addr) (mc oc pc : Nat) (h : TxIn S w t ma oa pa mc oc pc) :
   Calls Tryz.prog 255 #[.agg #[.int .u64 t.anchor, .slice ma t.marks.length mc, .slice oa t.outs.length oc, .int .u64 t.dep, .int .u64 t.wd, .int .u64 t.fee, .int .u64 t.acc, .int .u64 t.nonce, .int .i64 t.exp, .slice pa t.proof.length pc]] w fun e w' => e = .returned (.bool (amountsB t)) ∧ Below w.heap.size w w' := by
 have d1 := okU_in h.dep; have d2 := okU_in h.wd; have d3 := okU_in h.acc; have d4 := okU_in h.nonce; clear h; unfold amountsB; generalize t.marks.length = ml
 go_enter Tryz.func255, Tryz.ntmps255
 go_wp2_with fail
 all_goals go_ret
 all_goals refine ⟨ret_bool ?_, (Below.refl _ _).alloc (Nat.le_refl _) _⟩
 all_goals first
   | exact (decide_eq_true (by omega)).symm
   | exact (decide_eq_false (by omega)).symm
   | exact decide_eq_decide.2 (by omega)
   | (rw [Bool.eq_iff_iff]; simp; omega)
   | (simp only [beq_iff_eq, bne_iff_ne, beq_eq_false_iff_ne, bne_eq_false_iff_eq, ne_eq] at * <;> first | exact (decide_eq_true (by omega)).symm | exact (decide_eq_false (by omega)).symm | (rw [Bool.eq_iff_iff]; simp; done) | (rw [Bool.eq_iff_iff]; simp; omega))
end Go.Proofs.YtphacfkcifpobaaGreatDoor
/- Transactions: what is well-formed. -/
namespace Go.Proofs.YtphacfkcifpobaaGreatDoor
open Go.ChangeShapes Go.WideShapes Go.ChangeAt Go.RowKit
theorem slice_take {α : Type} {r : Rep α} {S : Nat → Prop} {w : World} {a : Option Addr} {len cap : Nat} {l : List α} (h : (sliceR r).rel S w [.slice a len cap] l) (k : Nat) (hk : k ≤ l.length) : (sliceR r).rel S w [.slice a k cap] (l.take k) := by
 obtain ⟨a', len', cap', hv, h1, h2, h3, h4, h5⟩ := h
 simp at hv
 obtain ⟨rfl, rfl, rfl⟩ := hv
 refine ⟨a, k, cap, rfl, by simp [hk], by omega, h3, h4, fun i x hx => h5 i x ?_⟩
 rw [List.getElem?_take] at hx
 split at hx
 · exact hx
 · simp at hx
def hasUp (l : List Int) (x : Int) : Nat → Bool
 | 0 => false
 | k + 1 => hasUp l x k || (x == l.getD k 0)
theorem hasUp_true {l : List Int} {x : Int} {k : Nat} (hx : (x == l.getD k 0) = true) : ∀ {n : Nat}, k < n → hasUp l x n = true
 | 0, h => absurd h (Nat.not_lt_zero _)
 | n + 1, h => by
   unfold hasUp
   rcases Nat.lt_or_ge k n with h1 | h1
   · rw [hasUp_true hx h1]; rfl
   · obtain rfl : k = n := by omega
     rw [hx, Bool.or_true]
theorem hasUp_take {l : List Int} {x : Int} {k : Nat} (hk : k ≤ l.length) : ∀ n, n ≤ k → hasUp (l.take k) x n = hasUp l x n
 | 0, _ => rfl
 | n + 1, h => by
   unfold hasUp
   rw [hasUp_take hk n (by omega), getD_at (l.take k) 0 n (by simp; omega), getD_at l 0 n (by omega)]
   simp
def hasB (l : List Int) (x : Int) : Bool := hasUp l x l.length
theorem hasB_take (l : List Int) (x : Int) (k : Nat) (hk : k ≤ l.length) : hasB (l.take k) x = hasUp l x k := by
 unfold hasB; rw [List.length_take, Nat.min_eq_left hk]
 exact hasUp_take hk k (Nat.le_refl _)
set_option maxHeartbeats 1000000 in
theorem index_any (S : Nat → Prop) (w : World) (a : Option Addr) (cap : Nat) (l : List Int) (h : numsR.rel S w [.slice a l.length cap] l) (x : Int) :
   Calls Tryz.prog 275 #[.slice a l.length cap, .int .u64 x] w fun e w' => (∃ i : Int, e = .returned (.int .i64 i) ∧ (0 ≤ i ↔ hasB l x = true)) ∧ Below w.heap.size w w' := by
 have g1 := (sliceR.lens h).2; unfold maxLen at g1; have H := Lib.hid h; clear h
 go_enter Tryz.func275, Tryz.ntmps275
 go_wp2_with fail
 go_loop [8] (fun i => ∃ k : Nat, k ≤ l.length ∧ i = .int .i64 k ∧ Hid (hasUp l x k = false)) (fun i => l.length - (intOf i).toNat)
 case atStart => exact ⟨0, Nat.zero_le _, rfl, rfl⟩
 case round =>
   obtain ⟨k, hk, rfl, hall⟩ := hrel
   by_cases hlt : k < l.length
   · obtain ⟨b, off, rfl, hbl, n0, n1, hc⟩ := nums_at H.out k hlt
     have hg := Lib.hid (getD_at l 0 k hlt); generalize l[k] = n at *
     by_cases hp : x = n
     · have hpb : (x == n) = true := by simp [hp]
       have HF : Hid (hasB l x = true) := hasUp_true (k := k) (by rw [hg.out]; exact hpb) hlt
       subst hp; go_wp2_with fail; go_ret
       exact ⟨⟨_, rfl, fun _ => HF.out, fun _ => by omega⟩, Below.refl _ _⟩
     · have hpb : (x == n) = false := by simp [hp]
       have HY : Hid (hasUp l x (k + 1) = false) := by show _ = _; unfold hasUp; rw [hg.out, hall.out, hpb]; rfl
       go_wp2_with fail
       go_round
       case rel => exact ⟨k + 1, by omega, by go_num, HY⟩
       case measure => simp [intOf]; omega
   · obtain rfl : k = l.length := by omega
     have HF : Hid (hasB l x = false) := hall; go_wp2_with fail; go_ret
     exact ⟨⟨-1, rfl, fun h => by omega, fun h => by rw [HF.out] at h; cases h⟩, Below.refl _ _⟩
theorem contains_any (S : Nat → Prop) (w : World) (a : Option Addr) (cap : Nat) (l : List Int) (len : Nat) (hlen : len = l.length) (h : numsR.rel S w [.slice a len cap] l) (x : Int) :
   Calls Tryz.prog 214 #[.slice a len cap, .int .u64 x] w fun e w' => e = .returned (.bool (hasB l x)) ∧ Below w.heap.size w w' := by
 subst hlen
 go_enter Tryz.func214, Tryz.ntmps214
 go_wp2_with fail
 refine (index_any S w a cap l h x).mono ?_
 rintro e w1 ⟨⟨i, rfl, hi⟩, hb⟩; have HI := Lib.hid hi; clear hi; go_wp2_with fail; go_ret
 refine ⟨ret_bool ?_, hb⟩
 rw [Bool.eq_iff_iff, decide_eq_true_eq]
 exact HI.out
def markB (l : List Int) (k : Nat) : Bool := elemB (l.getD k 0) && !hasUp l (l.getD k 0) k
def marksB (l : List Int) : Bool := decide (l.length ≤ 4) && allUp (markB l) l.length
set_option maxHeartbeats 2000000 in
theorem validMarks_any (S : Nat → Prop) (w : World) (a : Option Addr) (cap : Nat) (l : List Int) (h : numsR.rel S w [.slice a l.length cap] l) :
   Calls Tryz.prog 253 #[.slice a l.length cap] w fun e w' => e = .returned (.bool (marksB l)) ∧ Below w.heap.size w w' := by
 have g1 := (sliceR.lens h).2; unfold maxLen at g1; have H := Lib.hid h; clear h
 by_cases h4 : 4 < l.length
 · have HF : Hid (marksB l = false) := by show _ = _; unfold marksB; rw [decide_eq_false (by omega)]; rfl
   go_enter Tryz.func253, Tryz.ntmps253
   go_wp2_with fail; go_ret
   exact ⟨ret_bool HF.out.symm, Below.refl _ _⟩
 · have HM : Hid (marksB l = allUp (markB l) l.length) := by show _ = _; unfold marksB; rw [decide_eq_true (by omega)]; rfl
   go_enter Tryz.func253, Tryz.ntmps253
   go_wp2_with fail
   go_loopw [10] (fun i wr => ∃ k : Nat, k ≤ l.length ∧ i = .int .i64 k ∧ Hid (allUp (markB l) k = true) ∧ Below w.heap.size w wr) (fun i _ => l.length - (intOf i).toNat)
   case atStart => exact ⟨0, Nat.zero_le _, rfl, rfl, Below.refl _ _⟩
   case round =>
     obtain ⟨k, hk, rfl, hall, hbr⟩ := hrel
     by_cases hlt : k < l.length
     · have hrl := numsR.keepB H.out hbr
       have HT := Lib.hid (slice_take hrl k (by omega))
       obtain ⟨b, off, rfl, hbl, n0, n1, hc⟩ := nums_at hrl k hlt; have hg := Lib.hid (getD_at l 0 k hlt)
       have hmk : Hid (markB l k = (elemB l[k] && !hasUp l l[k] k)) := by show _ = _; unfold markB; rw [hg.out]
       have htl : k = (l.take k).length := by simp; omega
       have HTL := Lib.hid htl
       have HH := Lib.hid (fun x => hasB_take l x k (by omega))
       clear htl hg hrl; generalize l[k] = n at *
       by_cases hp : n < 18446744069414584321
       · go_wp2_with fail
         refine (contains_any S wr _ cap (l.take k) k HTL.out HT.out n).mono ?_
         rintro e w1 ⟨rfl, hb1⟩; rw [HH.out n]
         cases hcn : hasUp l n k with
         | true =>
           have HF : Hid (marksB l = false) := by
             show _ = _; rw [HM.out]; exact allUp_false (k := k) (by rw [hmk.out, hcn]; simp) hlt
           go_wp2_with fail; go_ret
           exact ⟨ret_bool HF.out.symm, bnext hbr hb1⟩
         | false =>
           have HY : Hid (allUp (markB l) (k + 1) = true) := allUp_step hall.out (by rw [hmk.out, hcn]; unfold elemB; rw [decide_eq_true hp]; rfl)
           go_wp2_with fail
           go_roundw
           case rel => exact ⟨k + 1, by omega, by go_num, HY, bnext hbr hb1⟩
           case measure => simp [intOf]; omega
       · have HF : Hid (marksB l = false) := by
           show _ = _; rw [HM.out]; exact allUp_false (k := k) (by rw [hmk.out]; unfold elemB; rw [decide_eq_false hp]; rfl) hlt
         go_wp2_with fail; go_ret
         exact ⟨ret_bool HF.out.symm, hbr⟩
     · obtain rfl : k = l.length := by omega
       have HF : Hid (marksB l = true) := by show _ = _; rw [HM.out]; exact hall.out
       go_wp2_with fail; go_ret
       exact ⟨ret_bool HF.out.symm, hbr⟩
end Go.Proofs.YtphacfkcifpobaaGreatDoor
/- Transactions: outputs, what is well-formed. -/
namespace Go.Proofs.YtphacfkcifpobaaGreatDoor
open Go.ChangeShapes Go.WideShapes Go.ChangeAt Go.RowKit
def outB (o : OutM) : Bool := elemB o.commit && (groupB o.p0 o.p1 && (decide (o.cipher.length = 3) && elemsB o.cipher))
def outsB (l : List OutM) : Bool := decide (l.length ≤ 4) && l.all outB
set_option maxHeartbeats 4000000 in
theorem validOuts_any (S : Nat → Prop) (w : World) (a : Option Addr) (cap : Nat) (l : List OutM) (h : outsR.rel S w [.slice a l.length cap] l) :
   Calls Tryz.prog 254 #[.slice a l.length cap] w fun e w' => e = .returned (.bool (outsB l)) ∧ Below w.heap.size w w' := by
 have g1 := (sliceR.lens h).2; unfold maxLen at g1; have H := Lib.hid h; clear h
 by_cases h4 : 4 < l.length
 · have HF : Hid (outsB l = false) := by show _ = _; unfold outsB; rw [decide_eq_false (by omega)]; rfl
   go_enter Tryz.func254, Tryz.ntmps254
   go_wp2_with fail; go_ret
   exact ⟨ret_bool HF.out.symm, Below.refl _ _⟩
 · have HM : Hid (outsB l = l.all outB) := by show _ = _; unfold outsB; rw [decide_eq_true (by omega)]; rfl
   go_enter Tryz.func254, Tryz.ntmps254
   go_wp2_with fail
   go_loopw [12] (fun vi wr => ∃ k : Nat, k ≤ l.length ∧ vi = .int .i64 k ∧ Hid ((l.take k).all outB = true) ∧ Below w.heap.size w wr) (fun vi _ => l.length - (intOf vi).toNat)
   case atStart => exact ⟨0, Nat.zero_le _, rfl, rfl, Below.refl _ _⟩
   case round =>
     obtain ⟨k, hk, rfl, hall, hbr⟩ := hrel
     by_cases hlt : k < l.length
     · obtain ⟨b, off, ca, cc, rfl, -, hbl, k1, k2, k3, hci, c0, c1, c2, c3⟩ := outs_at (outsR.keepB H.out hbr) k hlt
       have hno := Lib.hid (all_false outB l k hlt); have hyes := Lib.hid (all_take_succ outB l k hlt); generalize l[k] = o at *; have hvl := (sliceR.lens hci).2; unfold maxLen at hvl; have hbn := bnew (Below.refl wr.heap.size wr) (.cells #[.int .u64 o.commit, .int .u64 o.p0, .int .u64 o.p1, .slice ca o.cipher.length cc] 297); have hin := box_new wr (.cells #[.int .u64 o.commit, .int .u64 o.p0, .int .u64 o.p1, .slice ca o.cipher.length cc] 297); have HCI := Lib.hid (numsR.keepB hci hbn); have hbrn := bnext hbr hbn; have HIN := Lib.hid hin; have HBN := Lib.hid hbn; have HU : Hid (outB o = (elemB o.commit && (groupB o.p0 o.p1 && (decide (o.cipher.length = 3) && elemsB o.cipher)))) := rfl; clear hci hin hbn
       by_cases hp : o.commit < 18446744069414584321
       · have HE : Hid (elemB o.commit = true) := decide_eq_true hp
         go_wp2_with fail
         refine (groupValid_any _ o.p0 o.p1).mono ?_
         rintro e w1 ⟨rfl, hb1⟩; have hbw := bnext hbrn hb1; obtain ⟨x0, x1⟩ := box_cells (box_after hb1 HIN.out)
         cases hg : groupB o.p0 o.p1 with
         | false =>
           have HF : Hid (outsB l = false) := by show _ = _; rw [HM.out]; exact hno.out (by rw [HU.out, hg]; simp)
           go_wp2_with fail; go_ret
           exact ⟨ret_bool HF.out.symm, hbw⟩
         | true =>
           by_cases hl3 : o.cipher.length = 3
           · have b3 : ((o.cipher.length : Int) == 3) = true := by rw [beq_iff_eq]; omega
             have b3' : ((o.cipher.length : Int) != 3) = false := by rw [bne_eq_false_iff_eq]; omega
             go_wp2_with fail
             go_loop [34] (fun vi => ∃ j : Nat, j ≤ o.cipher.length ∧ vi = .int .i64 j ∧ Hid (allUp (fun k => elemB (o.cipher.getD k 0)) j = true)) (fun vi => o.cipher.length - (intOf vi).toNat)
             case atStart => exact ⟨0, Nat.zero_le _, rfl, rfl⟩
             case round =>
               obtain ⟨j, hj, rfl, hal2⟩ := hrel
               by_cases hjl : j < o.cipher.length
               · obtain ⟨b', off', rfl, hbl', n0, n1, hc'⟩ := nums_at (numsR.keepB HCI.out hb1) j hjl
                 have hgd := Lib.hid (getD_at o.cipher 0 j hjl); generalize o.cipher[j] = n at *
                 by_cases hpn : n < 18446744069414584321
                 · have HY : Hid (allUp (fun k => elemB (o.cipher.getD k 0)) (j + 1) = true) := allUp_step hal2.out (by rw [hgd.out]; exact decide_eq_true hpn)
                   go_wp2_with fail
                   go_round
                   case rel => exact ⟨j + 1, by omega, by go_num, HY⟩
                   case measure => simp [intOf]; omega
                 · have HF : Hid (outsB l = false) := by
                     show _ = _
                     have : elemsB o.cipher = false := allUp_false (k := j) (by rw [hgd.out]; exact decide_eq_false hpn) hjl
                     rw [HM.out]; exact hno.out (by rw [HU.out, this]; simp)
                   go_wp2_with fail; go_ret
                   exact ⟨ret_bool HF.out.symm, hbw⟩
               · obtain rfl : j = o.cipher.length := by omega
                 have HY : Hid ((l.take (k + 1)).all outB = true) := by
                   show _ = _
                   have : elemsB o.cipher = true := hal2.out
                   rw [hyes.out, hall.out, HU.out, HE.out, hg, this, decide_eq_true hl3]; rfl
                 go_wp2_with fail
                 go_roundw
                 case rel => exact ⟨k + 1, by omega, by go_num, HY, hbw⟩
                 case measure => simp [intOf]; omega
           · have b3 : ((o.cipher.length : Int) == 3) = false := by rw [beq_eq_false_iff_ne]; omega
             have b3' : ((o.cipher.length : Int) != 3) = true := by rw [bne_iff_ne]; omega
             have HF : Hid (outsB l = false) := by show _ = _; rw [HM.out]; exact hno.out (by rw [HU.out, decide_eq_false hl3]; simp)
             go_wp2_with fail; go_ret
             exact ⟨ret_bool HF.out.symm, hbw⟩
       · have HF : Hid (outsB l = false) := by
           show _ = _
           have : elemB o.commit = false := decide_eq_false hp
           rw [HM.out]; exact hno.out (by rw [HU.out, this]; rfl)
         go_wp2_with fail; go_ret
         exact ⟨ret_bool HF.out.symm, hbrn⟩
     · obtain rfl : k = l.length := by omega
       have HF : Hid (outsB l = true) := by show _ = _; rw [HM.out]; have := hall.out; rw [List.take_length] at this; exact this
       go_wp2_with fail; go_ret
       exact ⟨ret_bool HF.out.symm, hbr⟩
def restB (t : TxM) : Bool := decide (t.anchor < 18446744069414584321 ∧ 0 ≤ t.exp ∧ t.exp ≤ 1048576)
def validE (t : TxM) : Int := if (marksB t.marks && (outsB t.outs && (amountsB t && restB t))) = true then (if t.proof.length ≤ 1048576 then 0 else 3) else 1
set_option maxHeartbeats 4000000 in
theorem txValid_any (S : Nat → Prop) (w : World) (t : TxM) (ma oa pa : Option Addr) (mc oc pc : Nat) (h : TxIn S w t ma oa pa mc oc pc) :
   Calls Tryz.prog 190 #[.agg #[.int .u64 t.anchor, .slice ma t.marks.length mc, .slice oa t.outs.length oc, .int .u64 t.dep, .int .u64 t.wd, .int .u64 t.fee, .int .u64 t.acc, .int .u64 t.nonce, .int .i64 t.exp, .slice pa t.proof.length pc]] w fun e w' => e = .returned (.int .i64 (validE t)) ∧ Below w.heap.size w w' := by
 have hb0 := bnew (Below.refl w.heap.size w) (.cells #[.int .u64 t.anchor, .slice ma t.marks.length mc, .slice oa t.outs.length oc, .int .u64 t.dep, .int .u64 t.wd, .int .u64 t.fee, .int .u64 t.acc, .int .u64 t.nonce, .int .i64 t.exp, .slice pa t.proof.length pc] 181); have HX := Lib.hid (box_new w (.cells #[.int .u64 t.anchor, .slice ma t.marks.length mc, .slice oa t.outs.length oc, .int .u64 t.dep, .int .u64 t.wd, .int .u64 t.fee, .int .u64 t.acc, .int .u64 t.nonce, .int .i64 t.exp, .slice pa t.proof.length pc] 181)); have H := Lib.hid (h.keepB hb0); have HB := Lib.hid hb0; have g1 := (sliceR.lens h.proof).2; unfold maxLen at g1; have HU : Hid (validE t = if (marksB t.marks && (outsB t.outs && (amountsB t && restB t))) = true then (if t.proof.length ≤ 1048576 then 0 else 3) else 1) := rfl; clear hb0 h
 go_enter Tryz.func190, Tryz.ntmps190
 go_wp2_with fail
 refine (validMarks_any S _ ma mc t.marks H.out.marks).mono ?_
 rintro e w1 ⟨rfl, hb1⟩; obtain ⟨x0, x1⟩ := box_cells (box_after hb1 HX.out); have hw1 := bnext HB.out hb1
 cases hv1 : marksB t.marks with
 | false =>
   have HF : Hid (validE t = 1) := by show _ = _; rw [HU.out, hv1]; rfl
   go_wp2_with fail; go_ret
   exact ⟨ret_int HF.out.symm, hw1⟩
 | true =>
   go_wp2_with fail
   refine (validOuts_any S w1 oa oc t.outs (outsR.keepB H.out.outs hb1)).mono ?_
   rintro e w2 ⟨rfl, hb2⟩; clear x0 x1; obtain ⟨x0, x1⟩ := box_cells (box_after hb2 (box_after hb1 HX.out)); have hw2 := bnext hw1 hb2
   cases hv2 : outsB t.outs with
   | false =>
     have HF : Hid (validE t = 1) := by show _ = _; rw [HU.out, hv1, hv2]; rfl
     go_wp2_with fail; go_ret
     exact ⟨ret_int HF.out.symm, hw2⟩
   | true =>
     go_wp2_with fail
     refine (amounts_any S w2 t ma oa pa mc oc pc ((H.out.keepB hb1).keepB hb2)).mono ?_
     rintro e w3 ⟨rfl, hb3⟩; clear x0 x1; obtain ⟨x0, x1⟩ := box_cells (box_after hb3 (box_after hb2 (box_after hb1 HX.out))); have hw3 := bnext hw2 hb3
     cases hv3 : amountsB t with
     | false =>
       have HF : Hid (validE t = 1) := by show _ = _; rw [HU.out, hv1, hv2, hv3]; rfl
       go_wp2_with fail; go_ret
       exact ⟨ret_int HF.out.symm, hw3⟩
     | true =>
       have HU2 : Hid (validE t = if restB t = true then (if t.proof.length ≤ 1048576 then 0 else 3) else 1) := by show _ = _; rw [HU.out, hv1, hv2, hv3]; rfl
       by_cases hr : t.anchor < 18446744069414584321 ∧ 0 ≤ t.exp ∧ t.exp ≤ 1048576
       · have HR : Hid (restB t = true) := decide_eq_true hr
         obtain ⟨r1, r2, r3⟩ := hr
         by_cases hl : t.proof.length ≤ 1048576
         · have HF : Hid (validE t = 0) := by show _ = _; rw [HU2.out, HR.out, if_pos rfl, if_pos hl]
           have hl' : ¬ (1048576 : Int) < (t.proof.length : Int) := by omega
           go_wp2_with fail; go_ret
           exact ⟨ret_int HF.out.symm, hw3⟩
         · have HF : Hid (validE t = 3) := by show _ = _; rw [HU2.out, HR.out, if_pos rfl, if_neg hl]
           have hl' : (1048576 : Int) < (t.proof.length : Int) := by omega
           go_wp2_with fail; go_ret
           exact ⟨ret_int HF.out.symm, hw3⟩
       · have HF : Hid (validE t = 1) := by
           show _ = _
           have : restB t = false := decide_eq_false hr
           rw [HU2.out, this]; rfl
         by_cases r1 : t.anchor < 18446744069414584321
         · by_cases r2 : 0 ≤ t.exp
           · have r3 : ¬ t.exp ≤ 1048576 := fun h => hr ⟨r1, r2, h⟩
             go_wp2_with fail; go_ret
             exact ⟨ret_int HF.out.symm, hw3⟩
           · go_wp2_with fail
             go_ret
             exact ⟨ret_int HF.out.symm, hw3⟩
         · go_wp2_with fail
           go_ret
           exact ⟨ret_int HF.out.symm, hw3⟩
end Go.Proofs.YtphacfkcifpobaaGreatDoor
/- Regions that draw their order: a head that only reads and allocates, then a tail in order. Nothing of the program is named here; no conditions. -/
namespace Go.Proofs.YtphacfkcifpobaaGreatDoor
open Go.RowKit Go.Sort
section
variable {P : Program} {ops : Array Oper} {md : Region.Mode} {C : World → Prop}
def headQ (P : Program) (md : Region.Mode) (ops : Array Oper) (C : World → Prop) (n : Nat) (L : Array Bool → Act → Prop) : Nat → Array Bool → Act → Prop
 | 0, listed, a => L listed a
 | f + 1, listed, a => Region.ready md ops listed ≠ [] ∧ ∀ i ∈ Region.ready md ops listed, i < n ∧ qOp P ops C i (headQ P md ops C n L f (listed.setIfInBounds i true)) a
theorem any_of_headQ {n g : Nat} {L : Array Bool → Act → Prop} {Q' : Exit → Act → World → Prop} (hL : ∀ listed a w, C w → L listed a → wpAny P md ops Q' g listed a w) :
   ∀ (f : Nat) (listed : Array Bool) (a : Act) (w : World), C w → headQ P md ops C n L f listed a → wpAny P md ops Q' (f + g) listed a w
 | 0, listed, a, w, hw, h => by rw [Nat.zero_add]; exact hL _ _ _ hw h
 | f + 1, listed, a, w, hw, h => by
   rw [show f + 1 + g = (f + g) + 1 by omega]
   exact ⟨fun h0 => absurd h0 h.1, fun i hi => wpOp_of_qOp hw (fun a' w' hw' h' => any_of_headQ hL f _ a' w' hw' h') (h.2 i hi).2⟩
theorem headQ_first {n i : Nat} {oi : Oper} {v : Value} {L : Array Bool → Act → Prop} (hi : ops[i]? = some oi) (hsel : ∀ (j : Nat) (o : Oper) cs b, ops[j]? = some o → o.op ≠ .select cs b)
   (hs : Region.sinkB md ops n = true) (hc : Region.chainB md ops n = true) (hn : n < ops.size) (hin : i < n)
   (hdone : ∀ listed a, L listed a → ∀ j ∈ Region.ready md ops listed, n ≤ j) :
   ∀ (f : Nat) (listed : Array Bool) (a : Act), HeadInv md ops n listed →
     (∀ j oj, ops[j]? = some oj → j ≠ i → listed.getD j true = false → (∀ e ∈ oj.after, Region.binds md e = true → e.on ≠ i) → oi.apart ops oj = true) →
     i ∈ Region.ready md ops listed → YieldsIn P ops C oi v a →
     headQ P md ops C n L f (listed.setIfInBounds i true) (a.put oi.dst v) → headQ P md ops C n L (f + 1) listed a := by
 have small : ∀ (listed : Array Bool), HeadInv md ops n listed → i ∈ Region.ready md ops listed → ∀ j ∈ Region.ready md ops listed, j < n := fun listed inv hr j hj => by
   rcases Nat.lt_or_ge j n with h | h
   · exact h
   · exact absurd hj (tail_waits hs hc hn inv _ i rfl hin (mem_ready.1 hr).1 j h)
 intro f
 induction f with
 | zero =>
   intro listed a inv _ hr hy H
   refine ⟨fun h => (by rw [h] at hr; cases hr), fun j hj => ⟨small listed inv hr j hj, ?_⟩⟩
   by_cases hji : j = i
   · subst hji; exact hy.qOp hi H
   · have h1 := hdone _ _ H j (ready_mono hj hji)
     have h2 := small listed inv hr j hj
     omega
 | succ f ih =>
   intro listed a inv hfree hr hy H
   have hun := (mem_ready.1 hr).1
   refine ⟨fun h => (by rw [h] at hr; cases hr), fun j hj => ⟨small listed inv hr j hj, ?_⟩⟩
   by_cases hji : j = i
   · subst hji; exact hy.qOp hi H
   · have h1 := (H.2 j (ready_mono hj hji)).2
     obtain ⟨hjun, oj, hoj, hall⟩ := mem_ready.1 hj
     have hnot : ∀ e ∈ oj.after, Region.binds md e = true → e.on ≠ i := fun e he hb heq => by
       have h1 := hall e he hb; rw [heq, getD_both hun] at h1
       cases h1
     have h2 := qOp_put hoj (hfree j oj hoj hji hjun hnot) (fun cs b => hsel i oi cs b hi) (fun cs b => hsel j oj cs b hoj) hy h1
     have hfree' : ∀ k ok, ops[k]? = some ok → k ≠ i → (listed.setIfInBounds j true).getD k true = false →
         (∀ e ∈ ok.after, Region.binds md e = true → e.on ≠ i) → oi.apart ops ok = true := fun k ok hk hki hun' hno => by
       refine hfree k ok hk hki ?_ hno
       by_cases hjk : j = k
       · subst hjk; exact hjun
       · rw [getD_set_ne true hjk] at hun'; exact hun'
     refine qOp_mono (fun a' h3 => ih (listed.setIfInBounds j true) a' (inv.set hj (small listed inv hr j hj)) hfree' (ready_mono hr (Ne.symm hji)) h3.1 ?_) h2
     rw [Array.setIfInBounds_comm _ _ hji]
     exact h3.2
theorem headQ_lex {n g : Nat} {Lq : Act → Prop} (hsel : Region.noSelect ops = true) (hs : Region.sinkB md ops n = true) (hc : Region.chainB md ops n = true) (hn : n < ops.size) :
   ∀ (l : List Oper) (k : Nat) (listed : Array Bool) (a : Act), (∀ j, j < l.length → l[j]? = ops[k + j]?) → k + l.length = n → HeadInv md ops n listed →
   Region.lexHead md ops g l.length k listed = true → wpQuiet P ops C Lq l a →
   headQ P md ops C n (fun listed' a' => Region.seqB md ops g n listed' = true ∧ Lq a') l.length listed a
 | [], k, listed, a, _, hk, _, hB, h => by
   have : k = n := by simpa using hk
   subst this
   exact ⟨by simpa [Region.lexHead] using hB, h⟩
 | o :: l, k, listed, a, hl, hk, inv, hB, h => by
   have h0 : ops[k]? = some o := by simpa using (hl 0 (by simp)).symm
   simp only [List.length_cons, Region.lexHead, Bool.and_eq_true] at hB
   obtain ⟨⟨hr, hf⟩, hB'⟩ := hB
   have hkn : k < n := by simp only [List.length_cons] at hk; omega
   have hr' : k ∈ Region.ready md ops listed := by simpa using hr
   have hst : qOp P ops C k (wpQuiet P ops C Lq l) a := by unfold qOp; simp only [h0]; exact h
   obtain ⟨v, hy, hK⟩ := yieldsIn_of_qOp h0 hst
   exact headQ_first h0 (Region.noSelect_spec hsel) hs hc hn hkn (fun listed' a' hL => seqB_ready hL.1) l.length listed a inv (Region.free_spec h0 hf) hr' hy
     (headQ_lex hsel hs hc hn l (k + 1) _ _ (fun j hj => by have := hl (j + 1) (by simp; omega); simpa [Nat.add_assoc, Nat.add_comm 1 j] using this) (by simp only [List.length_cons] at hk; omega) (inv.set hr' hkn) hB' hK)
theorem wp_region_quiet_tail {id : Nat} {Q : Exit → Act → World → Prop} {a : Act} {w : World} {l : List Oper} (n : Nat) (hm : P.follows .mixedOrders = true) (hB : Region.lexTailB .any l.toArray n = true)
   (h : wpQuiet P l.toArray (fun w' => ∃ p : Regrown, w' = grow (redrawn w p.d) p.os) (fun a' => ∀ w', (∃ p : Regrown, w' = grow (redrawn w p.d) p.os) → wpList P l.toArray Q (l.drop n) a' w') (l.take n) a) : (Code.region id l.toArray true).wp P Q a w := by
 simp only [Region.lexTailB, Bool.and_eq_true, decide_eq_true_eq] at hB
 obtain ⟨⟨⟨⟨hsel, hn⟩, hs⟩, hc⟩, hlex⟩ := hB
 have hn' : n < l.length := by simpa using hn
 have htl : (l.take n).length = n := by simp; omega
 have hdl : (l.drop n).length = l.toArray.size - n := by simp
 have inv0 : HeadInv .any l.toArray n (Array.replicate l.toArray.size false) :=
   ⟨by simp, fun j oj _ hl => (by rw [getD_replicate_false] at hl; cases hl), fun t _ ht => getD_in (by simpa using ht) (getD_replicate_false _ _)⟩
 have H := headQ_lex (md := .any) (g := l.toArray.size - n) hsel hs hc hn (l.take n) 0 _ a (fun j hj => by
   have hj' : j < n := by rw [htl] at hj; exact hj
   simp [hj']) (by simpa using htl) inv0 (by rw [htl]; exact hlex) h
 refine wp_region_any hm ?_
 have := any_of_headQ (Q' := Q) (g := l.toArray.size - n) (fun listed a' w' hw' hL => by
   have := wpAny_of_seq (md := .any) (Q' := Q) (l.drop n) n listed a' w' (fun j => by simp [List.getElem?_drop]) (by rw [hdl]; exact hL.1) (hL.2 w' hw')
   rwa [hdl] at this) _ _ _ { w with drawn := w.drawn + 1 } ⟨⟨w.drawn + 1, #[]⟩, by rw [grow_empty]; rfl⟩ H
 rw [htl, show n + (l.toArray.size - n) = l.toArray.size by omega] at this
 exact this
end
theorem box_regrown {w : World} {b : Nat} {cs : Array Value} {t : TypeId} (h : w.heap[b]? = some (.cells cs t (0, 0))) : ∀ (d : Nat) (os : Array Obj) (i : Nat), (grow (redrawn w d) os).cell? ⟨b, i, none⟩ = cs[i]? :=
 fun d os i => (box_cells (box_after (below_regrown w d os) h)).1 i
theorem cell_in {w : World} {a : Addr} {v : Value} (h : w.cell? a = some v) : ∀ (d : Nat) (os : Array Obj), (grow (redrawn w d) os).cell? a = some v := fun d os => cell_regrown h d os
end Go.Proofs.YtphacfkcifpobaaGreatDoor
