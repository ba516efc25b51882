/- The ideal oracle's draws. -/
import Derived.Test.YtdjcdejapkkcmaaGreatDoorM06
import Derived.Test.YtdjcdejapkkcmaaGreatDoorM05
import Derived.MapKept
import Derived.Test.YtdjcdejapkkcmaaGreatDoorM04
namespace Go.Proofs.YtdjcdejapkkcmaaGreatDoor
open Go.ChangeShapes Go.WideShapes Go.ChangeAt Go.RowKit

def nextS (st : Int) : Int := IntKind.u64.wrap (st + 11400714819323198485)
def mixZ (z k : Int) : Int := bits BinOp.xor IntKind.u64 z (z / k)
def drawZ (z : Int) : Int := (mixZ (IntKind.u64.wrap (mixZ (IntKind.u64.wrap (mixZ z 1073741824 * 13787848793156543929)) 134217728 * 10723151780598845931)) 2147483648).tmod 18446744069414584321
theorem wrapU_in (x : Int) : 0 ≤ IntKind.u64.wrap x ∧ IntKind.u64.wrap x < 18446744073709551616 := by rw [IntKind.wrap_u64]; omega
theorem mixZ_in (z k : Int) : 0 ≤ mixZ z k := (wrapU_in _).1
theorem drawZ_in (z : Int) : 0 ≤ drawZ z ∧ drawZ z < 18446744069414584321 := ⟨Int.tmod_nonneg _ (mixZ_in _ _), Int.tmod_lt_of_pos _ (by omega)⟩
def stN (st : Int) : Nat → Int
  | 0 => st
  | k + 1 => nextS (stN st k)
def drawsL (st : Int) : Nat → List Int
  | 0 => []
  | k + 1 => drawsL st k ++ [drawZ (nextS (stN st k))]
theorem drawsL_len (st : Int) : ∀ k, (drawsL st k).length = k
  | 0 => rfl
  | k + 1 => by simp [drawsL, drawsL_len st k]
theorem drawsL_in (st : Int) : ∀ k, ∀ x ∈ drawsL st k, 0 ≤ x ∧ x < 18446744069414584321
  | 0, x, h => by simp [drawsL] at h
  | k + 1, x, h => by
    simp only [drawsL, List.mem_append, List.mem_singleton] at h
    rcases h with h | rfl
    · exact drawsL_in st k x h
    · exact drawZ_in _
theorem drawsL_ok (st : Int) (k : Nat) : ∀ x ∈ drawsL st k, okU x := fun x h => okU_of (drawsL_in st k x h).1 (Int.lt_trans (drawsL_in st k x h).2 (by omega))

theorem nextS_ok (st : Int) : okU (nextS st) := okU_of (wrapU_in _).1 (wrapU_in _).2
theorem stN_ok {st : Int} (h : okU st) : ∀ k, okU (stN st k)
  | 0 => h
  | _ + 1 => nextS_ok _
/-- The oracle behind n draws. -/
def OrM.drew (m : OrM) (k : Nat) : OrM := { m with st := stN m.st k, n := m.n + k }
theorem OrOk.drew {m : OrM} (h : OrOk m) (hi : m.ideal = true) {k : Nat} (hl : m.n + k + m.qs.length ≤ 100000) : OrOk (m.drew k) :=
  ⟨stN_ok h.st k, h.ans, h.ask, fun he => (by have : m.ideal = false := he; rw [hi] at this; cases this), hl⟩
/-- The cells 1 and 2 turn. -/
theorem OrMem.draw {p mk ms mp : Nat} {va : Value} {F : Nat → Prop} {km sm pm : SMap} {w : World} {m : OrM} (h : OrMem p mk ms mp va F km sm pm w m) :
    OrMem p mk ms mp va F km sm pm ((w.setCell ⟨p, 2, none⟩ (.int .i64 (m.n + 1 : Nat))).setCell ⟨p, 1, none⟩ (.int .u64 (nextS m.st))) (m.drew 1) := by
  have k : Kept (fun k => k ≠ p) w ((w.setCell ⟨p, 2, none⟩ (.int .i64 (m.n + 1 : Nat))).setCell ⟨p, 1, none⟩ (.int .u64 (nextS m.st))) := ((Kept.refl _ _).setCell (fun _ h => h rfl) _).setCell (fun _ h => h rfl) _
  exact ⟨box_set (box_set h.box), h.row.keep (k.mono fun _ _ h => h.2.1), h.known.keep k h.nkp, h.kn, h.sealed.keep k h.nsp, h.proofs.keep k h.nmp, by have := h.lim; show _ ≤ m.n + 1; omega, h.fp, h.fk, h.fs, h.fm, h.nkp, h.nsp, h.nmp, h.nks, h.nkm, h.nsm⟩
set_option maxRecDepth 100000 in
set_option maxHeartbeats 1000000 in
theorem draw_mem (w : World) (p mk ms mp : Nat) (va : Value) (F : Nat → Prop) (km sm pm : SMap) (m : OrM) (hi : m.ideal = true) (hl : m.n ≤ 100000) (h : OrMem p mk ms mp va F km sm pm w m) :
    Calls Tryz.prog 65 #[.pointer (some ⟨p, 0, none⟩)] w fun e w' => e = .returned (.int .u64 (drawZ (nextS m.st))) ∧ OrMem p mk ms mp va F km sm pm w' (m.drew 1) ∧ Kept (fun k => k ≠ p) w w' := by
  have H := Lib.hid h.draw
  obtain ⟨x0, x1⟩ := box_cells h.box
  rw [hi] at x0
  have e1 : ((m.n : Int) + 1) = ((m.n + 1 : Nat) : Int) := by omega
  have n0 : (0 : Int) ≤ m.n := by omega
  have n1 : (m.n : Int) < 1000000 := by omega
  have E1 := Lib.hid e1
  clear h e1
  obtain ⟨st, hst⟩ : ∃ s, m.st = s := ⟨_, rfl⟩
  obtain ⟨n, hn⟩ : ∃ n : Int, (m.n : Int) = n := ⟨_, rfl⟩
  have HST := Lib.hid hst
  have HN := Lib.hid hn
  rw [hst, hn] at x0
  rw [hn] at n0 n1
  rw [hst]
  clear hst hn hl hi
  go_enter Tryz.func65, Tryz.ntmps65
  go_wp2
  go_ret
  refine ⟨rfl, ?_, ?_⟩
  · have := H.out
    rw [← E1.out, HST.out, HN.out] at this
    exact this
  · exact ((Kept.refl _ _).setCell (fun _ h => h rfl) _).setCell (fun _ h => h rfl) _
/-- The block of the oracle is all that has turned. -/
theorem kept_only {F : Nat → Prop} {p : Nat} {w w' : World} (hp : F p) (h : Kept (fun k => k ≠ p) w w') : Kept (fun k => ¬ F k) w w' := h.mono fun _ _ hk e => hk (e ▸ hp)
theorem draw_any (F : Nat → Prop) (w : World) (p : Nat) (m : OrM) (hi : m.ideal = true) (hl : m.n + 1 + m.qs.length ≤ 100000) (h : OrG F p w m) :
    Calls Tryz.prog 65 #[.pointer (some ⟨p, 0, none⟩)] w fun e w' => e = .returned (.int .u64 (drawZ (nextS m.st))) ∧ OrG F p w' (m.drew 1) ∧ Kept (fun k => ¬ F k) w w' := by
  obtain ⟨ok, mk, ms, mp, va, km, sm, pm, hm⟩ := h
  refine (draw_mem w p mk ms mp va F km sm pm m hi (by omega) hm).mono ?_
  rintro e w1 ⟨rfl, h1, h2⟩
  exact ⟨rfl, ⟨ok.drew hi hl, mk, ms, mp, va, km, sm, pm, h1⟩, kept_only hm.fp h2⟩
set_option maxRecDepth 100000 in
set_option maxHeartbeats 2000000 in
theorem take_mem (w : World) (p mk ms mp : Nat) (va : Value) (F : Nat → Prop) (km sm pm : SMap) (m : OrM) (hi : m.ideal = true) (h : OrMem p mk ms mp va F km sm pm w m) (N : Nat) (hN : m.n + N ≤ 100000) :
    Calls Tryz.prog 125 #[.pointer (some ⟨p, 0, none⟩), .int .i64 N] w fun e w' => ∃ a cap, e = .returned (.slice a N cap) ∧ numsR.rel (fun k => w.heap.size ≤ k) w' [.slice a N cap] (drawsL m.st N) ∧ OrMem p mk ms mp va F km sm pm w' (m.drew N) ∧ Kept (fun k => k ≠ p) w w' := by
  have HPL := Lib.hid (box_lt h.box)
  have H := Lib.hid h.bound
  have HI := Lib.hid hi
  clear h hi
  obtain ⟨F0, hF0⟩ : ∃ f, (fun k => F k ∧ k < w.heap.size) = f := ⟨_, rfl⟩
  have HF0 : Hid (∀ k, F0 k → F k ∧ k < w.heap.size) := by show ∀ k, _; rw [← hF0]; exact fun _ h => h
  rw [hF0] at H
  clear hF0
  go_enter Tryz.func125, Tryz.ntmps125
  go_wp2_with (at_make; refine wpList_make_cells rfl _ _ rfl Tryz.etyNums (z := .int .u64 0) (by kernel_rfl) (n := N) rfl rfl rfl rfl ?_ ?_ ?_)
  · omega
  · unfold maxLen; omega
  have hg3 := box_new w (.cells (rowS [] N).toArray 24)
  have hb3 := bnew (Below.refl w.heap.size w) (.cells (rowS [] N).toArray 24)
  rw [madeRow]
  have HG3 := Lib.hid hg3
  have HB3 := Lib.hid hb3
  have HX3 := Lib.hid (H.out.keep (Kept.of_below hb3))
  generalize w.alloc (.cells (rowS [] N).toArray 24) = w3 at *
  clear hg3 hb3
  obtain ⟨G, hG⟩ : ∃ G, w.heap.size = G := ⟨_, rfl⟩
  have HGW := Lib.hid hG
  rw [hG] at HG3 HB3 HPL ⊢
  clear hG
  go_wp2_with fail
  go_loopw [11] (fun vi wr => ∃ (k : Nat), k ≤ N ∧ vi = .int .i64 k ∧ Hid (OrMem p mk ms mp va F0 km sm pm wr (m.drew k)) ∧ Kept (fun i => i ≠ p) w wr ∧ wr.heap[G]? = some (.cells (rowS (drawsL m.st k) (N - k)).toArray 24 (0, 0))) (fun vi _ => N - (intOf vi).toNat)
  case atStart => exact ⟨0, Nat.zero_le _, rfl, HX3, (Kept.of_below (by rw [HGW.out]; exact HB3.out)), HG3.out⟩
  case round =>
    obtain ⟨k, hk, rfl, hox, hkr, hrow⟩ := hrel
    by_cases hks : k < N
    · obtain ⟨j, hj⟩ : ∃ j, N - k = j + 1 := ⟨N - k - 1, by omega⟩
      have hj2 : N - (k + 1) = j := by omega
      rw [hj] at hrow
      have HROW := Lib.hid hrow
      have HKR := Lib.hid hkr
      have HJ := Lib.hid hj2
      clear hrow hkr hj hj2
      go_wp2_with fail
      refine (draw_mem wr p mk ms mp va F0 km sm pm (m.drew k) HI.out (by show m.n + k ≤ _; omega) hox.out).mono ?_
      rintro e w4 ⟨rfl, ho4, hk4⟩
      have hacc := drawsL_len m.st k
      have hdr : drawsL m.st (k + 1) = drawsL m.st k ++ [drawZ (nextS (stN m.st k))] := rfl
      have hst : (m.drew k).st = stN m.st k := rfl
      have HD := Lib.hid hdr
      have hxz := drawZ_in (nextS (stN m.st k))
      have HO4 : Hid (OrMem p mk ms mp va F0 km sm pm w4 (m.drew (k + 1))) := ho4
      rw [hst]
      clear hdr hst ho4
      generalize drawZ (nextS (stN m.st k)) = x at *
      have hrow4 := box_kept hk4 HROW.out (show G ≠ p by have := HPL.out; omega)
      obtain ⟨d0, d1⟩ := box_cells hrow4
      have hset := rowS_set (drawsL m.st k) j x
      rw [hacc] at hset
      have hnew := box_set (i := k) (v := .int .u64 x) hrow4
      rw [hset, ← HD.out] at hnew
      have HNEW := Lib.hid hnew
      have hck : w4.cell? ⟨G, k, none⟩ = some (.int .u64 0) := by rw [d0]; simp [rowS, hacc]
      have hgk := World.cell?_setCell_same w4 ⟨G, k, none⟩ (.int .u64 x) hck
      have HO5 : Hid (OrMem p mk ms mp va F0 km sm pm (w4.setCell ⟨G, k, none⟩ (.int .u64 x)) (m.drew (k + 1))) := HO4.out.keep ((Kept.refl _ _).setCell (fun _ h => by have h1 := (HF0.out _ h).2; have h2 := HGW.out; have h3 : G < w.heap.size := h1; omega) _)
      have HK5 : Hid (Kept (fun i => i ≠ p) w (w4.setCell ⟨G, k, none⟩ (.int .u64 x))) := (kept_next HKR.out hk4).setCell (fun h => by have h' : G < w.heap.size := h; have := HGW.out; omega) _
      clear hnew hrow4 d0 hset hk4 hacc hxz
      go_wp2_with fail
      go_roundw
      case rel => exact ⟨k + 1, by omega, by go_num, HO5, HK5.out, by rw [HJ.out]; exact HNEW.out⟩
      case measure => simp [intOf]; omega
    · obtain rfl : k = N := by omega
      rw [Nat.sub_self, rowS_zero] at hrow
      have hl := drawsL_len m.st k
      have hown : Own (intR .u64) w.heap.size 24 (fun x => False ∨ w.heap.size ≤ x) wr (.slice (some ⟨G, 0, none⟩) (drawsL m.st k).length (drawsL m.st k).length) (drawsL m.st k) :=
        own_ints (cur := (drawsL m.st k).map (Value.int .u64)) hrow (by rw [List.length_map]) (List.take_of_length_le (by rw [List.length_map]; exact Nat.le_refl _)) (drawsL_ok m.st k) (Nat.le_refl _) (by unfold maxLen; omega) (by have := HGW.out; omega)
      have hsl := numsR.mono hown.slice (S' := fun i => w.heap.size ≤ i) (fun i _ h => h.resolve_left id)
      rw [hl] at hsl
      have HS := Lib.hid hsl
      have HK := Lib.hid hkr
      clear hown hrow hsl hl hkr
      go_wp2_with fail
      go_ret
      exact ⟨_, _, rfl, HS.out, hox.out.mono (fun _ _ h => (HF0.out _ h).1), HK.out⟩
theorem draws_any (w : World) (F : Nat → Prop) (p : Nat) (m : OrM) (h : OrG F p w m) : Calls Tryz.prog 8 #[.pointer (some ⟨p, 0, none⟩)] w fun e w' => e = .returned (.int .i64 m.n) ∧ w = w' := by
  obtain ⟨ok, mk, ms, mp, va, km, sm, pm, hm⟩ := h
  obtain ⟨x0, x1⟩ := box_cells hm.box
  clear hm ok
  go_enter Tryz.func8, Tryz.ntmps8
  go_wp2
  go_ret
  exact ⟨rfl, rfl⟩
end Go.Proofs.YtdjcdejapkkcmaaGreatDoor
/- What an oracle knows: the look-up of a question's name, the answer's cell. -/
namespace Go.Proofs.YtdjcdejapkkcmaaGreatDoor
open Go.ChangeShapes Go.WideShapes Go.ChangeAt Go.RowKit

theorem keyS_size (m l : List Int) : (keyS m l).size = 8 * (m.length + l.length) := by
  have h := congrArg List.length (strOfNums_data (digsAll m ++ digsAll l))
  rw [List.length_map, List.length_append, digsAll_len, digsAll_len] at h
  have h2 : (keyS m l).data.toList.length = (keyS m l).size := rfl
  rw [← h2]
  unfold keyS
  omega
theorem zero_int (w : World) : (zeroValue 3).run Tryz.prog w = .ok (.int .i64 0) w := by
  have h0 : (Tryz.prog.info? 3).map (·.zero) = some (some (.int .i64 0)) := by kernel_rfl
  obtain ⟨i, hi, hz⟩ := Option.map_eq_some_iff.1 h0
  simp [zeroValue, typeInfo, hi, hz]
theorem keyS_data_inj {x y : Int} {l m : List Int} (hx : okU x) (hy : okU y) (hl : ∀ z ∈ l, okU z) (hm : ∀ z ∈ m, okU z) (h : (keyS [x] l).data.toList = (keyS [y] m).data.toList) : x = y ∧ l = m := by
  refine keyS_inj hx hy hl hm ?_
  have h1 : (keyS [x] l).data = (keyS [y] m).data := Array.toList_inj.1 h
  cases hA : keyS [x] l
  cases hB : keyS [y] m
  rw [hA, hB] at h1
  simpa using h1
/-- The answer of a question that was asked. -/
def OrM.know (m : OrM) (label : Int) (l : List Int) : Option Int := (m.qs.find? fun q => q.label == label && q.elems == l).map (·.ans)
theorem OrM.know_at {m : OrM} {km : SMap} (h : KnOK m km) {i : Nat} {q : QuM} (hq : m.qs[i]? = some q) : m.know q.label q.elems = some q.ans := by
  unfold OrM.know
  cases hf : m.qs.find? fun q' => q'.label == q.label && q'.elems == q.elems with
  | none =>
    have := List.find?_eq_none.1 hf q (List.mem_of_getElem? hq)
    simp at this
  | some q' =>
    have h1 := List.find?_some hf
    simp only [Bool.and_eq_true, beq_iff_eq] at h1
    obtain ⟨i', hi', he'⟩ := List.getElem_of_mem (List.mem_of_find?_eq_some hf)
    have e1 := h.2.2 i q hq
    have e2 := h.2.2 i' q' (by rw [List.getElem?_eq_getElem hi', he'])
    rw [h1.1, h1.2, e1] at e2
    have e3 : i = i' := by have h5 : (i : Int) = i' := (by simpa using e2); omega
    subst e3
    rw [List.getElem?_eq_getElem hi', he'] at hq
    rw [Option.some.inj hq]
    rfl
theorem OrM.know_none {m : OrM} {km : SMap} (h : KnOK m km) {label : Int} {l : List Int} (hg : smGet km (keyS [label] l).data.toList = none) : m.know label l = none := by
  unfold OrM.know
  cases hf : m.qs.find? fun q' => q'.label == label && q'.elems == l with
  | none => rfl
  | some q' =>
    have h1 := List.find?_some hf
    simp only [Bool.and_eq_true, beq_iff_eq] at h1
    obtain ⟨i', hi', he'⟩ := List.getElem_of_mem (List.mem_of_find?_eq_some hf)
    have e2 := h.2.2 i' q' (by rw [List.getElem?_eq_getElem hi', he'])
    rw [h1.1, h1.2, hg] at e2
    cases e2
/-- The look-up of a question's name: either it is not there, or it leads to that question. -/
theorem OrMem.look {p mk ms mp : Nat} {va : Value} {F : Nat → Prop} {km sm pm : SMap} {w : World} {m : OrM} (ok : OrOk m) (h : OrMem p mk ms mp va F km sm pm w m) {label : Int} {l : List Int} (hla : okU label) (hl : ∀ x ∈ l, okU x) (hlen : l.length ≤ 1000) :
    ∃ (ix : Nat) (fo : Bool), (∀ w', SMapAt w' mk km → (Instr.lookup 87 (.map (some mk)) (.string (keyS [label] l)) true).run Tryz.prog w' = .ok (.tuple #[.int .i64 ix, .bool fo]) w') ∧
      (fo = true → ∃ q, m.qs[ix]? = some q ∧ q.label = label ∧ q.elems = l ∧ m.know label l = some q.ans) ∧ (fo = false → smGet km (keyS [label] l).data.toList = none ∧ m.know label l = none) := by
  have hs : (keyS [label] l).size ≤ maxLen := by rw [keyS_size]; unfold maxLen; simp; omega
  cases hg : smGet km (keyS [label] l).data.toList with
  | none =>
    refine ⟨0, false, fun w' h' => ?_, fun h => (by cases h), fun _ => ⟨rfl, OrM.know_none h.kn hg⟩⟩
    have := h'.look_ok Tryz.underlying87 (zero_int w') (keyS [label] l) hs
    rw [hg] at this
    exact this
  | some v =>
    obtain ⟨i, q, h1, h2, h3⟩ := h.kn.2.1 _ (smGet_mem hg)
    have hq := ok.ask q (List.mem_of_getElem? h1)
    obtain ⟨e1, e2⟩ := keyS_data_inj hla hq.1 hl hq.2.1 h3
    refine ⟨i, true, fun w' h' => ?_, fun _ => ⟨q, h1, e1.symm, e2.symm, by rw [e1, e2]; exact OrM.know_at h.kn h1⟩, fun h => (by cases h)⟩
    have := h'.look_ok Tryz.underlying87 (zero_int w') (keyS [label] l) hs
    rw [hg] at this
    have h2' : v = .int .i64 i := h2
    rw [h2'] at this
    exact this
/-- The cell of an answer. -/
theorem OrMem.ans {p mk ms mp : Nat} {va : Value} {F : Nat → Prop} {km sm pm : SMap} {w : World} {m : OrM} (h : OrMem p mk ms mp va F km sm pm w m) {i : Nat} {q : QuM} (hq : m.qs[i]? = some q) :
    ∃ b off c, va = .slice (some ⟨b, off, none⟩) m.qs.length c ∧ i < m.qs.length ∧ b < w.heap.size ∧ w.cell? ⟨b, off + i * 3 + 2, none⟩ = some (.int .u64 q.ans) := by
  have hs := h.row.slice
  obtain ⟨a, c, rfl, -, -⟩ := sliceR.form hs
  obtain ⟨hi, he⟩ := List.getElem?_eq_some_iff.1 hq
  obtain ⟨b, off, es, rfl, -, hlt, hr, hc⟩ := sliceR.at hs i hi
  rw [he] at hr
  obtain ⟨a2, c2, rfl, -⟩ := quR.inv hr
  exact ⟨b, off, c, rfl, hi, hlt, hc 2 _ rfl⟩
end Go.Proofs.YtdjcdejapkkcmaaGreatDoor
/- Peek, whatever was asked before. -/
namespace Go.Proofs.YtdjcdejapkkcmaaGreatDoor
open Go.ChangeShapes Go.WideShapes Go.ChangeAt Go.RowKit

def peekS (label : Int) (l : List Int) : Int := if elemsB l = true then hashS label l else 0
/-- The map of what is known. -/
abbrev PeekS (p mk : Nat) (km : SMap) (w w' : World) : Prop := Below w.heap.size w w' ∧ w'.cell? ⟨p, 4, none⟩ = some (.map (some mk)) ∧ SMapAt w' mk km
theorem PeekS.drew {p mk : Nat} {km : SMap} {w w' : World} (h : PeekS p mk km w w') : PeekS p mk km w w'.drew := ⟨h.1.drew, h.2.1, h.2.2.at' rfl⟩
theorem PeekS.next {p mk : Nat} {km : SMap} {w w1 w2 : World} (h : PeekS p mk km w w1) (hb : Below w1.heap.size w1 w2) : PeekS p mk km w w2 := ⟨bnext h.1 hb, (hb.cell (cell_lt h.2.1)).trans h.2.1, h.2.2.keepB hb⟩
theorem PeekS.alloc {p mk : Nat} {km : SMap} {w w1 : World} (h : PeekS p mk km w w1) (o : Obj) : PeekS p mk km w (w1.alloc o) := h.next (bnew (Below.refl _ _) o)
/-- What Peek gives, exactly. -/
def OrM.peek (m : OrM) (label : Int) (l : List Int) : Int × Bool :=
  if elemsB l = true then (match m.know label l with | some a => (a, true) | none => if m.ideal = true then (0, false) else (hashS label l, true)) else (0, false)
theorem peek_no {m : OrM} {label : Int} {l : List Int} (h : elemsB l = false) : m.peek label l = (0, false) := by unfold OrM.peek; rw [h]; rfl
theorem peek_known {m : OrM} {label a : Int} {l : List Int} (h : elemsB l = true) (hk : m.know label l = some a) : m.peek label l = (a, true) := by unfold OrM.peek; rw [if_pos h, hk]
theorem peek_new {m : OrM} {label : Int} {l : List Int} (h : elemsB l = true) (hk : m.know label l = none) : m.peek label l = if m.ideal = true then (0, false) else (hashS label l, true) := by unfold OrM.peek; rw [if_pos h, hk]
/-- What Peek gives: the real oracle answers with the hash. -/
def PeekTo (m : OrM) (label : Int) (l : List Int) (w : World) (e : Ending) (w' : World) : Prop :=
  ∃ (v : Int) (k : Bool), e = .returned (.tuple #[.int .u64 v, .bool k]) ∧ m.peek label l = (v, k) ∧ (0 ≤ v ∧ v < 18446744069414584321) ∧ (m.ideal = false → v = peekS label l ∧ k = elemsB l) ∧ Below w.heap.size w w'
set_option maxRecDepth 100000 in
set_option maxHeartbeats 2000000 in
theorem peek_gen (F : Nat → Prop) (S : Nat → Prop) (w : World) (p : Nat) (m : OrM) (ho : OrG F p w m) (label : Int) (l0 : 0 ≤ label) (l1 : label < 18446744073709551616) (a : Option Addr) (cap : Nat) (l : List Int) (h : numsR.rel S w [.slice a l.length cap] l) (hl : l.length ≤ 1000) :
    Calls Tryz.prog 158 #[.pointer (some ⟨p, 0, none⟩), .int .u64 label, .slice a l.length cap] w (PeekTo m label l w) := by
  have H := Lib.hid h
  have HO := Lib.hid ho
  have HWF := Lib.hid (ints_wf h)
  clear h ho
  go_enter Tryz.func158, Tryz.ntmps158
  go_wp2_with fail
  refine (oelements_any S w a cap l H.out).mono ?_
  rintro e w1 ⟨rfl, hb1⟩
  cases he : elemsB l with
  | false =>
    have HP : Hid (m.ideal = false → (0 : Int) = peekS label l ∧ false = elemsB l) := fun _ => ⟨by unfold peekS; rw [he]; rfl, he.symm⟩
    have HPK := Lib.hid (peek_no (m := m) (label := label) he)
    go_wp2_with fail
    go_ret2
    exact ⟨0, false, rfl, HPK.out, by omega, HP.out, hb1⟩
  | true =>
    have HP : Hid (peekS label l = hashS label l ∧ true = elemsB l) := ⟨by unfold peekS; rw [he]; rfl, he.symm⟩
    have HEL := Lib.hid he
    obtain ⟨ok, mk, ms, mp, va, km, sm, pm, hm⟩ := HO.out.keepB hb1
    have HL : Hid (okU label) := okU_of l0 l1
    obtain ⟨ix, fo, hlk, hfo, hfn⟩ := hm.look ok HL.out HWF.out hl
    have HM := Lib.hid hm
    have HOK := Lib.hid ok
    have HFO := Lib.hid hfo
    have HFN := Lib.hid hfn
    have hst : PeekS p mk km w1 w1 := ⟨Below.refl _ _, (box_cells hm.box).1 4, hm.known⟩
    have HST := Lib.hid hst
    clear hst hm ok hfo hfn he
    go_wp2_with fail
    go_cut [8, 9] from 10 (fun v8 v9 wc => v8 = .int .i64 ix ∧ v9 = .bool fo ∧ Below w1.heap.size w1 wc)
    case first =>
      go_region_held3 (fun w' => Below w1.heap.size w1 w' ∧ w'.cell? ⟨p, 4, none⟩ = some (.map (some mk)) ∧ SMapAt w' mk km)
        (first
          | with_reducible exact PeekS.drew HST.out
          | with_reducible exact HK.out
          | with_reducible exact PeekS.drew (PeekS.alloc HST.out _))
        (first
          | (go_at_call 95
             refine (keyX_one S (fun _ => True) _ _ _ _ _ l label (numsR.keepB (numsR.keepB H.out hb1) (‹Below w1.heap.size w1 _ ∧ _›).1) (numsR.keepB (nums_new w1 _ [label] 1 (by intro x hx; simp at hx; subst hx; exact HL.out) (by simp) (by unfold maxLen; omega)) (Below.refl _ _).drew) hl).mono ?_
             rintro e w3 ⟨rfl, hbK⟩
             have HK := Lib.hid (PeekS.next (‹Below w1.heap.size w1 _ ∧ _› : PeekS p mk km w1 _) hbK)))
      go_wp2_with fail
      go_meet
      case rel => exact ⟨rfl, rfl, HK.out.1⟩
    case rest =>
      obtain ⟨rfl, rfl, hbc⟩ := hcut
      have hbw := bnext hb1 hbc
      have hm := HM.out.keep (Kept.of_below hbc)
      cases fo with
      | true =>
        obtain ⟨q, hq, hql, hqe, hqk⟩ := HFO.out rfl
        have HPK := Lib.hid (peek_known HEL.out hqk)
        obtain ⟨b, off, c, rfl, hix, hbl, hca⟩ := hm.ans hq
        have hans := HOK.out.ans q (List.mem_of_getElem? hq)
        have HR : Hid (m.ideal = false → q.ans = peekS label l ∧ true = elemsB l) := fun hi => ⟨by rw [HOK.out.real hi q (List.mem_of_getElem? hq), hql, hqe, HP.out.1], HP.out.2⟩
        have HA := Lib.hid hans
        obtain ⟨x0, x1⟩ := box_cells hm.box
        obtain ⟨ans, hae⟩ : ∃ x, q.ans = x := ⟨_, rfl⟩
        rw [hae] at hca HR HA HPK
        clear hq hql hqe hm hans hae hqk
        go_wp2_with fail
        go_ret2
        exact ⟨ans, true, rfl, HPK.out, HA.out, HR.out, hbw⟩
      | false =>
        obtain ⟨x0, x1⟩ := box_cells hm.box
        clear hm
        have hpn := peek_new HEL.out (HFN.out rfl).2
        cases hid : m.ideal with
        | true =>
          have HPK : Hid (m.peek label l = (0, false)) := by show _ = _; rw [hpn, hid]; rfl
          rw [hid] at x0
          clear hpn
          go_wp2_with fail
          go_ret2
          exact ⟨0, false, rfl, HPK.out, by omega, fun h => (by rw [hid] at h; cases h), hbw⟩
        | false =>
          have HPK : Hid (m.peek label l = (hashS label l, true)) := by show _ = _; rw [hpn, hid]; rfl
          rw [hid] at x0
          clear hpn
          go_wp2_with fail
          refine (Hash_big label l0 S wc a cap l (numsR.keepB H.out hbw) (by omega)).mono ?_
          rintro e w4 ⟨rfl, hb4⟩
          have HI := Lib.hid (hashS_in label l)
          go_wp2_with fail
          go_ret2
          exact ⟨hashS label l, true, rfl, HPK.out, HI.out, fun _ => ⟨HP.out.1.symm, HP.out.2⟩, bnext hbw hb4⟩
theorem peek_any (S : Nat → Prop) (w : World) (p : Nat) (st : Int) (ho : OrAt false st p w) (label : Int) (l0 : 0 ≤ label) (l1 : label < 18446744073709551616) (a : Option Addr) (cap : Nat) (l : List Int) (h : numsR.rel S w [.slice a l.length cap] l) (hl : l.length ≤ 1000) :
    Calls Tryz.prog 158 #[.pointer (some ⟨p, 0, none⟩), .int .u64 label, .slice a l.length cap] w fun e w' => e = .returned (.tuple #[.int .u64 (peekS label l), .bool (elemsB l)]) ∧ Below w.heap.size w w' := by
  obtain ⟨F, m, hm, hi, -⟩ := ho
  refine (peek_gen F S w p m hm label l0 l1 a cap l h hl).mono ?_
  rintro e w1 ⟨v, k, rfl, -, -, hr, hb⟩
  obtain ⟨rfl, rfl⟩ := hr hi
  exact ⟨rfl, hb⟩
end Go.Proofs.YtdjcdejapkkcmaaGreatDoor
/- Notes: commitments, marks, paths. -/
namespace Go.Proofs.YtdjcdejapkkcmaaGreatDoor
open Go.ChangeShapes Go.WideShapes Go.ChangeAt Go.RowKit

theorem noteElems_any (w : World) (n : NoteM) (hn : NoteOk n) : Calls Tryz.prog 52 #[.agg #[.int .u64 n.value, .int .u64 n.owner, .int .u64 n.rho, .int .u64 n.blind]] w
    fun e w' => (∃ a cap, e = .returned (.slice a 4 cap) ∧ numsR.rel (fun _ => True) w' [.slice a 4 cap] [n.value, n.owner, n.rho, n.blind]) ∧ Below w.heap.size w w' := by
  have HX := Lib.hid (nums4 (w.alloc (.cells #[.int .u64 n.value, .int .u64 n.owner, .int .u64 n.rho, .int .u64 n.blind] 56)) 24 hn.value hn.owner hn.rho hn.blind)
  clear hn
  go_enter Tryz.func52, Tryz.ntmps52
  go_wp2_with fail
  go_ret
  exact ⟨⟨_, _, rfl, by simpa using HX.out⟩, bnew (bnew (Below.refl _ _) _) _⟩
def commitV (n : NoteM) : Int := if noteB n = true then hashS 2 [n.value, n.owner, n.rho, n.blind] else 0
theorem noteB_elems {n : NoteM} (h : noteB n = true) : elemsB [n.value, n.owner, n.rho, n.blind] = true := by
  unfold noteB at h
  rw [decide_eq_true_eq] at h
  simp [elemsB, allUp, elemB]
  omega
set_option maxRecDepth 100000 in
set_option maxHeartbeats 1000000 in
theorem commitment_any (w : World) (p : Nat) (st : Int) (ho : OrAt false st p w) (n : NoteM) (hn : NoteOk n) : Calls Tryz.prog 103 #[.pointer (some ⟨p, 0, none⟩), .agg #[.int .u64 n.value, .int .u64 n.owner, .int .u64 n.rho, .int .u64 n.blind]] w
    fun e w' => e = .returned (.tuple #[.int .u64 (commitV n), .bool (noteB n)]) ∧ Below w.heap.size w w' := by
  have hb0 := bnew (Below.refl w.heap.size w) (.cells #[.int .u64 n.value, .int .u64 n.owner, .int .u64 n.rho, .int .u64 n.blind] 56)
  have HX := Lib.hid (box_new w (.cells #[.int .u64 n.value, .int .u64 n.owner, .int .u64 n.rho, .int .u64 n.blind] 56))
  have HO := Lib.hid (ho.keepB hb0)
  have HB := Lib.hid hb0
  clear hb0 ho
  go_enter Tryz.func103, Tryz.ntmps103
  go_wp2_with fail
  refine (noteValid_any _ n).mono ?_
  rintro e w1 ⟨rfl, hb1⟩
  obtain ⟨x0, x1⟩ := box_cells (box_after hb1 HX.out)
  have hw1 := bnext HB.out hb1
  cases hv : noteB n with
  | false =>
    have HV : Hid (commitV n = 0) := by show _ = _; unfold commitV; rw [hv]; rfl
    go_wp2_with fail
    go_ret2
    rw [HV.out, hv]
    exact ⟨rfl, hw1⟩
  | true =>
    have HV : Hid (commitV n = hashS 2 [n.value, n.owner, n.rho, n.blind]) := by show _ = _; unfold commitV; rw [hv]; rfl
    have HE := Lib.hid (noteB_elems hv)
    go_wp2_with fail
    refine (noteElems_any w1 n hn).mono ?_
    rintro e w2 ⟨⟨a, cap, rfl, hr⟩, hb2⟩
    have hw2 := bnext hw1 hb2
    go_wp2_with fail
    refine (peek_any (fun _ => True) w2 p st (HO.out.keepB (bnext hb1 hb2)) 2 (by omega) (by omega) a cap [n.value, n.owner, n.rho, n.blind] hr (by simp)).mono ?_
    rintro e w3 ⟨rfl, hb3⟩
    have hp : peekS 2 [n.value, n.owner, n.rho, n.blind] = hashS 2 [n.value, n.owner, n.rho, n.blind] := by unfold peekS; rw [HE.out]; rfl
    rw [HE.out, hp]
    clear hp
    go_wp2_with fail
    go_ret2
    rw [HV.out, hv]
    exact ⟨rfl, bnext hw2 hb3⟩
def markK (key rho : Int) : Bool := decide (key < 18446744069414584321 ∧ rho < 18446744069414584321)
def markV (key rho : Int) : Int := if markK key rho = true then hashS 3 [key, rho] else 0
set_option maxRecDepth 100000 in
set_option maxHeartbeats 1000000 in
theorem marked_any (w : World) (p : Nat) (st : Int) (ho : OrAt false st p w) (key rho : Int) (hk : okU key) (hr : okU rho) : Calls Tryz.prog 167 #[.pointer (some ⟨p, 0, none⟩), .int .u64 key, .int .u64 rho] w
    fun e w' => e = .returned (.tuple #[.int .u64 (markV key rho), .bool (markK key rho)]) ∧ Below w.heap.size w w' := by
  have HX := Lib.hid (nums2 w 24 hk hr)
  have hb0 := bnew (Below.refl w.heap.size w) (.cells #[.int .u64 key, .int .u64 rho] 24)
  have HO := Lib.hid (ho.keepB hb0)
  have HB := Lib.hid hb0
  clear hb0 ho
  by_cases h1 : key < 18446744069414584321
  · by_cases h2 : rho < 18446744069414584321
    · have hv : markK key rho = true := decide_eq_true ⟨h1, h2⟩
      have HV : Hid (markV key rho = hashS 3 [key, rho]) := by show _ = _; unfold markV; rw [hv]; rfl
      have HK := Lib.hid hv
      have HE : Hid (elemsB [key, rho] = true) := by show _ = _; simp [elemsB, allUp, elemB]; omega
      clear hv
      go_enter Tryz.func167, Tryz.ntmps167
      go_wp2_with fail
      refine (peek_any (fun _ => True) _ p st HO.out 3 (by omega) (by omega) _ _ [key, rho] HX.out (by simp)).mono ?_
      rintro e w3 ⟨rfl, hb3⟩
      have hp : peekS 3 [key, rho] = hashS 3 [key, rho] := by unfold peekS; rw [HE.out]; rfl
      rw [HE.out, hp]
      clear hp
      go_wp2_with fail
      go_ret2
      rw [HV.out, HK.out]
      exact ⟨rfl, bnext HB.out hb3⟩
    · have hv : markK key rho = false := decide_eq_false (fun h => h2 h.2)
      have HV : Hid (markV key rho = 0) := by show _ = _; unfold markV; rw [hv]; rfl
      have HK := Lib.hid hv
      clear hv
      go_enter Tryz.func167, Tryz.ntmps167
      go_wp2_with fail
      go_ret2
      rw [HV.out, HK.out]
      exact ⟨rfl, Below.refl _ _⟩
  · have hv : markK key rho = false := decide_eq_false (fun h => h1 h.1)
    have HV : Hid (markV key rho = 0) := by show _ = _; unfold markV; rw [hv]; rfl
    have HK := Lib.hid hv
    clear hv
    go_enter Tryz.func167, Tryz.ntmps167
    go_wp2_with fail
    go_ret2
    rw [HV.out, HK.out]
    exact ⟨rfl, Below.refl _ _⟩
/-- The nodes above a leaf. -/
def climbTo (leaf pos : Int) (path : List Int) : Nat → Int
  | 0 => leaf
  | k + 1 => if (bits BinOp.and IntKind.i64 (pos / 2 ^ k) 1 == 0) = true then hashS 6 [climbTo leaf pos path k, path.getD k 0] else hashS 6 [path.getD k 0, climbTo leaf pos path k]
theorem climbTo_ok {leaf pos : Int} {path : List Int} (h : okU leaf) : ∀ k, okU (climbTo leaf pos path k)
  | 0 => h
  | k + 1 => by unfold climbTo; split <;> exact hashS_ok _ _
def climbS (leaf pos : Int) (path : List Int) : Int :=
  if path.length ≤ 12 ∧ 0 ≤ pos ∧ pos < 2 ^ path.length ∧ leaf < 18446744069414584321 ∧ elemsB path = true then climbTo leaf pos path path.length else 0
theorem pow12 : ∀ k : Fin 13, IntKind.i64.wrap (2 ^ k.val) = 2 ^ k.val ∧ (0 : Int) < 2 ^ k.val ∧ (2 : Int) ^ k.val ≤ 4096 := by decide +kernel
end Go.Proofs.YtdjcdejapkkcmaaGreatDoor
/- Paths; notes that may be spent; sums. -/
namespace Go.Proofs.YtdjcdejapkkcmaaGreatDoor
open Go.ChangeShapes Go.WideShapes Go.ChangeAt Go.RowKit

set_option maxRecDepth 100000 in
set_option maxHeartbeats 3000000 in
theorem climb_any (S : Nat → Prop) (w : World) (leaf pos : Int) (hl : okU leaf) (a : Option Addr) (cap : Nat) (path : List Int) (h : numsR.rel S w [.slice a path.length cap] path) (hlen : path.length ≤ 12) (p0 : 0 ≤ pos) (p1 : pos ≤ 4095) :
    Calls Tryz.prog 104 #[.int .u64 leaf, .int .i64 pos, .slice a path.length cap] w fun e w' => e = .returned (.int .u64 (climbS leaf pos path)) ∧ Below w.heap.size w w' := by
  have H := Lib.hid h
  have HW := Lib.hid hl
  obtain ⟨l0, l1⟩ := okU_in hl
  clear h hl
  obtain ⟨e1, e2, e3⟩ := pow12 ⟨path.length, by omega⟩
  simp only at e1 e2 e3
  have g12 : ¬ (12 : Int) < (path.length : Int) := by omega
  by_cases hp : pos < 2 ^ path.length
  · by_cases hlf : leaf < 18446744069414584321
    · have HC : Hid (climbS leaf pos path = if elemsB path = true then climbTo leaf pos path path.length else 0) := by
        show _ = _
        unfold climbS
        by_cases he : elemsB path = true
        · rw [if_pos ⟨hlen, p0, hp, hlf, he⟩, if_pos he]
        · rw [if_neg (fun h => he h.2.2.2.2), if_neg he]
      generalize hP2 : (2 : Int) ^ path.length = P2 at *
      go_enter Tryz.func104, Tryz.ntmps104
      go_wp2_with fail
      go_loop [32] (fun i => ∃ k : Nat, k ≤ path.length ∧ i = .int .i64 k ∧ Hid (allUp (fun k => elemB (path.getD k 0)) k = true)) (fun i => path.length - (intOf i).toNat)
      case atStart => exact ⟨0, Nat.zero_le _, rfl, rfl⟩
      case round =>
        obtain ⟨k, hk, rfl, hall⟩ := hrel
        by_cases hlt : k < path.length
        · obtain ⟨b, off, rfl, hbl, n0, n1, hc⟩ := nums_at H.out k hlt
          have hg := Lib.hid (getD_at path 0 k hlt)
          generalize path[k] = n at *
          by_cases hpn : n < 18446744069414584321
          · have HY : Hid (allUp (fun k => elemB (path.getD k 0)) (k + 1) = true) := allUp_step hall.out (by rw [hg.out]; exact decide_eq_true hpn)
            go_wp2_with fail
            go_round
            case rel => exact ⟨k + 1, by omega, by go_num, HY⟩
            case measure => simp [intOf]; omega
          · have HF : Hid (climbS leaf pos path = 0) := by
              show _ = _
              have : elemsB path = false := allUp_false (k := k) (by rw [hg.out]; exact decide_eq_false hpn) hlt
              rw [HC.out, this]; rfl
            go_wp2_with fail
            go_ret
            exact ⟨ret_int HF.out.symm, Below.refl _ _⟩
        · obtain rfl : k = path.length := by omega
          have HF : Hid (climbS leaf pos path = climbTo leaf pos path path.length) := by
            show _ = _
            have : elemsB path = true := hall.out
            rw [HC.out, this]; rfl
          clear hall HC
          go_wp2_with fail
          go_loopw [9, 42] (fun vd vi wr => ∃ k : Nat, k ≤ path.length ∧ vi = .int .i64 k ∧ vd = .int .u64 (climbTo leaf pos path k) ∧ Below w.heap.size w wr) (fun _ vi _ => path.length - (intOf vi).toNat)
          case atStart => exact ⟨0, Nat.zero_le _, rfl, rfl, Below.refl _ _⟩
          case round =>
            obtain ⟨k, hk, rfl, rfl, hbr⟩ := hrel
            by_cases hlt : k < path.length
            · obtain ⟨b, off, rfl, hbl, n0, n1, hc⟩ := nums_at (numsR.keepB H.out hbr) k hlt
              have hg := Lib.hid (getD_at path 0 k hlt)
              have HD := Lib.hid (climbTo_ok (pos := pos) (path := path) HW.out k)
              have HS : Hid (climbTo leaf pos path (k + 1) = if (bits BinOp.and IntKind.i64 (pos / 2 ^ k) 1 == 0) = true then hashS 6 [climbTo leaf pos path k, path.getD k 0] else hashS 6 [path.getD k 0, climbTo leaf pos path k]) := rfl
              generalize path[k] = n at *
              generalize climbTo leaf pos path k = d at *
              cases hbit : (bits BinOp.and IntKind.i64 (pos / 2 ^ k) 1 == 0) with
              | true =>
                have HN : Hid (climbTo leaf pos path (k + 1) = hashS 6 [d, n]) := by show _ = _; rw [HS.out, hbit, hg.out]; rfl
                go_wp2_with fail
                refine (node_any wr d n HD.out (okU_of n0 n1)).mono ?_
                rintro e w1 ⟨rfl, hb1⟩
                go_wp2_with fail
                go_roundw
                case rel => exact ⟨k + 1, by omega, by go_num, by rw [HN.out], bnext hbr hb1⟩
                case measure => simp [intOf]; omega
              | false =>
                have HN : Hid (climbTo leaf pos path (k + 1) = hashS 6 [n, d]) := by show _ = _; rw [HS.out, hbit, hg.out]; rfl
                go_wp2_with fail
                refine (node_any wr n d (okU_of n0 n1) HD.out).mono ?_
                rintro e w1 ⟨rfl, hb1⟩
                go_wp2_with fail
                go_roundw
                case rel => exact ⟨k + 1, by omega, by go_num, by rw [HN.out], bnext hbr hb1⟩
                case measure => simp [intOf]; omega
            · obtain rfl : k = path.length := by omega
              go_wp2_with fail
              go_ret
              exact ⟨ret_int HF.out.symm, hbr⟩
    · have HF : Hid (climbS leaf pos path = 0) := by show _ = _; unfold climbS; rw [if_neg (fun h => hlf h.2.2.2.1)]
      generalize hP2 : (2 : Int) ^ path.length = P2 at *
      go_enter Tryz.func104, Tryz.ntmps104
      go_wp2_with fail
      go_ret
      exact ⟨ret_int HF.out.symm, Below.refl _ _⟩
  · have HF : Hid (climbS leaf pos path = 0) := by show _ = _; unfold climbS; rw [if_neg (fun h => hp h.2.2.1)]
    generalize hP2 : (2 : Int) ^ path.length = P2 at *
    go_enter Tryz.func104, Tryz.ntmps104
    go_wp2_with fail
    go_ret
    exact ⟨ret_int HF.out.symm, Below.refl _ _⟩

set_option maxRecDepth 100000 in
set_option maxHeartbeats 1000000 in
theorem notes_any (S : Nat → Prop) (w : World) (a : Option Addr) (cap : Nat) (l : List NoteM) (h : notesR.rel S w [.slice a l.length cap] l) :
    Calls Tryz.prog 114 #[.slice a l.length cap] w fun e w' => e = .returned (.bool (l.all noteB)) ∧ Below w.heap.size w w' := by
  have g1 := (sliceR.lens h).2
  unfold maxLen at g1
  have H := Lib.hid h
  clear h
  go_enter Tryz.func114, Tryz.ntmps114
  go_wp2_with fail
  go_loopw [7] (fun i wr => ∃ k : Nat, k ≤ l.length ∧ i = .int .i64 k ∧ Hid ((l.take k).all noteB = true) ∧ Below w.heap.size w wr) (fun i _ => l.length - (intOf i).toNat)
  case atStart => exact ⟨0, Nat.zero_le _, rfl, rfl, Below.refl _ _⟩
  case round =>
    obtain ⟨k, hk, rfl, hall, hbr⟩ := hrel
    by_cases hlt : k < l.length
    · obtain ⟨b, off, rfl, hbl, hok, c0, c1, c2, c3⟩ := notes_at (notesR.keepB H.out hbr) k hlt
      have hno := Lib.hid (all_false noteB l k hlt)
      have hyes := Lib.hid (all_take_succ noteB l k hlt)
      generalize l[k] = n at *
      have hbn := bnew (Below.refl wr.heap.size wr) (.cells #[.int .u64 n.value, .int .u64 n.owner, .int .u64 n.rho, .int .u64 n.blind] 56)
      go_wp2_with fail
      refine (noteValid_any _ n).mono ?_
      rintro e w1 ⟨rfl, hb1⟩
      have hbw := bnext (bnext hbr hbn) hb1
      cases hv : noteB n with
      | true =>
        have HY : Hid ((l.take (k + 1)).all noteB = true) := by show _ = _; rw [hyes.out, hall.out, hv]; rfl
        go_wp2_with fail
        go_roundw
        case rel => exact ⟨k + 1, by omega, by go_num, HY, hbw⟩
        case measure => simp [intOf]; omega
      | false =>
        have HF := Lib.hid (hno.out hv)
        go_wp2_with fail
        go_ret
        exact ⟨ret_bool HF.out.symm, hbw⟩
    · obtain rfl : k = l.length := by omega
      have HF : Hid (l.all noteB = true) := by have := hall.out; rw [List.take_length] at this; exact this
      go_wp2_with fail
      go_ret
      exact ⟨ret_bool HF.out.symm, hbr⟩

def spendableB (s : SpentM) : Bool :=
  noteB s.note && (elemsB [s.key] && (decide (0 ≤ s.number ∧ s.number < 4 ∧ 0 ≤ s.position ∧ s.position ≤ 4095 ∧ s.path.length ≤ 12) && elemsB s.path))
set_option maxRecDepth 100000 in
set_option maxHeartbeats 3000000 in
theorem spendable_any (S : Nat → Prop) (w : World) (s : SpentM) (hok : SpentOk s) (a : Option Addr) (cap : Nat) (h : numsR.rel S w [.slice a s.path.length cap] s.path) :
    Calls Tryz.prog 113 #[.agg #[.int .u64 s.note.value, .int .u64 s.note.owner, .int .u64 s.note.rho, .int .u64 s.note.blind, .int .u64 s.key, .int .i64 s.number, .int .i64 s.position, .slice a s.path.length cap, .bool s.dummy]] w
      fun e w' => e = .returned (.bool (spendableB s)) ∧ Below w.heap.size w w' := by
  have hb0 := bnew (Below.refl w.heap.size w) (.cells #[.int .u64 s.note.value, .int .u64 s.note.owner, .int .u64 s.note.rho, .int .u64 s.note.blind, .int .u64 s.key, .int .i64 s.number, .int .i64 s.position, .slice a s.path.length cap, .bool s.dummy] 58)
  have HX := Lib.hid (box_new w (.cells #[.int .u64 s.note.value, .int .u64 s.note.owner, .int .u64 s.note.rho, .int .u64 s.note.blind, .int .u64 s.key, .int .i64 s.number, .int .i64 s.position, .slice a s.path.length cap, .bool s.dummy] 58))
  have HB := Lib.hid hb0
  have H := Lib.hid (numsR.keepB h hb0)
  have HU : Hid (spendableB s = (noteB s.note && (elemsB [s.key] && (decide (0 ≤ s.number ∧ s.number < 4 ∧ 0 ≤ s.position ∧ s.position ≤ 4095 ∧ s.path.length ≤ 12) && elemsB s.path)))) := rfl
  have hkey := hok.key
  clear hb0 h hok
  go_enter Tryz.func113, Tryz.ntmps113
  go_wp2_with fail
  refine (noteValid_any _ s.note).mono ?_
  rintro e w1 ⟨rfl, hb1⟩
  have hw1 := bnext HB.out hb1
  obtain ⟨x0, x1⟩ := box_cells (box_after hb1 HX.out)
  cases hv : noteB s.note with
  | false =>
    have HF : Hid (spendableB s = false) := by show _ = _; rw [HU.out, hv]; rfl
    go_wp2_with fail
    go_ret
    exact ⟨ret_bool HF.out.symm, hw1⟩
  | true =>
    have HK := Lib.hid (nums1 w1 24 hkey)
    go_wp2_with fail
    refine (elements_any (fun _ => True) _ _ 1 [s.key] HK.out).mono ?_
    rintro e w2 ⟨rfl, hb2⟩
    have hbn := bnew (Below.refl w1.heap.size w1) (.cells #[.int .u64 s.key] 24)
    have hw2 := bnext (bnext hw1 hbn) hb2
    clear x0 x1
    obtain ⟨x0, x1⟩ := box_cells (box_after hb2 (box_after hbn (box_after hb1 HX.out)))
    cases he : elemsB [s.key] with
    | false =>
      have HF : Hid (spendableB s = false) := by show _ = _; rw [HU.out, hv, he]; rfl
      go_wp2_with fail
      go_ret
      exact ⟨ret_bool HF.out.symm, hw2⟩
    | true =>
      by_cases hd : 0 ≤ s.number ∧ s.number < 4 ∧ 0 ≤ s.position ∧ s.position ≤ 4095 ∧ s.path.length ≤ 12
      · obtain ⟨d1, d2, d3, d4, d5⟩ := hd
        have HD := Lib.hid (decide_eq_true (⟨d1, d2, d3, d4, d5⟩ : 0 ≤ s.number ∧ s.number < 4 ∧ 0 ≤ s.position ∧ s.position ≤ 4095 ∧ s.path.length ≤ 12))
        have d6 : (s.path.length : Int) ≤ 12 := by omega
        go_wp2_with fail
        refine (elements_any S w2 a cap s.path (numsR.keepB (numsR.keepB (numsR.keepB H.out hb1) hbn) hb2)).mono ?_
        rintro e w3 ⟨rfl, hb3⟩
        have HF : Hid (spendableB s = elemsB s.path) := by show _ = _; rw [HU.out, hv, he, HD.out]; rfl
        go_wp2_with fail
        go_ret
        exact ⟨ret_bool HF.out.symm, bnext hw2 hb3⟩
      · have HF : Hid (spendableB s = false) := by show _ = _; rw [HU.out, hv, he, decide_eq_false hd]; rfl
        by_cases d1 : 0 ≤ s.number
        · by_cases d2 : s.number < 4
          · by_cases d3 : 0 ≤ s.position
            · by_cases d4 : s.position ≤ 4095
              · have d6 : ¬ (s.path.length : Int) ≤ 12 := fun h => hd ⟨d1, d2, d3, d4, by omega⟩
                go_wp2_with fail
                go_ret
                exact ⟨ret_bool HF.out.symm, hw2⟩
              · go_wp2_with fail
                go_ret
                exact ⟨ret_bool HF.out.symm, hw2⟩
            · go_wp2_with fail
              go_ret
              exact ⟨ret_bool HF.out.symm, hw2⟩
          · go_wp2_with fail
            go_ret
            exact ⟨ret_bool HF.out.symm, hw2⟩
        · go_wp2_with fail
          go_ret
          exact ⟨ret_bool HF.out.symm, hw2⟩
end Go.Proofs.YtdjcdejapkkcmaaGreatDoor
