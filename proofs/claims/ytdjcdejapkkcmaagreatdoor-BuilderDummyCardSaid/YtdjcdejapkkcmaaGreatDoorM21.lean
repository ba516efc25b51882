/- The oracle's questions: a copy of one. -/
import Derived.Test.YtdjcdejapkkcmaaGreatDoorM13
import Derived.Test.YtdjcdejapkkcmaaGreatDoorM12
import Derived.Test.YtdjcdejapkkcmaaGreatDoorM20
namespace Go.Proofs.YtdjcdejapkkcmaaGreatDoor
open Go.ChangeShapes Go.WideShapes Go.ChangeAt Go.RowKit Go.Sort

set_option maxRecDepth 100000 in
set_option maxHeartbeats 1000000 in
theorem copiedQ_any (S : Nat → Prop) (w : World) (la an : Int) (a : Option Addr) (cap : Nat) (l : List Int) (h : numsR.rel S w [.slice a l.length cap] l) (hl : l.length ≤ 1000000) :
    Calls Tryz.prog 49 #[.agg #[.int .u64 la, .slice a l.length cap, .int .u64 an]] w fun e w' => (∃ a' c', e = .returned (.agg #[.int .u64 la, .slice a' l.length c', .int .u64 an])) ∧ Below w.heap.size w w' := by
  have hb := bnew (bnew (Below.refl w.heap.size w) (.cells #[.int .u64 la, .slice a l.length cap, .int .u64 an] 118)) (.cells #[.int .u64 0, .slice none 0 0, .int .u64 0] 118)
  have q0 := box_old (o' := .cells #[.int .u64 0, .slice none 0 0, .int .u64 0] 118) (box_new w (.cells #[.int .u64 la, .slice a l.length cap, .int .u64 an] 118))
  have q1 := box_new (w.alloc (.cells #[.int .u64 la, .slice a l.length cap, .int .u64 an] 118)) (.cells #[.int .u64 0, .slice none 0 0, .int .u64 0] 118)
  rw [World.size_alloc] at q1
  have H := Lib.hid (numsR.keepB h hb)
  have HL := Lib.hid hl
  have HB := Lib.hid hb
  have HQ0 := Lib.hid q0
  have HQ1 := Lib.hid q1
  clear h hl hb q0 q1
  go_enter Tryz.func49, Tryz.ntmps49
  go_upto_region 1 with (fail)
  generalize (w.alloc (.cells #[.int .u64 la, .slice a l.length cap, .int .u64 an] 118)).alloc (.cells #[.int .u64 0, .slice none 0 0, .int .u64 0] 118) = W at *
  have HSW : Hid (TwoB w.heap.size [.int .u64 la, .slice a l.length cap, .int .u64 an] 118 w.heap.size [.int .u64 la, .slice a l.length cap, .int .u64 an] 118 W.drew) := ⟨HQ0.out, HQ0.out⟩
  refine wp_region_held_drew (S := TwoB w.heap.size [.int .u64 la, .slice a l.length cap, .int .u64 an] 118 w.heap.size [.int .u64 la, .slice a l.length cap, .int .u64 an] 118) (by kernel_rfl) HSW.out (fun hHeld => ?_)
  have HBW : Hid (Below W.heap.size W W.drew) := (Below.refl _ _).drew
  obtain ⟨wa, hwa⟩ : ∃ x, W.drew = x := ⟨_, rfl⟩
  rw [hwa] at hHeld HSW HBW ⊢
  clear hwa
  go_simp
  refine tkV 0 rfl (fun wz hSz => by go_simp; all_goals with_reducible rfl) ?_
  go_simp
  refine tkV 1 rfl (fun wz hSz => by have cx := (box_cells hSz.one).1; go_simp; all_goals with_reducible rfl) ?_
  go_simp
  refine tkV 2 rfl (fun wz hSz => by go_simp; all_goals with_reducible rfl) ?_
  go_simp
  refine tkV 3 rfl (fun wz hSz => by have cx := (box_cells hSz.one).1; go_simp; all_goals with_reducible rfl) ?_
  go_simp
  refine tkV 5 rfl (fun wz hSz => by go_simp; all_goals with_reducible rfl) ?_
  go_simp
  refine tkV 6 rfl (fun wz hSz => by have cx := (box_cells hSz.one).1; go_simp; all_goals with_reducible rfl) ?_
  go_simp
  refine rd1 4 rfl (fun K hK => ?_)
  go_simp
  refine (copied_any S wa a cap l (numsR.keepB H.out HBW.out) HL.out).mono ?_
  rintro E w4 ⟨a', c', rfl, -, hb4⟩
  have HS4 : Hid (TwoB w.heap.size [.int .u64 la, .slice a l.length cap, .int .u64 an] 118 w.heap.size [.int .u64 la, .slice a l.length cap, .int .u64 an] 118 w4) := ⟨box_after hb4 HSW.out.one, box_after hb4 HSW.out.one⟩
  have HB4 := Lib.hid (bnext HB.out (bnext HBW.out hb4))
  have HQ4 := Lib.hid (box_after (bnext HBW.out hb4) HQ1.out)
  clear hHeld hb4
  refine hK.out _ _ HS4.out (fun hHeld => ?_)
  clear hK K
  go_simp
  refine tkV 7 rfl (fun wz hSz => by go_simp; all_goals with_reducible rfl) ?_
  go_simp
  refine rd1 8 rfl (fun K hK => ?_)
  refine step_store_row rfl _ _ _ rfl (w.heap.size + 1) _ rfl rfl _ _ HQ4.out (by kernel_rfl) rfl (by kernel_rfl) ?_
  clear hHeld
  refine hK.out _ _ (TwoB.setRow HS4.out (by omega) (by omega) _) (fun hHeld => ?_)
  clear hK K
  refine wpAnyH_done (by kernel_rfl) ?_ _
  have HF := Lib.hid (setRow_heap _ _ _ #[.int .u64 la, .slice a' l.length c', .int .u64 an] _ _ HQ4.out)
  go_wp2_with fail
  (try simp only [Exit.inBlock, Exit.then])
  refine bodyPost_ret (ret_c Tryz.results49 rfl HF.out Tryz.underlying118 rfl (by kernel_rfl)) rfl ?_
  exact ⟨⟨_, _, rfl⟩, below_setRow (g := w.heap.size + 1) HB4.out (by omega) _⟩
end Go.Proofs.YtdjcdejapkkcmaaGreatDoor
/- The oracle's questions: as many as were asked. -/
namespace Go.Proofs.YtdjcdejapkkcmaaGreatDoor
open Go.ChangeShapes Go.WideShapes Go.ChangeAt Go.RowKit Go.Sort

/-- 'make' of n elements of k cells: the block alone. -/
theorem wpList_make_box {P : Program} {w : World} {ops : Array Oper} {rest : List Oper} {o : Oper} {a : Act} {Q : Exit → Act → World → Prop} (hg : o.guard = none) (l c : Operand) {t : TypeId} (hop : o.op = Op.makeSlice t l c)
    {e : TypeId} {k bytes : Nat} (hT : ElemTy P t e k bytes) {kl kc : IntKind} {L C : Int} {n : Nat} (hl : a.eval l = .int kl L) (hc : a.eval c = .int kc C) (hL : L = (n : Int)) (hC : C = (n : Int))
    (b2 : bytes * n ≤ 281474976710656) (b3 : n ≤ maxLen)
    (hK : ∀ cur : Array Value, cur.size = n * k → ∀ w', w'.heap[w.heap.size]? = some (.cells cur e (0, 0)) → Below w.heap.size w w' → wpList P ops Q rest (a.put o.dst (.slice (some ⟨w.heap.size, 0, none⟩) n n)) w') :
    wpList P ops Q (o :: rest) a w := by
  obtain ⟨ht, hn, i, z, hi, hz, hsize, hby, hzs⟩ := hT
  refine wpList_plain hg fun K hK' => ?_
  subst hL hC
  have h63 : (n : Int) ≤ 9223372036854775807 := by unfold maxLen at b3; omega
  have hb' : (i.bytes : Int) * (n : Int) ≤ 281474976710656 := by
    have h : ((i.bytes * n : Nat) : Int) ≤ 281474976710656 := by rw [hby]; omega
    rwa [Int.natCast_mul] at h
  have hr := run_make (P := P) w t e i z ht hi hz kl kc n n (by omega) (Int.le_refl _) hb' h63
  simp only [Int.toNat_natCast, hsize] at hr
  unfold Oper.wp
  simp [execOp, hop, hl, hc, hr, Result.andThen]
  refine hK' _ _ (hK (madeCells z.cells (n * k)) (by simp [size_madeCells]) _ (box_new w _) (bnew (Below.refl _ _) _))
theorem Tryz.etyQu : ElemTy Tryz.prog 70 118 3 40 := ElemTy.of Tryz.underlying70 (z := .agg #[.int .u64 0, .slice none 0 0, .int .u64 0]) (by kernel_rfl) rfl (by omega)
theorem quR_sl {F : Nat → Prop} {w wr : World} {B n cap : Nat} {a : Option Addr} {l : List QuM} (h : (sliceR quR).rel F w [.slice a n cap] l) (hb : Below B w wr) (hB : w.heap.size = B) : (sliceR quR).rel F wr [.slice a n cap] l := (sliceR quR).keepB h (by rw [hB]; exact hb)
set_option maxRecDepth 100000 in
set_option maxHeartbeats 2000000 in
theorem questions_len (F : Nat → Prop) (w : World) (p : Nat) (m : OrM) (ho : OrG F p w m) :
    Calls Tryz.prog 19 #[.pointer (some ⟨p, 0, none⟩)] w fun e w' => (∃ a c, e = .returned (.slice a m.qs.length c)) ∧ Below w.heap.size w w' := by
  obtain ⟨hok, mk, ms, mp, va, km, sm, pm, hm⟩ := ho
  obtain ⟨a, cap, rfl, -, -⟩ := sliceR.form hm.row.slice
  have hlen : m.qs.length ≤ 100000 := by have := hok.lim; omega
  have HX := Lib.hid hm.box
  have HR := Lib.hid hm.row.slice
  have HOK := Lib.hid hok
  obtain ⟨n, hn⟩ : ∃ n, m.qs.length = n := ⟨_, rfl⟩
  rw [hn] at HX HR hlen ⊢
  have HN := Lib.hid hn
  have HL := Lib.hid hlen
  clear hok hm hn hlen
  obtain ⟨x0, x1⟩ := box_cells HX.out
  go_enter Tryz.func19, Tryz.ntmps19
  go_wp2_with (at_make; refine wpList_make_box rfl _ _ rfl Tryz.etyQu rfl rfl (n := n) rfl rfl (by have := HL.out; omega) (by have := HL.out; unfold maxLen; omega) ?_)
  intro cur hcs w1 hg hb1
  obtain ⟨B, hB⟩ : ∃ x, w.heap.size = x := ⟨_, rfl⟩
  have HBE := Lib.hid hB
  rw [hB] at hg ⊢
  have HG := Lib.hid hg
  have HCS := Lib.hid hcs
  have HB1 : Hid (Below B w w1) := by rw [← hB]; exact hb1
  have HX1 := Lib.hid (box_after hb1 HX.out)
  clear x0 x1 hcs hg hb1 hB
  obtain ⟨x0, x1⟩ := box_cells HX1.out
  go_wp2_with fail
  clear x0 x1
  go_loopw [17] (fun vi wr => ∃ (i : Nat) (cur : Array Value), i ≤ n ∧ vi = .int .i64 i ∧ Hid (wr.heap[B]? = some (.cells cur 118 (0, 0)) ∧ cur.size = n * 3) ∧ Hid (Below B w wr)) (fun vi _ => n - (intOf vi).toNat)
  case atStart => exact ⟨0, cur, Nat.zero_le _, rfl, ⟨HG.out, HCS.out⟩, HB1⟩
  case round =>
    clear HG HCS HX1 HB1
    obtain ⟨i, cur, hi, rfl, HG, HBR⟩ := hrel
    by_cases hlt : i < n
    · have HSZ : Hid (w.heap.size ≤ wr.heap.size ∧ B < wr.heap.size) := ⟨HBR.out.size, box_lt HG.out.1⟩
      have hrr := quR_sl HR.out HBR.out HBE.out
      obtain ⟨b, off, es, rfl, hb, hbl, hrel, hca⟩ := sliceR.at hrr i (by rw [HN.out]; exact hlt)
      obtain ⟨qa, qc, rfl, ok1, ok2, hq⟩ := quR.inv hrel
      have hil : i < m.qs.length := by rw [HN.out]; exact hlt
      have hle : m.qs[i].elems.length ≤ 1000 := (HOK.out.ask _ (List.getElem_mem _)).2.2
      obtain ⟨y, hy⟩ : ∃ x, m.qs[i] = x := ⟨_, rfl⟩
      rw [hy] at hrel hca hq hle ok1 ok2
      rw [quR.n] at hca
      have c0 : wr.cell? ⟨b, off + i * 3, none⟩ = some (.int .u64 y.label) := hca 0 _ rfl
      have c1 : wr.cell? ⟨b, off + i * 3 + 1, none⟩ = some (.slice qa y.elems.length qc) := hca 1 _ rfl
      have c2 : wr.cell? ⟨b, off + i * 3 + 2, none⟩ = some (.int .u64 y.ans) := hca 2 _ rfl
      have hbn := bnew (Below.refl wr.heap.size wr) (.cells #[.int .u64 y.label, .slice qa y.elems.length qc, .int .u64 y.ans] 118)
      have HQN := Lib.hid (numsR.keepB hq hbn)
      have HQB := Lib.hid (box_new wr (.cells #[.int .u64 y.label, .slice qa y.elems.length qc, .int .u64 y.ans] 118))
      have HGN := Lib.hid (box_after hbn HG.out.1)
      have HBN : Hid (Below B w (wr.alloc (.cells #[.int .u64 y.label, .slice qa y.elems.length qc, .int .u64 y.ans] 118))) := HBR.out.trans (hbn.mono (Nat.le_of_lt HSZ.out.2))
      have HLE : Hid (y.elems.length ≤ 1000000) := by show _ ≤ _; omega
      have HLQ := Lib.hid hlt
      clear hrr hb hbl hrel hca ok1 ok2 hq hle hy hbn hi hil
      go_upto_region 5 with (fail)
      obtain ⟨bq, hbq⟩ : ∃ x, wr.heap.size = x := ⟨_, rfl⟩
      rw [hbq] at HQB
      try rw [hbq]
      generalize wr.alloc (.cells #[.int .u64 y.label, .slice qa y.elems.length qc, .int .u64 y.ans] 118) = wn at *
      clear c0 c1 c2 hbq hlt
      obtain ⟨x0, x1⟩ := box_cells HQB.out
      go_wp2_with fail
      refine (copiedQ_any _ wn y.label y.ans qa qc y.elems HQN.out HLE.out).mono ?_
      rintro e w3 ⟨⟨a3, c3, rfl⟩, hb3⟩
      have HG3 := Lib.hid (box_after hb3 HGN.out)
      have HB3 : Hid (Below B w w3) := HBN.out.trans (hb3.mono (Nat.le_of_lt (box_lt HGN.out)))
      clear x0 x1 hb3
      have hlq := HLQ.out
      have hsz := HG.out.2
      obtain ⟨d0, d1⟩ := box_cells HG3.out
      have s0 : w3.cell? ⟨B, i * 3, none⟩ = some (cur[i * 3]'(by omega)) := by rw [d0]; exact Array.getElem?_eq_getElem _
      have s1 : w3.cell? ⟨B, i * 3 + 1, none⟩ = some (cur[i * 3 + 1]'(by omega)) := by rw [d0]; exact Array.getElem?_eq_getElem _
      have s2 : w3.cell? ⟨B, i * 3 + 2, none⟩ = some (cur[i * 3 + 2]'(by omega)) := by rw [d0]; exact Array.getElem?_eq_getElem _
      generalize cur[i * 3]'(by omega) = v0 at s0
      generalize cur[i * 3 + 1]'(by omega) = v1 at s1
      generalize cur[i * 3 + 2]'(by omega) = v2 at s2
      have hg4 := box_set (i := i * 3 + 2) (v := .int .u64 y.ans) (box_set (i := i * 3 + 1) (v := .slice a3 y.elems.length c3) (box_set (i := i * 3) (v := .int .u64 y.label) HG3.out))
      have HG4 := Lib.hid hg4
      have HB4 := Lib.hid (((HB3.out.setCell (p := ⟨B, i * 3, none⟩) (Nat.le_refl _) (.int .u64 y.label)).setCell (p := ⟨B, i * 3 + 1, none⟩) (Nat.le_refl _) (.slice a3 y.elems.length c3)).setCell (p := ⟨B, i * 3 + 2, none⟩) (Nat.le_refl _) (.int .u64 y.ans))
      have HS4 : Hid ((((cur.setIfInBounds (i * 3) (.int .u64 y.label)).setIfInBounds (i * 3 + 1) (.slice a3 y.elems.length c3)).setIfInBounds (i * 3 + 2) (.int .u64 y.ans)).size = n * 3) := by show _ = _; simp [hsz]
      have hl2 := HL.out
      clear d0 hsz hg4
      go_upto_region 6 with (fail)
      obtain ⟨w4, hw4⟩ : ∃ x, ((w3.setCell ⟨B, i * 3, none⟩ (.int .u64 y.label)).setCell ⟨B, i * 3 + 1, none⟩ (.slice a3 y.elems.length c3)).setCell ⟨B, i * 3 + 2, none⟩ (.int .u64 y.ans) = x := ⟨_, rfl⟩
      rw [hw4] at HG4 HB4 ⊢
      clear hw4 s0 s1 s2 d1
      go_wp2_with fail
      go_roundw
      case rel => exact ⟨i + 1, _, hlq, by go_num, ⟨HG4.out, HS4.out⟩, HB4⟩
      case measure => simp [intOf]; omega
    · obtain rfl : i = n := by omega
      have HB5 : Hid (Below w.heap.size w wr) := by rw [HBE.out]; exact HBR.out
      go_wp2_with fail
      go_ret
      exact ⟨⟨_, _, rfl⟩, HB5.out⟩
end Go.Proofs.YtdjcdejapkkcmaaGreatDoor
/- The builder's laws: valid rules for the open mode. -/
namespace Go.Proofs.YtdjcdejapkkcmaaGreatDoor
open Go.ChangeShapes Go.WideShapes Go.ChangeAt Go.RowKit

def openR (mode D : Int) : RuM := ⟨mode, D, 0, 0, 0, 0, 1, 1, 1⟩
set_option maxRecDepth 100000 in
theorem open43_any (w : World) (mode : Int) : Calls Tryz.prog 16 #[.int .i64 mode] w fun e w' => e = .returned (.agg (ruC (openR mode 2))) ∧ Below w.heap.size w w' := by
  have HQ0 := Lib.hid (box_new w (.cells #[.int .i64 0, .int .i64 0, .int .i64 0, .int .i64 0, .int .i64 0, .int .u64 0, .int .i64 0, .int .i64 0, .int .u64 0] 26))
  have HB := Lib.hid (bnew (Below.refl w.heap.size w) (.cells #[.int .i64 0, .int .i64 0, .int .i64 0, .int .i64 0, .int .i64 0, .int .u64 0, .int .i64 0, .int .i64 0, .int .u64 0] 26))
  go_enter Tryz.func16, Tryz.ntmps16
  have HF := Lib.hid (setRow_heap _ _ _ #[.int .i64 mode, .int .i64 2, .int .i64 0, .int .i64 0, .int .i64 0, .int .u64 0, .int .i64 1, .int .i64 1, .int .u64 1] _ _ HQ0.out)
  go_wp2_with (refine wpList_store_row rfl _ _ _ rfl w.heap.size _ rfl rfl _ _ HQ0.out (by kernel_rfl) rfl (by kernel_rfl) ?_)
  (try simp only [Exit.inBlock, Exit.then])
  refine bodyPost_ret (ret_c Tryz.results16 rfl HF.out Tryz.underlying26 rfl (by kernel_rfl)) rfl ?_
  exact ⟨rfl, below_setRow (g := w.heap.size) HB.out (Nat.le_refl _) _⟩
end Go.Proofs.YtdjcdejapkkcmaaGreatDoor
/- The builder's laws: the example of the chapter, computed. -/
namespace Go.Proofs.YtdjcdejapkkcmaaGreatDoor
open Go.ChangeShapes Go.WideShapes Go.ChangeAt Go.RowKit

def reqW (fee : Int) : ReqM := ⟨nodeT [] 2 0, [], [⟨addrS 1 0, 5⟩], 7, 0, fee, hashS 7 [hashS 9 [3]], 0, hashS 9 [3], 9, 4⟩
def mW : OrM := (buildG ⟨false, 0, 0, []⟩ (openR 2 2) 2 (reqW 2)).2.2.2
set_option maxRecDepth 100000 in
theorem awake_build : (buildG ⟨false, 0, 0, []⟩ (openR 2 2) 2 (reqW 2)).1 = 0 ∧ (buildG ⟨false, 0, 0, []⟩ (openR 2 2) 2 (reqW 2)).2.1.marks.length = 0 ∧ (buildG ⟨false, 0, 0, []⟩ (openR 2 2) 2 (reqW 2)).2.1.outs.length = 1 ∧ (buildG ⟨false, 0, 0, []⟩ (openR 2 2) 2 (reqW 2)).2.2.1.outs.map (·.value) = [5] := by decide +kernel
set_option maxRecDepth 100000 in
theorem awake_again : (buildG mW (openR 2 2) 2 (reqW 1)).1 = 13 ∧ (buildG mW (openR 2 2) 2 (reqW 1)).2.2.2.qs.length = mW.qs.length := by decide +kernel
end Go.Proofs.YtdjcdejapkkcmaaGreatDoor
/- The builder: Statement and Prove in Build. -/
namespace Go.Proofs.YtdjcdejapkkcmaaGreatDoor
open Go.ChangeShapes Go.WideShapes Go.ChangeAt Go.RowKit Go.Sort

theorem OrM.ask_ideal (m : OrM) (label : Int) (l : List Int) : (m.ask label l).2.ideal = m.ideal := by
  unfold OrM.ask
  split
  · split
    · rfl
    · split <;> rfl
  · rfl
theorem OrM.mark_ideal (m : OrM) (key rho : Int) : (m.mark key rho).2.ideal = m.ideal := by
  unfold OrM.mark
  split
  · exact OrM.ask_ideal _ _ _
  · rfl
theorem OrM.commit_ideal (m : OrM) (n : NoteM) : (m.commit n).2.ideal = m.ideal := by
  unfold OrM.commit
  split
  · exact OrM.ask_ideal _ _ _
  · rfl
theorem OrM.env_ideal (m : OrM) (p0 p1 : Int) (n : NoteM) (e : Int) : (m.env p0 p1 n e).2.2.ideal = m.ideal := by
  unfold OrM.env OrM.seal
  split
  · split <;> rfl
  · rfl
theorem OrM.expo_ideal (m : OrM) (sd : Int) (ix : Nat) : (m.expo sd ix).2.ideal = m.ideal := by
  unfold OrM.expo
  split <;> rfl
theorem OrM.make_ideal (m : OrM) (y : PayM) (og sd : Int) (ix : Nat) : (m.make y og sd ix).2.ideal = m.ideal := by
  unfold OrM.make
  simp only [OrM.env_ideal, OrM.expo_ideal, OrM.commit_ideal]
theorem markL_ideal (m : OrM) (l : List SpentM) : ∀ k, (markL m l k).2.2.ideal = m.ideal
  | 0 => rfl
  | k + 1 => by
    rw [markL]
    split
    · exact (OrM.mark_ideal _ _ _).trans (markL_ideal m l k)
    · exact markL_ideal m l k
theorem outL_ideal (m : OrM) (og sd : Int) (l : List PayM) : ∀ k, (outL m og sd l k).2.2.ideal = m.ideal
  | 0 => rfl
  | k + 1 => by
    rw [outL]
    split
    · exact (OrM.make_ideal _ _ _ _ _).trans (outL_ideal m og sd l k)
    · exact outL_ideal m og sd l k
/-- What Prove gives on the statement of a transaction. -/
def pvG (m : OrM) (mode : Int) (D : Nat) (t : TxM) (x : WitM) : Int × List Int × OrM := if validE t = 0 then proveG m mode D (stOf D t (bindS t)) x else (1, [], m)
theorem pvG_build {m : OrM} {mode : Int} {D : Nat} {t : TxM} {x : WitM} : (if validE t = 0 then
      let g := proveG m mode D (stOf D t (bindS t)) x
      if g.1 = 0 then ((0 : Int), { t with proof := g.2.1 }, x, g.2.2) else (g.1, tx0, wit0, g.2.2)
    else (1, tx0, wit0, m)) = if (pvG m mode D t x).1 = 0 then (0, { t with proof := (pvG m mode D t x).2.1 }, x, (pvG m mode D t x).2.2) else ((pvG m mode D t x).1, tx0, wit0, (pvG m mode D t x).2.2) := by
  unfold pvG
  split
  · rfl
  · rfl
/-- What Statement gives Build. -/
def StatTo (r : RuM) (D : Nat) (t : TxM) (w : World) (e : Ending) (w' : World) : Prop :=
  ∃ sC : Array Value, e = .returned (.agg sC) ∧ Below w.heap.size w w' ∧ Hid (∀ (F S' : Nat → Prop) (p : Nat) (m : OrM) (x : WitM) (ia oa : Option Addr) (ic oc : Nat) (seed : Int), OrG F p w' m → (∀ k, F k → k < w'.heap.size) → settE m.ideal r.mode r.depth r.bl r.bu r.qu r.rew r.win r.fin r.work = 0 → WtIn S' w' x ia oa ic oc → m.n + m.qs.length + 100 ≤ 100000 →
    Calls Tryz.prog 35 #[.pointer (some ⟨p, 0, none⟩), .agg (ruC r), .agg sC, .agg (witC x ia ic oa oc), .int .u64 seed] w' (ProveTo F p (pvG m r.mode D t x) w'))
theorem stat_any (S : Nat → Prop) (w : World) (t : TxM) (ma oa pa : Option Addr) (mc oc pc : Nat) (h : TxIn S w t ma oa pa mc oc pc) (D : Nat) (hD : D ≤ 12) (r : RuM) (hr : r.mode ≠ 1) (hrd : r.depth = D) :
    Calls Tryz.prog 36 #[.agg (txC t ma oa pa mc oc pc), .int .i64 D] w (StatTo r D t w) := by
  by_cases hv : validE t = 0
  · refine (statementX_any S w t ma oa pa mc oc pc h hv D hD).mono ?_
    rintro e w' ⟨bd, xa, ca, ra, xc, cc, rc, hbd, -, -, rfl, hs, hb⟩
    refine ⟨_, rfl, hb, fun F S' p m x ia2 oa2 ic2 oc2 seed ho hF hse ht hlim => ?_⟩
    have e0 := hbd.out
    subst e0
    have e1 : (stOf D t (bindS t)).commits.length = t.outs.length := List.length_map ..
    have e2 : (stOf D t (bindS t)).rhos.length = t.outs.length := rhosTo_len _ _
    have h2 := prove_gen F (fun _ => True) S' w' p m ho hF r hr hse D hrd (stOf D t (bindS t)) rfl xa ca ra xc cc rc hs x ia2 oa2 ic2 oc2 ht seed hlim
    unfold smC at h2
    rw [e1, e2] at h2
    unfold pvG
    rw [if_pos hv]
    exact h2
  · refine (statement0_any S w t ma oa pa mc oc pc h hv D).mono ?_
    rintro e w' ⟨rfl, hb⟩
    refine ⟨_, rfl, hb, fun F S' p m x ia2 oa2 ic2 oc2 seed ho hF hse ht hlim => ?_⟩
    unfold pvG
    rw [if_neg hv]
    refine (prove0_any F w' p m ho r hse x ia2 oa2 ic2 oc2 seed).mono ?_
    rintro e w2 ⟨rfl, hb2⟩
    exact ⟨[], none, 0, rfl, rfl, sliceR.nil, by simp, ho.keepB hb2, Kept.of_below hb2⟩
/-- The loads of Build's last region. -/
structure BuS (w : World) (T : Nat) (rl ql tl xl : List Value) (wz : World) : Prop where
  rules : wz.heap[w.heap.size]? = some (.cells rl.toArray 26 (0, 0))
  req : wz.heap[w.heap.size + 1]? = some (.cells ql.toArray 39 (0, 0))
  tx : wz.heap[T]? = some (.cells tl.toArray 45 (0, 0))
  wit : wz.heap[T + 1]? = some (.cells xl.toArray 48 (0, 0))
theorem BuAt.loads {F S : Nat → Prop} {w : World} {p : Nat} {r : RuM} {q : ReqM} {ia oa : Option Addr} {ic oc : Nat} {T : Nat} {P : Nat → Nat → Prop} {m1 : OrM} {ms : List Int} {is : List SpentM} {os : List OutM} {ns : List NoteM} {am ai ao an : Option Addr} {cm ci co cn : Nat} {wr : World} (h : BuAt F S w p r q ia oa ic oc T P m1 ms is os ns am ai ao an cm ci co cn wr) : BuS w T (ruC r).toList (reqC q ia ic oa oc).toList [.int .u64 q.anchor, .slice am ms.length cm, .slice ao os.length co, .int .u64 q.dep, .int .u64 q.wd, .int .u64 q.fee, .int .u64 q.acc, .int .u64 q.nonce, .int .i64 q.exp, .slice none 0 0] [.slice ai is.length ci, .slice an ns.length cn, .int .u64 q.secret] wr := ⟨h.rules, h.req, h.tx, h.wit⟩
def BuAt.txm (q : ReqM) (ms : List Int) (os : List OutM) : TxM := ⟨q.anchor, ms, os, q.dep, q.wd, q.fee, q.acc, q.nonce, q.exp, []⟩
theorem BuAt.txin {F S : Nat → Prop} {w : World} {p : Nat} {r : RuM} {q : ReqM} {ia oa : Option Addr} {ic oc : Nat} {T : Nat} {P : Nat → Nat → Prop} {m1 : OrM} {ms : List Int} {is : List SpentM} {os : List OutM} {ns : List NoteM} {am ai ao an : Option Addr} {cm ci co cn : Nat} {wr : World} (h : BuAt F S w p r q ia oa ic oc T P m1 ms is os ns am ai ao an cm ci co cn wr) (hq : ReqOk q) : TxIn (fun k => P 2 k ∨ P 4 k) wr (BuAt.txm q ms os) am ao none cm co 0 :=
  ⟨hq.anchor, hq.dep, hq.wd, hq.fee, hq.acc, hq.nonce, hq.exp, numsR.mono h.marks.slice fun _ _ h => .inl h, outsR.mono h.outs.slice fun _ _ h => .inr h, sliceR.nil⟩
theorem BuAt.wtin {F S : Nat → Prop} {w : World} {p : Nat} {r : RuM} {q : ReqM} {ia oa : Option Addr} {ic oc : Nat} {T : Nat} {P : Nat → Nat → Prop} {m1 : OrM} {ms : List Int} {is : List SpentM} {os : List OutM} {ns : List NoteM} {am ai ao an : Option Addr} {cm ci co cn : Nat} {wr : World} (h : BuAt F S w p r q ia oa ic oc T P m1 ms is os ns am ai ao an cm ci co cn wr) (hq : ReqOk q) : WtIn (fun k => P 3 k ∨ P 5 k) wr ⟨is, ns, q.secret⟩ ai an ci cn :=
  ⟨spentsR.mono h.ins.slice fun _ _ h => .inl h, notesR.mono h.notes.slice fun _ _ h => .inr h, hq.secret⟩
end Go.Proofs.YtdjcdejapkkcmaaGreatDoor
