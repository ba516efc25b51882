/- BuilderHides: the law. -/
import Derived.Test.YtdjcdejapkkcmaaGreatDoorM22
import Derived.BigQuiet
namespace Go.Proofs.YtdjcdejapkkcmaaGreatDoor
open Go.ChangeShapes Go.WideShapes Go.ChangeAt Go.RowKit Go.Sort

theorem rules_range {w : World} {B : Nat} {c : CaseM} {x : CaAd} {t : TypeId} (h : w.heap[B]? = some (.cells (caC c x) t (0, 0))) : w.rangeAt B 0 [.int .i64 c.rules.mode, .int .i64 c.rules.depth, .int .i64 c.rules.bl, .int .i64 c.rules.bu, .int .i64 c.rules.qu, .int .u64 c.rules.rew, .int .i64 c.rules.win, .int .i64 c.rules.fin, .int .u64 c.rules.work] := fun j v hv => by
  rw [Nat.zero_add, (box_cells h).1]
  match j, hv with
  | 0, hv => exact hv
  | 1, hv => exact hv
  | 2, hv => exact hv
  | 3, hv => exact hv
  | 4, hv => exact hv
  | 5, hv => exact hv
  | 6, hv => exact hv
  | 7, hv => exact hv
  | 8, hv => exact hv
  | j + 9, hv => simp at hv
/-- What the law asks of the second case, made out of the first. -/
theorem quiet_dr {P : Program} {f : FuncId} {args : Array Value} {w : World} {n : Nat} {v : Value}
    (h : Calls P f args (w.drewN n) fun e w' => e = .returned v ∧ w.drewN n = w') : Calls P f args (w.drewN n) fun e w'' => e = .returned v ∧ ∃ m, w'' = w.drewN m :=
  h.mono fun _ _ ⟨he, hm⟩ => ⟨he, n, hm.symm⟩
structure Small2 (c1 d1 : CaseM) : Prop where
  s1 : smallC c1 = true
  s2 : smallC d1 = true
  coins : c1.coins.length = d1.coins.length
  ins : c1.spend.length + c1.dums.length = d1.spend.length + d1.dums.length
  outs : c1.outs.length = d1.outs.length
theorem smallC_facts {c : CaseM} (h : smallC c = true) : c.coins.length ≤ 8 ∧ c.spend.length ≤ 5 ∧ c.dums.length ≤ 5 ∧ c.outs.length ≤ 5 := by
  have h := of_decide_eq_true h
  exact ⟨h.1, h.2.1, h.2.2.1, h.2.2.2.1⟩
theorem wpList_load_rowG {P : Program} {ops : Array Oper} {rest : List Oper} {o : Oper} {a : Act} {w : World} {Q : Exit → Act → World → Prop} (hgw : Region.wanted o (yielded ops a.tmps) = true) (ty : TypeId) (x : Operand) (ho : o.op = .load ty x)
    (g : Nat) (hx : a.eval x = .pointer (some ⟨g, 0, none⟩)) (t : TypeId) (cs : Array Value) (fr : Nat × Nat) (d : TypeDesc) (hg : w.heap[g]? = some (.cells cs t fr))
    (hu : P.underlying ty = some d) (hd : (match d with | .struct _ | .array _ _ => true | _ => false) = true) (hi : (P.info? ty).map (·.size) = some cs.size)
    (h : wpList P ops Q rest (a.put o.dst (.agg cs)) w) : wpList P ops Q (o :: rest) a w :=
  wpList_step fun K hK => by rw [if_pos hgw]; exact wp_load_row ty x ho g hx t cs fr d hg hu hd hi (hK _ _ h)
/-- The second case's rules and amounts. -/
structure Like (c1 d1 : CaseM) : Prop where
  rules : d1.rules = c1.rules
  orc : d1.orc = c1.orc
  dep : d1.dep = c1.dep
  wd : d1.wd = c1.wd
  fee : d1.fee = c1.fee
  owner : d1.owner = c1.owner
  nonce : d1.nonce = c1.nonce
  exp : d1.exp = c1.exp
theorem hides_end {c1 d1 : CaseM} {q1 q2 : ReqM} {m1 m2 m3 m4 : OrM} {t1 t2 : TxM} {x1 x2 : WitM} (hl : Like c1 d1) (hs : Small2 c1 d1) (hm : c1.rules.mode = 3) (h1 : SetP c1 c1.rules.depth.toNat q1 m1) (h2 : SetP d1 d1.rules.depth.toNat q2 m2) (e1 : m1.n = c1.coins.length) (e2 : m2.n = c1.coins.length)
    (g1 : buildG m1 c1.rules c1.rules.depth.toNat q1 = (0, t1, x1, m3)) (g2 : buildG m2 d1.rules d1.rules.depth.toNat q2 = (0, t2, x2, m4)) (f1 : m3.n = c1.coins.length + q1.ins.length + 5 * q1.outs.length + 8 + 4 * (q1.ins.length + q1.outs.length)) (f2 : m4.n = c1.coins.length + q1.ins.length + 5 * q1.outs.length + 8 + 4 * (q1.ins.length + q1.outs.length)) : t2 = t1 := by
  rw [hl.rules] at h2 g2
  exact (hides_plain h1 h2 hl.orc hl.dep hl.wd hl.fee hl.owner hl.nonce hl.exp hm hs.coins hs.ins hs.outs e1 e2 g1 g2 f1 f2).symm
set_option maxRecDepth 100000 in
set_option maxHeartbeats 8000000 in
theorem hides_any (S S' : Nat → Prop) (w : World) (htab : TabAt w) (c d : CaseM) (x y : CaAd) (hc : CaseOk c) (hd : CaseOk d) (h : CaseAt S w c x) (h' : CaseAt S' w d y) :
    Calls Tryz.prog 3 #[.agg (caC c x), .agg (caC d y)] w fun e w' => e = .returned (.bool true) ∧ Below w.heap.size w w' := by
  have hf := Fr.al2 (fun _ => False) w (caC c x) (caC d y) 32 32
  have HW := Lib.hid hf
  have HT := Lib.hid htab
  have HC := Lib.hid hc
  have HD := Lib.hid hd
  have HA := Lib.hid h
  have HA' := Lib.hid h'
  clear hf htab hc hd h h'
  go_enter Tryz.func3, Tryz.ntmps3
  go_upto_region 1 with (fail)
  obtain ⟨W, hW⟩ : ∃ z, (w.alloc (.cells (caC c x) 32)).alloc (.cells (caC d y) 32) = z := ⟨_, rfl⟩
  rw [hW] at HW ⊢
  obtain ⟨B, hB⟩ : ∃ z, w.heap.size = z := ⟨_, rfl⟩
  obtain ⟨D, hD⟩ : ∃ z, w.heap.size + 1 = z := ⟨_, rfl⟩
  rw [hD] at HW ⊢
  rw [hB] at HW ⊢
  have HFW := HW
  have hBD : B ≠ D := by omega
  have hDB : D ≠ B := by omega
  have HNE := Lib.hid hBD
  have HSZ : Hid (B < D) := by show _ < _; omega
  clear HW hW
  go_wp2_with fail
  refine (awake43_any W (HT.out.keepB HFW.out.below)).mono ?_
  rintro e w1 ⟨rfl, hb1⟩
  have HF1 := Lib.hid (HFW.out.keepB hb1)
  clear hb1 HFW
  obtain ⟨x0, x1⟩ := box_cells (HF1.out.box i0)
  obtain ⟨y0, y1⟩ := box_cells (HF1.out.box i1)
  have HF2 := Lib.hid ((HF1.out.setL i0 21 (.int .u8 0)).setL i1 21 (.int .u8 0))
  go_upto_region 4 with (fail)
  obtain ⟨w3, hw3⟩ : ∃ z, (w1.setCell ⟨B, 21, none⟩ (.int .u8 0)).setCell ⟨D, 21, none⟩ (.int .u8 0) = z := ⟨_, rfl⟩
  rw [hw3] at HF2 ⊢
  clear hw3 x0 x1 y0 y1 HF1 hBD hDB hB hD
  obtain ⟨x0, x1⟩ := box_cells (HF2.out.box i0)
  have HF3 := Lib.hid (HF2.out.setL i0 0 (.int .i64 3))
  go_upto_region 5 with (fail)
  obtain ⟨w4, hw4⟩ : ∃ z, w3.setCell ⟨B, 0, none⟩ (.int .i64 3) = z := ⟨_, rfl⟩
  rw [hw4] at HF3 ⊢
  clear hw4 x0 x1 HF2
  obtain ⟨c1, hc1⟩ : ∃ z : CaseM, ⟨⟨3, c.rules.depth, c.rules.bl, c.rules.bu, c.rules.qu, c.rules.rew, c.rules.win, c.rules.fin, c.rules.work⟩, c.orc, c.coins, c.spend, c.dums, c.outs, c.dep, c.wd, c.fee, c.owner, c.nonce, c.exp, c.seed, 0, c.by_⟩ = z := ⟨_, rfl⟩
  have hf4 := HF3.out.map i0 (A' := boxA B (caC ⟨⟨3, c.rules.depth, c.rules.bl, c.rules.bu, c.rules.qu, c.rules.rew, c.rules.win, c.rules.fin, c.rules.work⟩, c.orc, c.coins, c.spend, c.dums, c.outs, c.dep, c.wd, c.fee, c.owner, c.nonce, c.exp, c.seed, 0, c.by_⟩ x) 32) (fun _ h => h)
  rw [hc1] at hf4
  have HF4 := Lib.hid hf4
  have HC1 : Hid (CaseOk c1 ∧ c1.rules.mode = 3 ∧ c1.spoil = 0 ∧ CaseAt S w c1 x) := by
    rw [← hc1]
    have h := HC.out
    have a := HA.out
    exact ⟨⟨h.orc, h.dep, h.wd, h.fee, h.owner, h.nonce, h.exp, h.seed⟩, rfl, rfl, ⟨a.coins, a.spend, a.dums, a.outs⟩⟩
  clear hc1 hf4 HF3 HC HA
  go_cut [4] from 28 (fun v4 wc => v4 = .bool false ∧ Hid (Fr [boxA B (caC c1 x) 32, boxA D (caC ⟨c1.rules, c1.orc, d.coins, d.spend, d.dums, d.outs, c1.dep, c1.wd, c1.fee, c1.owner, c1.nonce, c1.exp, d.seed, 0, d.by_⟩ y) 32] (fun _ => False) w wc))
  case first =>
    have HFwg00 := Lib.hid (HF4.out.drew)
    have hS0 : Hid ((Held [(B, caC c1 x, 32)] []) w4.drew) := Held.keepB (⟨⟨HF4.out.box i0, trivial⟩, trivial⟩) (Below.refl _ _).drew
    refine wp_region_held_drew (S := (Held [(B, caC c1 x, 32)] [])) (by kernel_rfl) hS0.out (fun hHeld => ?_)
    obtain ⟨wg0, hwd⟩ : ∃ x, w4.drew = x := ⟨_, rfl⟩
    rw [hwd] at hHeld HFwg00 ⊢
    have HFwg0 := HFwg00
    clear hwd HFwg00 hS0
    go_simp
    refine tkV 0 rfl (fun wz hSz => by go_simp; all_goals with_reducible rfl) ?_
    go_simp
    refine tkY 1 rfl (yieldsIf_load_mid (by rfl) _ _ rfl B 0 rfl [.int .i64 c1.rules.mode, .int .i64 c1.rules.depth, .int .i64 c1.rules.bl, .int .i64 c1.rules.bu, .int .i64 c1.rules.qu, .int .u64 c1.rules.rew, .int .i64 c1.rules.win, .int .i64 c1.rules.fin, .int .u64 c1.rules.work] _ (fun wz hSz => rules_range hSz.b.1) Tryz.underlying26 rfl (by kernel_rfl)) ?_
    go_simp
    refine tkV 2 rfl (fun wz hSz => by go_simp; all_goals with_reducible rfl) ?_
    go_simp
    refine tkV 3 rfl (fun wz hSz => by have cx := (box_cells hSz.b.1).1; go_simp; all_goals with_reducible rfl) ?_
    go_simp
    refine tkV 4 rfl (fun wz hSz => by go_simp; all_goals with_reducible rfl) ?_
    go_simp
    refine tkV 5 rfl (fun wz hSz => by have cx := (box_cells hSz.b.1).1; go_simp; all_goals with_reducible rfl) ?_
    go_simp
    refine tkV 6 rfl (fun wz hSz => by go_simp; all_goals with_reducible rfl) ?_
    go_simp
    refine tkV 7 rfl (fun wz hSz => by have cx := (box_cells hSz.b.1).1; go_simp; all_goals with_reducible rfl) ?_
    go_simp
    refine tkV 8 rfl (fun wz hSz => by go_simp; all_goals with_reducible rfl) ?_
    go_simp
    refine tkV 9 rfl (fun wz hSz => by have cx := (box_cells hSz.b.1).1; go_simp; all_goals with_reducible rfl) ?_
    go_simp
    refine tkV 10 rfl (fun wz hSz => by go_simp; all_goals with_reducible rfl) ?_
    go_simp
    refine tkV 11 rfl (fun wz hSz => by have cx := (box_cells hSz.b.1).1; go_simp; all_goals with_reducible rfl) ?_
    go_simp
    refine tkV 12 rfl (fun wz hSz => by go_simp; all_goals with_reducible rfl) ?_
    go_simp
    refine tkV 13 rfl (fun wz hSz => by have cx := (box_cells hSz.b.1).1; go_simp; all_goals with_reducible rfl) ?_
    go_simp
    refine tkV 14 rfl (fun wz hSz => by go_simp; all_goals with_reducible rfl) ?_
    go_simp
    refine tkV 15 rfl (fun wz hSz => by have cx := (box_cells hSz.b.1).1; go_simp; all_goals with_reducible rfl) ?_
    go_simp
    refine tkV 16 rfl (fun wz hSz => by go_simp; all_goals with_reducible rfl) ?_
    go_simp
    refine rd1 17 rfl (fun K hK => ?_)
    obtain ⟨cx0, cx1⟩ := box_cells (HFwg0.out.box i1)
    go_simp
    have hfa := (((((((((HFwg0.out.setL i1 0 (.int .i64 c1.rules.mode)).setL i1 1 (.int .i64 c1.rules.depth)).setL i1 2 (.int .i64 c1.rules.bl)).setL i1 3 (.int .i64 c1.rules.bu)).setL i1 4 (.int .i64 c1.rules.qu)).setL i1 5 (.int .u64 c1.rules.rew)).setL i1 6 (.int .i64 c1.rules.win)).setL i1 7 (.int .i64 c1.rules.fin)).setL i1 8 (.int .u64 c1.rules.work))
    obtain ⟨wg1, hw⟩ : ∃ x, World.setCell (World.setCell (World.setCell (World.setCell (World.setCell (World.setCell (World.setCell (World.setCell (World.setCell wg0 ⟨D, 0, none⟩ (.int .i64 c1.rules.mode)) ⟨D, 1, none⟩ (.int .i64 c1.rules.depth)) ⟨D, 2, none⟩ (.int .i64 c1.rules.bl)) ⟨D, 3, none⟩ (.int .i64 c1.rules.bu)) ⟨D, 4, none⟩ (.int .i64 c1.rules.qu)) ⟨D, 5, none⟩ (.int .u64 c1.rules.rew)) ⟨D, 6, none⟩ (.int .i64 c1.rules.win)) ⟨D, 7, none⟩ (.int .i64 c1.rules.fin)) ⟨D, 8, none⟩ (.int .u64 c1.rules.work) = x := ⟨_, rfl⟩
    rw [hw] at hfa ⊢
    have HFwg1 := Lib.hid hfa
    clear hHeld hfa hw cx0 cx1
    refine hK.out _ _ (⟨⟨HFwg1.out.box i0, trivial⟩, trivial⟩) (fun hHeld => ?_)
    clear hK K
    go_simp
    refine tkV 18 rfl (fun wz hSz => by go_simp; all_goals with_reducible rfl) ?_
    go_simp
    refine rd1 19 rfl (fun K hK => ?_)
    obtain ⟨cx0, cx1⟩ := box_cells (HFwg1.out.box i1)
    go_simp
    have hfa := (HFwg1.out.setL i1 9 (.int .u64 c1.orc))
    obtain ⟨wg2, hw⟩ : ∃ x, World.setCell wg1 ⟨D, 9, none⟩ (.int .u64 c1.orc) = x := ⟨_, rfl⟩
    rw [hw] at hfa ⊢
    have HFwg2 := Lib.hid hfa
    clear hHeld hfa hw cx0 cx1
    refine hK.out _ _ (⟨⟨HFwg2.out.box i0, trivial⟩, trivial⟩) (fun hHeld => ?_)
    clear hK K
    go_simp
    refine tkV 20 rfl (fun wz hSz => by go_simp; all_goals with_reducible rfl) ?_
    go_simp
    refine rd1 21 rfl (fun K hK => ?_)
    obtain ⟨cx0, cx1⟩ := box_cells (HFwg2.out.box i1)
    go_simp
    have hfa := (HFwg2.out.setL i1 14 (.int .u64 c1.dep))
    obtain ⟨wg3, hw⟩ : ∃ x, World.setCell wg2 ⟨D, 14, none⟩ (.int .u64 c1.dep) = x := ⟨_, rfl⟩
    rw [hw] at hfa ⊢
    have HFwg3 := Lib.hid hfa
    clear hHeld hfa hw cx0 cx1
    refine hK.out _ _ (⟨⟨HFwg3.out.box i0, trivial⟩, trivial⟩) (fun hHeld => ?_)
    clear hK K
    go_simp
    refine tkV 22 rfl (fun wz hSz => by go_simp; all_goals with_reducible rfl) ?_
    go_simp
    refine rd1 23 rfl (fun K hK => ?_)
    obtain ⟨cx0, cx1⟩ := box_cells (HFwg3.out.box i1)
    go_simp
    have hfa := (HFwg3.out.setL i1 15 (.int .u64 c1.wd))
    obtain ⟨wg4, hw⟩ : ∃ x, World.setCell wg3 ⟨D, 15, none⟩ (.int .u64 c1.wd) = x := ⟨_, rfl⟩
    rw [hw] at hfa ⊢
    have HFwg4 := Lib.hid hfa
    clear hHeld hfa hw cx0 cx1
    refine hK.out _ _ (⟨⟨HFwg4.out.box i0, trivial⟩, trivial⟩) (fun hHeld => ?_)
    clear hK K
    go_simp
    refine tkV 24 rfl (fun wz hSz => by go_simp; all_goals with_reducible rfl) ?_
    go_simp
    refine rd1 25 rfl (fun K hK => ?_)
    obtain ⟨cx0, cx1⟩ := box_cells (HFwg4.out.box i1)
    go_simp
    have hfa := (HFwg4.out.setL i1 16 (.int .u64 c1.fee))
    obtain ⟨wg5, hw⟩ : ∃ x, World.setCell wg4 ⟨D, 16, none⟩ (.int .u64 c1.fee) = x := ⟨_, rfl⟩
    rw [hw] at hfa ⊢
    have HFwg5 := Lib.hid hfa
    clear hHeld hfa hw cx0 cx1
    refine hK.out _ _ (⟨⟨HFwg5.out.box i0, trivial⟩, trivial⟩) (fun hHeld => ?_)
    clear hK K
    go_simp
    refine tkV 26 rfl (fun wz hSz => by go_simp; all_goals with_reducible rfl) ?_
    go_simp
    refine rd1 27 rfl (fun K hK => ?_)
    obtain ⟨cx0, cx1⟩ := box_cells (HFwg5.out.box i1)
    go_simp
    have hfa := (HFwg5.out.setL i1 17 (.int .u64 c1.owner))
    obtain ⟨wg6, hw⟩ : ∃ x, World.setCell wg5 ⟨D, 17, none⟩ (.int .u64 c1.owner) = x := ⟨_, rfl⟩
    rw [hw] at hfa ⊢
    have HFwg6 := Lib.hid hfa
    clear hHeld hfa hw cx0 cx1
    refine hK.out _ _ (⟨⟨HFwg6.out.box i0, trivial⟩, trivial⟩) (fun hHeld => ?_)
    clear hK K
    go_simp
    refine tkV 28 rfl (fun wz hSz => by go_simp; all_goals with_reducible rfl) ?_
    go_simp
    refine rd1 29 rfl (fun K hK => ?_)
    obtain ⟨cx0, cx1⟩ := box_cells (HFwg6.out.box i1)
    go_simp
    have hfa := (HFwg6.out.setL i1 18 (.int .u64 c1.nonce))
    obtain ⟨wg7, hw⟩ : ∃ x, World.setCell wg6 ⟨D, 18, none⟩ (.int .u64 c1.nonce) = x := ⟨_, rfl⟩
    rw [hw] at hfa ⊢
    have HFwg7 := Lib.hid hfa
    clear hHeld hfa hw cx0 cx1
    refine hK.out _ _ (⟨⟨HFwg7.out.box i0, trivial⟩, trivial⟩) (fun hHeld => ?_)
    clear hK K
    go_simp
    refine tkV 30 rfl (fun wz hSz => by go_simp; all_goals with_reducible rfl) ?_
    go_simp
    refine rd1 31 rfl (fun K hK => ?_)
    obtain ⟨cx0, cx1⟩ := box_cells (HFwg7.out.box i1)
    go_simp
    have hfa := (HFwg7.out.setL i1 19 (.int .i64 c1.exp))
    obtain ⟨wg8, hw⟩ : ∃ x, World.setCell wg7 ⟨D, 19, none⟩ (.int .i64 c1.exp) = x := ⟨_, rfl⟩
    rw [hw] at hfa ⊢
    have HFwg8 := Lib.hid hfa
    clear hHeld hfa hw cx0 cx1
    refine hK.out _ _ (⟨⟨HFwg8.out.box i0, trivial⟩, trivial⟩) (fun hHeld => ?_)
    clear hK K
    go_simp
    clear hHeld
    refine wpAnyH_done (by kernel_rfl) ?_ _
    have HFD : Hid (Fr [boxA B (caC c1 x) 32, boxA D (caC ⟨c1.rules, c1.orc, d.coins, d.spend, d.dums, d.outs, c1.dep, c1.wd, c1.fee, c1.owner, c1.nonce, c1.exp, d.seed, 0, d.by_⟩ y) 32] (fun _ => False) w wg8) := HFwg8.out.map i1 (fun _ h => h)
    go_wp2_with fail
    go_meet
    case rel => exact ⟨rfl, HFD⟩
  case rest =>
  obtain ⟨rfl, HFD⟩ := hcut
  obtain ⟨w5, hw5⟩ : ∃ z, z = wc := ⟨_, rfl⟩
  subst hw5
  obtain ⟨d1, hd1⟩ : ∃ z : CaseM, ⟨c1.rules, c1.orc, d.coins, d.spend, d.dums, d.outs, c1.dep, c1.wd, c1.fee, c1.owner, c1.nonce, c1.exp, d.seed, 0, d.by_⟩ = z := ⟨_, rfl⟩
  rw [hd1] at HFD
  have HD1 : Hid (CaseOk d1 ∧ Like c1 d1 ∧ d1.spoil = 0 ∧ CaseAt S' w d1 y) := by
    rw [← hd1]
    have h := HC1.out.1
    have h2 := HD.out
    have a := HA'.out
    exact ⟨⟨h.orc, h.dep, h.wd, h.fee, h.owner, h.nonce, h.exp, h2.seed⟩, ⟨rfl, rfl, rfl, rfl, rfl, rfl, rfl, rfl⟩, rfl, ⟨a.coins, a.spend, a.dums, a.outs⟩⟩
  clear hd1 HD HA' HF4
  go_upto_region 6 with (fail)
  go_cut [94] from 52 (fun v94 wc => ∃ bb : Bool, v94 = .bool bb ∧ Hid (bb = false → Small2 c1 d1) ∧ Hid (Fr [boxA B (caC c1 x) 32, boxA D (caC d1 y) 32] (fun _ => False) w wc))
  case first =>
    go_wp2_with (refine wpList_load_row rfl _ _ rfl B rfl _ _ _ _ (HFD.out.box i0) Tryz.underlying32 rfl (by kernel_rfl) ?_)
    refine (small43_any w5 c1 x (by have := HC1.out.2.1; omega)).mono ?_
    rintro e w6 ⟨rfl, hb6⟩
    have HF6 := Lib.hid (HFD.out.keepB hb6)
    clear hb6 HFD
    cases hs1 : smallC c1 with
    | false =>
      clear hs1
      go_wp2_with fail
      go_meet
      case rel => exact ⟨true, rfl, (fun h => Bool.noConfusion h), HF6⟩
    | true =>
      have HS1 := Lib.hid hs1
      clear hs1
      go_wp2_with (refine wpList_load_rowG (by rfl) _ _ rfl D rfl _ _ _ _ (HF6.out.box i1) Tryz.underlying32 rfl (by kernel_rfl) ?_)
      refine (small43_any w6 d1 y (by rw [HD1.out.2.1.rules]; have := HC1.out.2.1; omega)).mono ?_
      rintro e w7 ⟨rfl, hb7⟩
      have HF7 := Lib.hid (HF6.out.keepB hb7)
      clear hb7 HF6
      cases hs2 : smallC d1 with
      | false =>
        clear hs2
        go_wp2_with fail
        go_meet
        case rel => exact ⟨true, rfl, (fun h => Bool.noConfusion h), HF7⟩
      | true =>
        have HS2 := Lib.hid hs2
        clear hs2
        obtain ⟨q1, q2, q3, q4⟩ := smallC_facts HS1.out
        obtain ⟨r1, r2, r3, r4⟩ := smallC_facts HS2.out
        have HL : Hid (∀ (_ : c1.coins.length = d1.coins.length) (_ : c1.spend.length + c1.dums.length = d1.spend.length + d1.dums.length) (_ : c1.outs.length = d1.outs.length), Small2 c1 d1) := fun a b c => ⟨HS1.out, HS2.out, a, b, c⟩
        obtain ⟨x0, x1⟩ := box_cells (HF7.out.box i0)
        obtain ⟨y0, y1⟩ := box_cells (HF7.out.box i1)
        obtain ⟨s1, hs1⟩ : ∃ z, c1.spend.length + c1.dums.length = z := ⟨_, rfl⟩
        obtain ⟨s2, hs2⟩ : ∃ z, d1.spend.length + d1.dums.length = z := ⟨_, rfl⟩
        have wa : wrap64 ((c1.spend.length : Int) + c1.dums.length) = (s1 : Int) := by rw [← hs1]; exact wrapM2 (by omega)
        have wb : wrap64 ((d1.spend.length : Int) + d1.dums.length) = (s2 : Int) := by rw [← hs2]; exact wrapM2 (by omega)
        have HSS := Lib.hid (And.intro hs1 hs2)
        clear q1 q2 q3 q4 r1 r2 r3 r4 HS1 HS2 hs1 hs2
        by_cases l1 : c1.coins.length = d1.coins.length
        · have z1 : ((c1.coins.length : Int) != (d1.coins.length : Int)) = false := by rw [bne_eq_false_iff_eq]; omega
          by_cases l2 : s1 = s2
          · have z2 : ((s1 : Int) != (s2 : Int)) = false := by rw [bne_eq_false_iff_eq]; omega
            by_cases l3 : c1.outs.length = d1.outs.length
            · have z3 : ((c1.outs.length : Int) != (d1.outs.length : Int)) = false := by rw [bne_eq_false_iff_eq]; omega
              have HR : Hid (Small2 c1 d1) := HL.out l1 (by rw [HSS.out.1, HSS.out.2]; exact l2) l3
              clear l1 l2 l3 HL
              go_wp2_with fail
              go_meet
              case rel => exact ⟨false, rfl, (fun _ => HR.out), HF7⟩
            · have z3 : ((c1.outs.length : Int) != (d1.outs.length : Int)) = true := by rw [bne_iff_ne]; omega
              clear l1 l2 l3 HL
              go_wp2_with fail
              go_meet
              case rel => exact ⟨true, rfl, (fun h => Bool.noConfusion h), HF7⟩
          · have z2 : ((s1 : Int) != (s2 : Int)) = true := by rw [bne_iff_ne]; omega
            clear l1 l2 HL
            go_wp2_with fail
            go_meet
            case rel => exact ⟨true, rfl, (fun h => Bool.noConfusion h), HF7⟩
        · have z1 : ((c1.coins.length : Int) != (d1.coins.length : Int)) = true := by rw [bne_iff_ne]; omega
          clear l1 HL
          go_wp2_with fail
          go_meet
          case rel => exact ⟨true, rfl, (fun h => Bool.noConfusion h), HF7⟩
  case rest =>
  obtain ⟨bb, rfl, HSB, HF6⟩ := hcut
  obtain ⟨w6, hw6⟩ : ∃ z, z = wc := ⟨_, rfl⟩
  subst hw6
  clear HFD
  cases bb with
  | true =>
    go_wp2_with fail
    go_ret
    exact ⟨rfl, HF6.out.below⟩
  | false =>
  have HS2 : Hid (Small2 c1 d1) := HSB.out rfl
  clear HSB
  go_wp2_with (refine wpList_load_row rfl _ _ rfl B rfl _ _ _ _ (HF6.out.box i0) Tryz.underlying32 rfl (by kernel_rfl) ?_)
  refine (setup_any S w6 c1 x HC1.out.1 (HC1.out.2.2.2.keepB HF6.out.below) HS2.out.s1 HC1.out.2.2.1).mono ?_
  rintro e w7 ⟨hb7, hor⟩
  rcases hor with ⟨an, dp, wd, fe, ac, no, se, sd, ex, ia, oa, il, ic, ol, oc, -, rfl⟩ | ⟨p1, q1, m1, ls1, ns1, G1, ia1, oa1, ic1, oc1, rfl, hq1, hcl1, hm1, ho1, hG1, hr1⟩
  · -- the first one fails
    have HF7 := Lib.hid ((HF6.out.keepB hb7).alloc (rqC an dp wd fe ac no se sd ex ia oa il ic ol oc) 39)
    clear hb7 HF6
    go_upto_region 9 with (fail)
    obtain ⟨w8, hw8⟩ : ∃ z, w7.alloc (.cells (rqC an dp wd fe ac no se sd ex ia oa il ic ol oc) 39) = z := ⟨_, rfl⟩
    rw [hw8] at HF7 ⊢
    clear hw8
    go_wp2_with (refine wpList_load_row rfl _ _ rfl D rfl _ _ _ _ (HF7.out.box i2) Tryz.underlying32 rfl (by kernel_rfl) ?_)
    refine (setup_any S' w8 d1 y HD1.out.1 (HD1.out.2.2.2.keepB HF7.out.below) HS2.out.s2 HD1.out.2.2.1).mono ?_
    rintro e w9 ⟨hb9, hor⟩
    have HB9 := Lib.hid (bnext HF7.out.below hb9)
    clear hb9 HF7
    rcases hor with ⟨an2, dp2, wd2, fe2, ac2, no2, se2, sd2, ex2, ia2, oa2, il2, ic2, ol2, oc2, -, rfl⟩ | ⟨p2, q2, m2, ls2, ns2, G2, ia2, oa2, ic2, oc2, rfl, -⟩
    · have HBA := Lib.hid (bnew HB9.out (.cells (rqC an2 dp2 wd2 fe2 ac2 no2 se2 sd2 ex2 ia2 oa2 il2 ic2 ol2 oc2) 39))
      go_upto_region 10 with (fail)
      obtain ⟨wA, hwA⟩ : ∃ z, w9.alloc (.cells (rqC an2 dp2 wd2 fe2 ac2 no2 se2 sd2 ex2 ia2 oa2 il2 ic2 ol2 oc2) 39) = z := ⟨_, rfl⟩
      rw [hwA] at HBA ⊢
      clear hwA
      go_quiet (fail)
      go_wp2_with fail
      go_ret
      exact ⟨rfl, bdrewN HBA.out _⟩
    · have HBA := Lib.hid (bnew HB9.out (.cells (reqC q2 ia2 ic2 oa2 oc2) 39))
      go_upto_region 10 with (fail)
      obtain ⟨wA, hwA⟩ : ∃ z, w9.alloc (.cells (reqC q2 ia2 ic2 oa2 oc2) 39) = z := ⟨_, rfl⟩
      rw [hwA] at HBA ⊢
      clear hwA
      go_quiet (fail)
      go_wp2_with fail
      go_ret
      exact ⟨rfl, bdrewN HBA.out _⟩
  · have HQ1 := Lib.hid hq1
    have HCL1 := Lib.hid hcl1
    have HM1 := Lib.hid hm1
    have hf7 := (HF6.out.new2 (A := orcA p1 m1) (B := reqA q1 ia1 oa1 ic1 oc1) hb7 ho1 (fun k h => (hG1 k h).1) hr1).alloc (reqC q1 ia1 ic1 oa1 oc1) 39
    obtain ⟨b1, hb1⟩ : ∃ z, w7.heap.size = z := ⟨_, rfl⟩
    rw [hb1] at hf7
    have HF7 := Lib.hid hf7
    clear hq1 hcl1 hm1 ho1 hG1 hr1 hf7 hb7 HF6
    go_upto_region 9 with (fail)
    try rw [hb1]
    obtain ⟨w8, hw8⟩ : ∃ z, w7.alloc (.cells (reqC q1 ia1 ic1 oa1 oc1) 39) = z := ⟨_, rfl⟩
    rw [hw8] at HF7 ⊢
    clear hw8 hb1
    go_wp2_with (refine wpList_load_row rfl _ _ rfl D rfl _ _ _ _ (HF7.out.box i4) Tryz.underlying32 rfl (by kernel_rfl) ?_)
    refine (setup_any S' w8 d1 y HD1.out.1 (HD1.out.2.2.2.keepB HF7.out.below) HS2.out.s2 HD1.out.2.2.1).mono ?_
    rintro e w9 ⟨hb9, hor⟩
    rcases hor with ⟨an2, dp2, wd2, fe2, ac2, no2, se2, sd2, ex2, ia2, oa2, il2, ic2, ol2, oc2, -, rfl⟩ | ⟨p2, q2, m2, ls2, ns2, G2, ia2, oa2, ic2, oc2, rfl, hq2, hcl2, hm2, ho2, hG2, hr2⟩
    · have HB9 := Lib.hid (bnext HF7.out.below hb9)
      clear hb9 HF7
      have HBA := Lib.hid (bnew HB9.out (.cells (rqC an2 dp2 wd2 fe2 ac2 no2 se2 sd2 ex2 ia2 oa2 il2 ic2 ol2 oc2) 39))
      go_upto_region 10 with (fail)
      obtain ⟨wA, hwA⟩ : ∃ z, w9.alloc (.cells (rqC an2 dp2 wd2 fe2 ac2 no2 se2 sd2 ex2 ia2 oa2 il2 ic2 ol2 oc2) 39) = z := ⟨_, rfl⟩
      rw [hwA] at HBA ⊢
      clear hwA
      go_quiet (fail)
      go_wp2_with fail
      go_ret
      exact ⟨rfl, bdrewN HBA.out _⟩
    · have HQ2 := Lib.hid hq2
      have HCL2 := Lib.hid hcl2
      have HM2 := Lib.hid hm2
      have hf9 := (HF7.out.new2 (A := orcA p2 m2) (B := reqA q2 ia2 oa2 ic2 oc2) hb9 ho2 (fun k h => (hG2 k h).1) hr2).alloc (reqC q2 ia2 ic2 oa2 oc2) 39
      obtain ⟨b2, hb2⟩ : ∃ z, w9.heap.size = z := ⟨_, rfl⟩
      rw [hb2] at hf9
      have HF9 := Lib.hid hf9
      clear hq2 hcl2 hm2 ho2 hG2 hr2 hf9 hb9 HF7
      go_upto_region 10 with (fail)
      try rw [hb2]
      obtain ⟨wA, hwA⟩ : ∃ z, w9.alloc (.cells (reqC q2 ia2 ic2 oa2 oc2) 39) = z := ⟨_, rfl⟩
      rw [hwA] at HF9 ⊢
      clear hwA hb2
      obtain ⟨G1, hG1, ho1, -⟩ := HF9.out.open i4
      obtain ⟨G2, hG2, ho2, -⟩ := HF9.out.open i1
      have HO1 := Lib.hid ho1
      have HO2 := Lib.hid ho2
      obtain ⟨x0, x1⟩ := box_cells (HF9.out.box i6)
      clear hG1 hG2 ho1 ho2
      by_cases e1 : m1.n = c1.coins.length
      · have z1 : ((m1.n : Int) != (c1.coins.length : Int)) = false := by rw [bne_eq_false_iff_eq]; omega
        have z1' : (m1.n == c1.coins.length) = true := by rw [beq_iff_eq]; exact e1
        have HE1 := Lib.hid e1
        by_cases e2 : m2.n = c1.coins.length
        · have z2 : ((m2.n : Int) != (c1.coins.length : Int)) = false := by rw [bne_eq_false_iff_eq]; omega
          have z2' : (m2.n == c1.coins.length) = true := by rw [beq_iff_eq]; exact e2
          have HE2 := Lib.hid e2
          clear e1 e2
          go_quiet ((go_at_call 8; first | exact quiet_dr (draws_any _ G1 p1 m1 (HO1.out.keepB (bdrewN (Below.refl _ _) _))) | exact quiet_dr (draws_any _ G2 p2 m2 (HO2.out.keepB (bdrewN (Below.refl _ _) _)))))
          clear z1 z2 z1' z2' x0 x1 HO1 HO2
          obtain ⟨wB, hwB⟩ : ∃ z, wA.drewN nq = z := ⟨_, rfl⟩
          have hfb := HF9.out.drewN nq
          rw [hwB] at hfb ⊢
          have HFB := Lib.hid hfb
          have HL1 : Hid (m1.n + m1.qs.length + 300 ≤ 100000) := by have := HM1.out; have := (smallC_facts HS2.out.s1).1; show _ ≤ _; omega
          have HL2 : Hid (m2.n + m2.qs.length + 300 ≤ 100000) := by have := HM2.out; have := (smallC_facts HS2.out.s2).1; show _ ≤ _; omega
          clear hfb hwB HF9
          obtain ⟨x0, x1⟩ := box_cells (HFB.out.box i6)
          go_wp2_with (refine wpList_load_row rfl _ _ rfl b1 rfl _ _ _ _ (HFB.out.box i3) Tryz.underlying39 rfl (by kernel_rfl) ?_)
          refine (build_fr HFB.out i4 i4 (HT.out.keepB HFB.out.below) c1.rules (by have := HC1.out.2.1; omega) HQ1.out.ok HL1.out).mono ?_
          rintro e wC ⟨er1, t1, xw1, m3, y1, rfl, hg1, hfC⟩
          have HG1 := Lib.hid hg1
          have hfa := (hfC.alloc (txC t1 y1.ma y1.oa y1.pa y1.mc y1.oc y1.pc) 45).alloc (witC xw1 y1.ia y1.ic y1.na y1.nc) 48
          rw [World.size_alloc] at hfa
          obtain ⟨b3, hb3⟩ : ∃ z, wC.heap.size = z := ⟨_, rfl⟩
          rw [hb3] at hfa
          have HFC := Lib.hid hfa
          clear x0 x1 hfC hg1 hfa HFB
          go_upto_region 13 with (fail)
          try rw [hb3]
          obtain ⟨wD, hwD⟩ : ∃ z, (wC.alloc (.cells (txC t1 y1.ma y1.oa y1.pa y1.mc y1.oc y1.pc) 45)).alloc (.cells (witC xw1 y1.ia y1.ic y1.na y1.nc) 48) = z := ⟨_, rfl⟩
          rw [hwD] at HFC ⊢
          clear hwD hb3
          obtain ⟨x0, x1⟩ := box_cells (HFC.out.box (.s (.s i8)))
          go_wp2_with (refine wpList_load_row rfl _ _ rfl b2 rfl _ _ _ _ (HFC.out.box i3) Tryz.underlying39 rfl (by kernel_rfl) ?_)
          refine (build_fr HFC.out i4 i4 (HT.out.keepB HFC.out.below) d1.rules (by rw [HD1.out.2.1.rules]; have := HC1.out.2.1; omega) HQ2.out.ok HL2.out).mono ?_
          rintro e wE ⟨er2, t2, xw2, m4, y2, rfl, hg2, hfE⟩
          have HG2 := Lib.hid hg2
          have hfa := (hfE.alloc (txC t2 y2.ma y2.oa y2.pa y2.mc y2.oc y2.pc) 45).alloc (witC xw2 y2.ia y2.ic y2.na y2.nc) 48
          rw [World.size_alloc] at hfa
          obtain ⟨b5, hb5⟩ : ∃ z, wE.heap.size = z := ⟨_, rfl⟩
          rw [hb5] at hfa
          have HFE := Lib.hid hfa
          clear x0 x1 hfE hg2 hfa HFC
          go_upto_region 14 with (fail)
          try rw [hb5]
          obtain ⟨wF, hwF⟩ : ∃ z, (wE.alloc (.cells (txC t2 y2.ma y2.oa y2.pa y2.mc y2.oc y2.pc) 45)).alloc (.cells (witC xw2 y2.ia y2.ic y2.na y2.nc) 48) = z := ⟨_, rfl⟩
          rw [hwF] at HFE ⊢
          clear hwF hb5
          obtain ⟨x0, x1⟩ := box_cells (HFE.out.box (.s (.s (.s (.s i8)))))
          obtain ⟨y0, y1'⟩ := box_cells (HFE.out.box (.s i8))
          have HN : Hid (wrap64 (wrap64 (wrap64 (wrap64 (c1.coins.length + q1.ins.length) + wrap64 (5 * q1.outs.length)) + 8) + wrap64 (4 * wrap64 (q1.ins.length + q1.outs.length))) = ((c1.coins.length + q1.ins.length + 5 * q1.outs.length + 8 + 4 * (q1.ins.length + q1.outs.length) : Nat) : Int)) := by
            have h1 := HQ1.out.ins
            have h2 : q1.outs.length = c1.outs.length := by rw [HQ1.out.outs, List.length_map]
            have h3 := smallC_facts HS2.out.s1
            exact count_fact h3.1 (by rw [h1]; have := h3.2; omega) (by rw [h2]; exact h3.2.2.2)
          go_upto_region 15 with (fail)
          rw [HN.out]
          obtain ⟨N, hN⟩ : ∃ N : Nat, c1.coins.length + q1.ins.length + 5 * q1.outs.length + 8 + 4 * (q1.ins.length + q1.outs.length) = N := ⟨_, rfl⟩
          rw [hN]
          have HNN := Lib.hid hN
          clear x0 x1 y0 y1' hN HN
          obtain ⟨G3, -, ho3, -⟩ := HFE.out.open (.s (.s i8))
          obtain ⟨G4, -, ho4, -⟩ := HFE.out.open i7
          have HO3 := Lib.hid ho3
          have HO4 := Lib.hid ho4
          clear ho3 ho4
          by_cases e1 : er1 = 0
          · subst e1
            by_cases e2 : er2 = 0
            · subst e2
              by_cases f1 : m3.n = N
              · have HF1 := Lib.hid f1
                by_cases f2 : m4.n = N
                · have HF2 := Lib.hid f2
                  have z1 : ((m3.n : Int) != (N : Int)) = false := by rw [bne_eq_false_iff_eq]; omega
                  have z2 : ((m4.n : Int) != (N : Int)) = false := by rw [bne_eq_false_iff_eq]; omega
                  clear f1 f2
                  go_wp2_with fail
                  refine (draws_any wF G3 p1 m3 HO3.out).mono ?_
                  rintro e wG ⟨rfl, rfl⟩
                  go_wp2_with fail
                  refine (draws_any wF G4 p2 m4 HO4.out).mono ?_
                  rintro e wG ⟨rfl, rfl⟩
                  clear HO3 HO4
                  have HSP1 := Lib.hid (setP_of HC1.out.2.1 HQ1.out HCL1.out)
                  have HV1 : Hid (validE t1 = 0) := build_valid (by have := HC1.out.2.1; omega) HG1.out
                  have HTU : Hid (t2 = t1) := hides_end HD1.out.2.1 HS2.out HC1.out.2.1 HSP1.out (setP_of (by rw [HD1.out.2.1.rules]; exact HC1.out.2.1) HQ2.out HCL2.out) HE1.out HE2.out HG1.out HG2.out (by rw [HF1.out, HNN.out]) (by rw [HF2.out, HNN.out])
                  go_wp2_with (refine wpList_load_row rfl _ _ rfl b3 rfl _ _ _ _ (HFE.out.box i4) Tryz.underlying45 rfl (by kernel_rfl) ?_)
                  refine (txEncode_any _ wF t1 y1.ma y1.oa y1.pa y1.mc y1.oc y1.pc (HFE.out.get i5).1).mono ?_
                  rintro e wG ⟨ys, ya, yc, HY, -, rfl, hyr, hbG⟩
                  rw [HV1.out]
                  have HYR := Lib.hid hyr
                  clear z1 z2
                  have HFG := Lib.hid (HFE.out.keepB hbG)
                  clear hyr hbG HFE
                  go_wp2_with (refine wpList_load_row rfl _ _ rfl b5 rfl _ _ _ _ (HFG.out.box i1) Tryz.underlying45 rfl (by kernel_rfl) ?_)
                  refine (txEncode_any _ wG t2 y2.ma y2.oa y2.pa y2.mc y2.oc y2.pc (HFG.out.get i2).1).mono ?_
                  rintro e wH ⟨zs, za, zc, HZ, -, rfl, hzr, hbH⟩
                  rw [HTU.out, HV1.out]
                  obtain rfl : zs = ys := by rw [HZ.out, HY.out, HTU.out]
                  have hpos : 0 < zs.length := by rw [HY.out]; unfold encT; rw [if_pos HV1.out]; exact encS_pos _ _
                  have k1 := bytes_stringX (bytesR.keepB HYR.out hbH)
                  have k2 := bytes_stringX hzr
                  have HFH := Lib.hid (HFG.out.keepB hbH)
                  generalize strOfNums zs = st at *
                  clear hzr hbH HFG HYR
                  go_wp2_with fail
                  go_ret
                  exact ⟨rfl, HFH.out.below⟩
                · have z1 : ((m3.n : Int) != (N : Int)) = false := by rw [bne_eq_false_iff_eq]; omega
                  have z2 : ((m4.n : Int) != (N : Int)) = true := by rw [bne_iff_ne]; omega
                  have z3 : (m3.n == N) = true := by rw [beq_iff_eq]; exact f1
                  have z4 : (m4.n == N) = false := by rw [beq_eq_false_iff_ne]; exact f2
                  clear f1 f2
                  go_wp2_with fail
                  refine (draws_any wF G3 p1 m3 HO3.out).mono ?_
                  rintro e wG ⟨rfl, rfl⟩
                  go_wp2_with fail
                  refine (draws_any wF G4 p2 m4 HO4.out).mono ?_
                  rintro e wG ⟨rfl, rfl⟩
                  go_wp2_with fail
                  go_ret
                  exact ⟨rfl, HFE.out.below⟩
              · have z1 : ((m3.n : Int) != (N : Int)) = true := by rw [bne_iff_ne]; omega
                have z3 : (m3.n == N) = false := by rw [beq_eq_false_iff_ne]; exact f1
                clear f1
                go_wp2_with fail
                refine (draws_any wF G3 p1 m3 HO3.out).mono ?_
                rintro e wG ⟨rfl, rfl⟩
                go_wp2_with fail
                go_ret
                exact ⟨rfl, HFE.out.below⟩
            · have z1 : (er2 != 0) = true := by rw [bne_iff_ne]; exact e2
              have z2 : (er2 == 0) = false := by rw [beq_eq_false_iff_ne]; exact e2
              clear e2
              go_wp2_with fail
              go_ret
              exact ⟨rfl, HFE.out.below⟩
          · have z1 : (er1 != 0) = true := by rw [bne_iff_ne]; exact e1
            have z2 : (er1 == 0) = false := by rw [beq_eq_false_iff_ne]; exact e1
            clear e1
            go_wp2_with fail
            go_ret
            exact ⟨rfl, HFE.out.below⟩
        · have z2 : ((m2.n : Int) != (c1.coins.length : Int)) = true := by rw [bne_iff_ne]; omega
          have z2' : (m2.n == c1.coins.length) = false := by rw [beq_eq_false_iff_ne]; exact e2
          clear e1 e2
          go_quiet ((go_at_call 8; first | exact quiet_dr (draws_any _ G1 p1 m1 (HO1.out.keepB (bdrewN (Below.refl _ _) _))) | exact quiet_dr (draws_any _ G2 p2 m2 (HO2.out.keepB (bdrewN (Below.refl _ _) _)))))
          go_wp2_with fail
          go_ret
          exact ⟨rfl, bdrewN HF9.out.below _⟩
      · have z1 : ((m1.n : Int) != (c1.coins.length : Int)) = true := by rw [bne_iff_ne]; omega
        have z1' : (m1.n == c1.coins.length) = false := by rw [beq_eq_false_iff_ne]; exact e1
        clear e1
        go_quiet ((go_at_call 8; first | exact quiet_dr (draws_any _ G1 p1 m1 (HO1.out.keepB (bdrewN (Below.refl _ _) _))) | exact quiet_dr (draws_any _ G2 p2 m2 (HO2.out.keepB (bdrewN (Below.refl _ _) _)))))
        go_wp2_with fail
        go_ret
        exact ⟨rfl, bdrewN HF9.out.below _⟩
end Go.Proofs.YtdjcdejapkkcmaaGreatDoor
