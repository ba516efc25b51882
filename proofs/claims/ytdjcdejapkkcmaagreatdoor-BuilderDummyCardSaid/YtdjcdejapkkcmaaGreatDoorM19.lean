/- The builder: the statement of an invalid transaction; Prove refuses it. -/
import Derived.Test.YtdjcdejapkkcmaaGreatDoorM18
import Derived.Test.YtdjcdejapkkcmaaGreatDoorTxX
import Derived.Test.YtdjcdejapkkcmaaGreatDoorM15
import Derived.Test.YtdjcdejapkkcmaaGreatDoorM12
namespace Go.Proofs.YtdjcdejapkkcmaaGreatDoor
open Go.ChangeShapes Go.WideShapes Go.ChangeAt Go.RowKit Go.Sort

abbrev txC (t : TxM) (ma oa pa : Option Addr) (mc oc pc : Nat) : Array Value := #[.int .u64 t.anchor, .slice ma t.marks.length mc, .slice oa t.outs.length oc, .int .u64 t.dep, .int .u64 t.wd, .int .u64 t.fee, .int .u64 t.acc, .int .u64 t.nonce, .int .i64 t.exp, .slice pa t.proof.length pc]
abbrev sm0 : Array Value := #[.int .i64 0, .int .u64 0, .slice none 0 0, .slice none 0 0, .slice none 0 0, .int .u64 0, .int .u64 0, .int .u64 0, .int .u64 0, .int .u64 0]
set_option maxRecDepth 100000 in
set_option maxHeartbeats 2000000 in
theorem statement0_any (S : Nat → Prop) (w : World) (t : TxM) (ma oa pa : Option Addr) (mc oc pc : Nat) (h : TxIn S w t ma oa pa mc oc pc) (hv : validE t ≠ 0) (D : Nat) :
    Calls Tryz.prog 36 #[.agg (txC t ma oa pa mc oc pc), .int .i64 D] w fun e w' => e = .returned (.agg sm0) ∧ Below w.heap.size w w' := by
  have hbA := bnew (Below.refl w.heap.size w) (.cells (txC t ma oa pa mc oc pc) 45)
  have hbB := bnew hbA (.cells sm0 103)
  have qA := box_old (o' := .cells sm0 103) (box_new w (.cells (txC t ma oa pa mc oc pc) 45))
  have qB := box_new (w.alloc (.cells (txC t ma oa pa mc oc pc) 45)) (.cells sm0 103)
  have eA : (w.alloc (.cells (txC t ma oa pa mc oc pc) 45)).heap.size = w.heap.size + 1 := World.size_alloc ..
  rw [eA] at qB
  have HA := Lib.hid qA
  have HX := Lib.hid qB
  have HB := Lib.hid hbB
  have H := Lib.hid (h.keepB hbB)
  obtain ⟨ve, hve⟩ : ∃ x, validE t = x := ⟨_, rfl⟩
  rw [hve] at hv
  have HV := Lib.hid hve
  have n1 : (ve == 0) = false := by rw [beq_eq_false_iff_ne]; exact hv
  have n2 : (ve != 0) = true := by rw [bne_iff_ne]; exact hv
  clear hbA hbB qA qB eA h hve hv
  go_enter Tryz.func36, Tryz.ntmps36
  go_upto_region 1 with (fail)
  generalize (w.alloc (.cells (txC t ma oa pa mc oc pc) 45)).alloc (.cells sm0 103) = W at *
  obtain ⟨x0, x1⟩ := box_cells HA.out
  go_wp2_with fail
  refine (txValid_any S W t ma oa pa mc oc pc H.out).mono ?_
  rw [HV.out]
  rintro e w1 ⟨rfl, hb1⟩
  have HX1 := Lib.hid (box_after hb1 HX.out)
  have HB1 := Lib.hid (bnext HB.out hb1)
  clear x0 x1 hb1
  go_wp2_with (refine wpList_store_row rfl _ _ _ rfl (w.heap.size + 1) _ rfl rfl _ _ HX1.out (by kernel_rfl) rfl (by kernel_rfl) ?_)
  have HX2 : Hid ((w1.setRow (w.heap.size + 1) sm0).heap[w.heap.size + 1]? = some (.cells sm0 103 (0, 0))) := setRow_heap _ _ _ _ _ _ HX1.out
  have HB2 := Lib.hid (below_setRow (g := w.heap.size + 1) HB1.out (Nat.le_succ _) sm0)
  (try simp only [Exit.inBlock, Exit.then])
  refine bodyPost_ret (ret_c Tryz.results36 rfl HX2.out Tryz.underlying103 rfl (by kernel_rfl)) rfl ⟨rfl, HB2.out⟩
set_option maxRecDepth 100000 in
set_option maxHeartbeats 2000000 in
theorem relValid0_any (w : World) (t : WitM) (ia oa : Option Addr) (ic oc : Nat) : Calls Tryz.prog 67 #[.agg sm0, .agg (witC t ia ic oa oc)] w fun e w' => e = .returned (.bool false) ∧ Below w.heap.size w w' := by
  have hbA := bnew (Below.refl w.heap.size w) (.cells sm0 103)
  have hbB := bnew hbA (.cells (witC t ia ic oa oc) 48)
  have HA := Lib.hid (box_old (o' := .cells (witC t ia ic oa oc) 48) (box_new w (.cells sm0 103)))
  have HB := Lib.hid hbB
  clear hbA hbB
  go_enter Tryz.func67, Tryz.ntmps67
  go_upto_region 1 with (fail)
  generalize (w.alloc (.cells sm0 103)).alloc (.cells (witC t ia ic oa oc) 48) = W at *
  obtain ⟨x0, x1⟩ := box_cells HA.out
  go_wp2_with fail
  go_ret
  exact ⟨rfl, HB.out⟩
set_option maxRecDepth 100000 in
set_option maxHeartbeats 2000000 in
theorem prove0_any (F : Nat → Prop) (w : World) (p : Nat) (m : OrM) (ho : OrG F p w m) (r : RuM) (hse : settE m.ideal r.mode r.depth r.bl r.bu r.qu r.rew r.win r.fin r.work = 0) (t : WitM) (ia oa : Option Addr) (ic oc : Nat) (seed : Int) :
    Calls Tryz.prog 35 #[.pointer (some ⟨p, 0, none⟩), .agg (ruC r), .agg sm0, .agg (witC t ia ic oa oc), .int .u64 seed] w fun e w' => e = .returned (.tuple #[.slice none 0 0, .int .i64 1]) ∧ Below w.heap.size w w' := by
  obtain ⟨q2, q1, q0⟩ := three_bx w (.cells (ruC r) 26) (.cells sm0 103) (.cells (witC t ia ic oa oc) 48)
  have hb := bnew (bnew (bnew (Below.refl w.heap.size w) (.cells (ruC r) 26)) (.cells sm0 103)) (.cells (witC t ia ic oa oc) 48)
  have HO := Lib.hid (ho.keepB hb)
  have HSE := Lib.hid hse
  have HB := Lib.hid hb
  have HQ0 := Lib.hid q0
  have HQ1 := Lib.hid q1
  have HQ2 := Lib.hid q2
  clear q0 q1 q2 hb ho hse
  go_enter Tryz.func35, Tryz.ntmps35
  go_upto_region 1 with (fail)
  generalize ((w.alloc (.cells (ruC r) 26)).alloc (.cells sm0 103)).alloc (.cells (witC t ia ic oa oc) 48) = W at *
  obtain ⟨x0, x1⟩ := box_cells HQ0.out
  go_wp2_with fail
  refine (setting_any W p m.ideal m.st HO.out.at r.mode r.depth r.bl r.bu r.qu r.rew r.win r.fin r.work).mono ?_
  rw [HSE.out]
  rintro e w1 ⟨rfl, hb1⟩
  have HB1 := Lib.hid hb1
  clear x0 x1 hb1
  obtain ⟨x0, x1⟩ := box_cells (box_after HB1.out HQ0.out)
  obtain ⟨y0, y1⟩ := box_cells (box_after HB1.out HQ1.out)
  obtain ⟨z0, z1⟩ := box_cells (box_after HB1.out HQ2.out)
  go_wp2_with fail
  refine (relValid0_any w1 t ia oa ic oc).mono ?_
  rintro e w2 ⟨rfl, hb2⟩
  have HB2 := Lib.hid (bnext HB1.out hb2)
  clear hb2
  go_wp2_with fail
  go_ret2
  exact ⟨rfl, bnext HB.out HB2.out⟩
end Go.Proofs.YtdjcdejapkkcmaaGreatDoor
/- The builder: one output. -/
namespace Go.Proofs.YtdjcdejapkkcmaaGreatDoor
open Go.ChangeShapes Go.WideShapes Go.ChangeAt Go.RowKit Go.Sort

abbrev noteC (n : NoteM) : Array Value := #[.int .u64 n.value, .int .u64 n.owner, .int .u64 n.rho, .int .u64 n.blind]
abbrev payC (y : PayM) : Array Value := #[.int .i64 y.adr.num, .int .u64 y.adr.own, .int .u64 y.adr.p0, .int .u64 y.adr.p1, .int .u64 y.value]
theorem rhoS_ok' (o : Int) (i : Nat) : okU (rhoS o i) := by
  unfold rhoS
  split
  · exact hashS_ok _ _
  · exact okU_of (by omega) (by omega)
/-- The note of an output. -/
def outN (pay : PayM) (og sd : Int) (ix : Nat) : NoteM := ⟨pay.value, pay.adr.own, rhoS og ix, hashS 25 [sd, ix]⟩
/-- The output of five fresh draws. -/
def outD (st : Int) : OutM := ⟨drawZ (nextS st), (pubP (drawZ (nextS (stN st 1)))).1, (pubP (drawZ (nextS (stN st 1)))).2, drawsL (stN st 2) 3⟩
/-- What makeOut gives, exactly. -/
def OrM.expo (m : OrM) (sd : Int) (ix : Nat) : Int × OrM := if m.ideal = true then (drawZ (nextS m.st), m.drew 1) else (hashS 11 [sd, (ix : Int)], m)
def OrM.make (m : OrM) (pay : PayM) (og sd : Int) (ix : Nat) : OutM × OrM :=
  let n := outN pay og sd ix
  let a := m.commit n
  let b := a.2.expo sd ix
  let c := b.2.env pay.adr.p0 pay.adr.p1 n b.1
  (⟨a.1, c.1.1, c.1.2, c.2.1⟩, c.2.2)
/-- What makeOut gives. -/
def MakeTo (F : Nat → Prop) (p : Nat) (m : OrM) (pay : PayM) (og sd : Int) (ix : Nat) (w : World) (e : Ending) (w' : World) : Prop :=
  ∃ (o : OutM) (a : Option Addr) (cap : Nat) (m' : OrM) (G : Nat → Prop), e = .returned (.tuple #[.agg #[.int .u64 o.commit, .int .u64 o.p0, .int .u64 o.p1, .slice a o.cipher.length cap], .agg (noteC (outN pay og sd ix))]) ∧
    m.make pay og sd ix = (o, m') ∧ (okU o.commit ∧ okU o.p0 ∧ okU o.p1) ∧ Hid (numsR.rel (fun k => w.heap.size ≤ k ∧ ¬ G k) w' [.slice a o.cipher.length cap] o.cipher) ∧ Used 5 m m' (o = outD m.st) ∧
    (m.ideal = false → o.commit = commitV (outN pay og sd ix) ∧ m'.n = m.n ∧ (groupB pay.adr.p0 pay.adr.p1 = true → noteB (outN pay og sd ix) = true → (o.p0, o.p1) = pubP (hashS 11 [sd, ix]) ∧ o.cipher.length = 3 ∧ ∀ z ∈ o.cipher, z < 18446744069414584321)) ∧
    m'.n + m'.qs.length ≤ m.n + m.qs.length + 6 ∧ OrG G p w' m' ∧ (∀ k, G k → (F k ∨ w.heap.size ≤ k) ∧ k < w'.heap.size) ∧ Kept (fun k => ¬ F k) w w'
/-- The frame of makeOut. -/
structure MoAt (w : World) (bn : Nat) (pay : PayM) (n : NoteM) (wr : World) : Prop where
  pay : wr.heap[w.heap.size]? = some (.cells (payC pay) 84 (0, 0))
  out : wr.heap[w.heap.size + 1]? = some (.cells #[.int .u64 0, .int .u64 0, .int .u64 0, .slice none 0 0] 98 (0, 0))
  res : wr.heap[w.heap.size + 1 + 1]? = some (.cells #[.int .u64 0, .int .u64 0, .int .u64 0, .int .u64 0] 56 (0, 0))
  note : wr.heap[bn]? = some (.cells (noteC n) 56 (0, 0))
  lt : w.heap.size + 1 + 1 < bn
theorem MoAt.keep {S : Nat → Prop} {w w1 w2 : World} {bn Z : Nat} {pay : PayM} {n : NoteM} (h : MoAt w bn pay n w1) (hk : Kept S w1 w2) (hz : bn < Z) (hS : ∀ k, w.heap.size ≤ k → k < Z → S k) : MoAt w bn pay n w2 :=
  ⟨box_kept hk h.pay (hS _ (Nat.le_refl _) (by have := h.lt; omega)), box_kept hk h.out (hS _ (by omega) (by have := h.lt; omega)), box_kept hk h.res (hS _ (by omega) (by have := h.lt; omega)), box_kept hk h.note (hS _ (by have := h.lt; omega) hz), h.lt⟩
set_option maxRecDepth 100000 in
set_option maxHeartbeats 4000000 in
theorem makeOut_any (F : Nat → Prop) (w : World) (p : Nat) (m : OrM) (ho : OrG F p w m) (hF : ∀ k, F k → k < w.heap.size) (pay : PayM) (hpay : PayOk pay) (og sd : Int) (hog : okU og) (hsd : okU sd) (ix : Nat) (hix : ix ≤ 1000) (hlim : m.n + m.qs.length + 8 ≤ 100000) :
    Calls Tryz.prog 34 #[.pointer (some ⟨p, 0, none⟩), .agg (payC pay), .int .u64 og, .int .u64 sd, .int .i64 ix] w (MakeTo F p m pay og sd ix w) := by
  obtain ⟨q2, q1, q0⟩ := three_bx w (.cells (payC pay) 84) (.cells #[.int .u64 0, .int .u64 0, .int .u64 0, .slice none 0 0] 98) (.cells #[.int .u64 0, .int .u64 0, .int .u64 0, .int .u64 0] 56)
  have hb := bnew (bnew (bnew (Below.refl w.heap.size w) (.cells (payC pay) 84)) (.cells #[.int .u64 0, .int .u64 0, .int .u64 0, .slice none 0 0] 98)) (.cells #[.int .u64 0, .int .u64 0, .int .u64 0, .int .u64 0] 56)
  have HO := Lib.hid (ho.keepB hb)
  have HFB := Lib.hid hF
  have HPY := Lib.hid hpay
  have HOG := Lib.hid hog
  have HSD := Lib.hid hsd
  have HIX := Lib.hid hix
  have HIU : Hid (okU (ix : Int)) := okU_of (by omega) (by omega)
  have HLI := Lib.hid hlim
  have HB := Lib.hid hb
  have HQ0 := Lib.hid q0
  have HQ1 := Lib.hid q1
  have HQ2 := Lib.hid q2
  have hcv : IntKind.u64.wrap (ix : Int) = (ix : Int) := by rw [IntKind.wrap_u64]; omega
  have HON : Hid (outN pay og sd ix = ⟨pay.value, pay.adr.own, rhoS og ix, hashS 25 [sd, ix]⟩) := rfl
  have HRO := Lib.hid (rhoS_ok' og ix)
  have HBO := Lib.hid (hashS_ok 25 [sd, (ix : Int)])
  obtain ⟨rho, hrh⟩ : ∃ x, rhoS og ix = x := ⟨_, rfl⟩
  obtain ⟨bl, hbh⟩ : ∃ x, hashS 25 [sd, (ix : Int)] = x := ⟨_, rfl⟩
  rw [hrh, hbh] at HON
  rw [hrh] at HRO
  rw [hbh] at HBO
  have HRH := Lib.hid hrh
  have HBH := Lib.hid hbh
  clear q0 q1 q2 hb ho hF hpay hog hsd hlim hrh hbh hix
  go_enter Tryz.func34, Tryz.ntmps34
  go_upto_region 1 with (fail)
  generalize ((w.alloc (.cells (payC pay) 84)).alloc (.cells #[.int .u64 0, .int .u64 0, .int .u64 0, .slice none 0 0] 98)).alloc (.cells #[.int .u64 0, .int .u64 0, .int .u64 0, .int .u64 0] 56) = W at *
  go_cut [12] from 17 (fun v12 wc => ∃ b, v12 = .pointer (some ⟨b, 0, none⟩) ∧ Hid (wc.heap[b]? = some (.cells #[.int .u64 pay.value, .int .u64 pay.adr.own, .int .u64 rho, .int .u64 bl] 56 (0, 0))) ∧ Hid (W.heap.size ≤ b) ∧ Hid (Below W.heap.size W wc))
  case first =>
    have HSwa0 : Hid (BxS W w.heap.size (payC pay) 84 W.drew) := BxS.start HQ0.out
    have HBwa0 : Hid (Below W.heap.size W W.drew) := (Below.refl _ _).drew
    refine wp_region_held_drew (S := BxS W w.heap.size (payC pay) 84) (by kernel_rfl) (HSwa0.out) (fun hHeld => ?_)
    obtain ⟨wa, hwa⟩ : ∃ x, W.drew = x := ⟨_, rfl⟩
    rw [hwa] at hHeld HSwa0 HBwa0 ⊢
    have HSwa := HSwa0
    have HBwa := HBwa0
    clear hwa HSwa0 HBwa0
    go_simp
    refine tkV 0 rfl (fun wz hSz => by go_simp; all_goals with_reducible rfl) ?_
    go_simp
    refine tkV 1 rfl (fun wz hSz => by have cx := (box_cells hSz.box).1; go_simp; all_goals with_reducible rfl) ?_
    go_simp
    refine tkV 2 rfl (fun wz hSz => by go_simp; all_goals with_reducible rfl) ?_
    go_simp
    refine tkV 3 rfl (fun wz hSz => by go_simp; all_goals with_reducible rfl) ?_
    go_simp
    refine tkV 4 rfl (fun wz hSz => by have cx := (box_cells hSz.box).1; go_simp; all_goals with_reducible rfl) ?_
    go_simp
    refine tkV 5 rfl (fun wz hSz => by go_simp; all_goals with_reducible rfl) ?_
    go_simp
    refine tkV 6 rfl (fun wz hSz => by go_simp; all_goals with_reducible rfl) ?_
    go_simp
    refine tkV 8 rfl (fun wz hSz => by go_simp; all_goals with_reducible rfl) ?_
    go_simp
    refine tkV 9 rfl (fun wz hSz => by go_simp; all_goals with_reducible rfl) ?_
    go_simp
    refine tkV 10 rfl (fun wz hSz => by go_simp; all_goals with_reducible rfl) ?_
    go_simp
    refine rd2 7 13 rfl rfl (fun K hK => ?_) (fun K hK => ?_)
    · skip
      go_simp
      refine (rho_any _ og ix HOG.out HIX.out).mono ?_
      rw [HRH.out]
      rintro E w4 ⟨rfl, hb⟩
      have HBw4 := Lib.hid (bnext HBwa.out hb)
      have HSw4 := Lib.hid (BxS.next HSwa.out hb)
      clear hHeld hb
      refine hK.out _ _ HSw4.out (fun hHeld => ?_)
      clear hK K
      go_simp
      refine rd2 11 13 rfl rfl (fun K hK => ?_) (fun K hK => ?_)
      · skip
        go_simp
        refine (bhash_any _ 25 sd ix (by omega) HSD.out HIU.out).mono ?_
        rw [HBH.out]
        rintro E w5 ⟨rfl, hb⟩
        have HBw5 := Lib.hid (bnext HBw4.out hb)
        have HSw5 := Lib.hid (BxS.next HSw4.out hb)
        clear hHeld hb
        refine hK.out _ _ HSw5.out (fun hHeld => ?_)
        clear hK K
        go_simp
        refine tkV 12 rfl (fun wz hSz => by go_simp; all_goals with_reducible rfl) ?_
        go_simp
        refine rd1 13 rfl (fun K hK => ?_)
        go_simp
        have hba := bnew (Below.refl w5.heap.size w5) (.cells #[.int .u64 0, .int .u64 0, .int .u64 0, .int .u64 0] 56)
        have HNw6 := Lib.hid (box_new w5 (.cells #[.int .u64 0, .int .u64 0, .int .u64 0, .int .u64 0] 56))
        obtain ⟨w6, hw⟩ : ∃ x, w5.alloc (.cells #[.int .u64 0, .int .u64 0, .int .u64 0, .int .u64 0] 56) = x := ⟨_, rfl⟩
        rw [hw] at hba HNw6 ⊢
        have HBw6 := Lib.hid (bnext HBw5.out hba)
        have HSw6 := Lib.hid (BxS.next HSw5.out hba)
        have HAw6 : Hid (W.heap.size ≤ w5.heap.size) := HBw5.out.size
        clear hHeld hba hw
        refine hK.out _ _ HSw6.out (fun hHeld => ?_)
        clear hK K
        go_simp
        refine rd1 14 rfl (fun K hK => ?_)
        refine step_store_row rfl _ _ _ rfl _ _ rfl rfl _ _ HNw6.out (by kernel_rfl) rfl (by kernel_rfl) ?_
        clear hHeld
        refine hK.out _ _ (BxS.setRow HSw6.out HAw6.out _) (fun hHeld => ?_)
        clear hK K
        refine wpAnyH_done (by kernel_rfl) ?_ _
        have HNF := Lib.hid (setRow_heap _ _ _ #[.int .u64 pay.value, .int .u64 pay.adr.own, .int .u64 rho, .int .u64 bl] _ _ HNw6.out)
        have HBF := Lib.hid (below_setRow HBw6.out HAw6.out #[.int .u64 pay.value, .int .u64 pay.adr.own, .int .u64 rho, .int .u64 bl])
        go_wp2_with fail
        go_meet
        case rel => exact ⟨_, rfl, HNF.out, HAw6.out, HBF.out⟩
      · skip
        go_simp
        have hba := bnew (Below.refl w4.heap.size w4) (.cells #[.int .u64 0, .int .u64 0, .int .u64 0, .int .u64 0] 56)
        have HNw5 := Lib.hid (box_new w4 (.cells #[.int .u64 0, .int .u64 0, .int .u64 0, .int .u64 0] 56))
        obtain ⟨w5, hw⟩ : ∃ x, w4.alloc (.cells #[.int .u64 0, .int .u64 0, .int .u64 0, .int .u64 0] 56) = x := ⟨_, rfl⟩
        rw [hw] at hba HNw5 ⊢
        have HBw5 := Lib.hid (bnext HBw4.out hba)
        have HSw5 := Lib.hid (BxS.next HSw4.out hba)
        have HAw5 : Hid (W.heap.size ≤ w4.heap.size) := HBw4.out.size
        clear hHeld hba hw
        refine hK.out _ _ HSw5.out (fun hHeld => ?_)
        clear hK K
        go_simp
        refine rd1 11 rfl (fun K hK => ?_)
        go_simp
        refine (bhash_any _ 25 sd ix (by omega) HSD.out HIU.out).mono ?_
        rw [HBH.out]
        rintro E w6 ⟨rfl, hb⟩
        have HBw6 := Lib.hid (bnext HBw5.out hb)
        have HSw6 := Lib.hid (BxS.next HSw5.out hb)
        have HNw6 := Lib.hid (box_after hb HNw5.out)
        clear hHeld hb
        refine hK.out _ _ HSw6.out (fun hHeld => ?_)
        clear hK K
        go_simp
        refine tkV 12 rfl (fun wz hSz => by go_simp; all_goals with_reducible rfl) ?_
        go_simp
        refine rd1 14 rfl (fun K hK => ?_)
        refine step_store_row rfl _ _ _ rfl _ _ rfl rfl _ _ HNw6.out (by kernel_rfl) rfl (by kernel_rfl) ?_
        clear hHeld
        refine hK.out _ _ (BxS.setRow HSw6.out HAw5.out _) (fun hHeld => ?_)
        clear hK K
        refine wpAnyH_done (by kernel_rfl) ?_ _
        have HNF := Lib.hid (setRow_heap _ _ _ #[.int .u64 pay.value, .int .u64 pay.adr.own, .int .u64 rho, .int .u64 bl] _ _ HNw6.out)
        have HBF := Lib.hid (below_setRow HBw6.out HAw5.out #[.int .u64 pay.value, .int .u64 pay.adr.own, .int .u64 rho, .int .u64 bl])
        go_wp2_with fail
        go_meet
        case rel => exact ⟨_, rfl, HNF.out, HAw5.out, HBF.out⟩
    · skip
      go_simp
      have hba := bnew (Below.refl wa.heap.size wa) (.cells #[.int .u64 0, .int .u64 0, .int .u64 0, .int .u64 0] 56)
      have HNw4 := Lib.hid (box_new wa (.cells #[.int .u64 0, .int .u64 0, .int .u64 0, .int .u64 0] 56))
      obtain ⟨w4, hw⟩ : ∃ x, wa.alloc (.cells #[.int .u64 0, .int .u64 0, .int .u64 0, .int .u64 0] 56) = x := ⟨_, rfl⟩
      rw [hw] at hba HNw4 ⊢
      have HBw4 := Lib.hid (bnext HBwa.out hba)
      have HSw4 := Lib.hid (BxS.next HSwa.out hba)
      have HAw4 : Hid (W.heap.size ≤ wa.heap.size) := HBwa.out.size
      clear hHeld hba hw
      refine hK.out _ _ HSw4.out (fun hHeld => ?_)
      clear hK K
      go_simp
      refine rd1 7 rfl (fun K hK => ?_)
      go_simp
      refine (rho_any _ og ix HOG.out HIX.out).mono ?_
      rw [HRH.out]
      rintro E w5 ⟨rfl, hb⟩
      have HBw5 := Lib.hid (bnext HBw4.out hb)
      have HSw5 := Lib.hid (BxS.next HSw4.out hb)
      have HNw5 := Lib.hid (box_after hb HNw4.out)
      clear hHeld hb
      refine hK.out _ _ HSw5.out (fun hHeld => ?_)
      clear hK K
      go_simp
      refine rd1 11 rfl (fun K hK => ?_)
      go_simp
      refine (bhash_any _ 25 sd ix (by omega) HSD.out HIU.out).mono ?_
      rw [HBH.out]
      rintro E w6 ⟨rfl, hb⟩
      have HBw6 := Lib.hid (bnext HBw5.out hb)
      have HSw6 := Lib.hid (BxS.next HSw5.out hb)
      have HNw6 := Lib.hid (box_after hb HNw5.out)
      clear hHeld hb
      refine hK.out _ _ HSw6.out (fun hHeld => ?_)
      clear hK K
      go_simp
      refine tkV 12 rfl (fun wz hSz => by go_simp; all_goals with_reducible rfl) ?_
      go_simp
      refine rd1 14 rfl (fun K hK => ?_)
      refine step_store_row rfl _ _ _ rfl _ _ rfl rfl _ _ HNw6.out (by kernel_rfl) rfl (by kernel_rfl) ?_
      clear hHeld
      refine hK.out _ _ (BxS.setRow HSw6.out HAw4.out _) (fun hHeld => ?_)
      clear hK K
      refine wpAnyH_done (by kernel_rfl) ?_ _
      have HNF := Lib.hid (setRow_heap _ _ _ #[.int .u64 pay.value, .int .u64 pay.adr.own, .int .u64 rho, .int .u64 bl] _ _ HNw6.out)
      have HBF := Lib.hid (below_setRow HBw6.out HAw4.out #[.int .u64 pay.value, .int .u64 pay.adr.own, .int .u64 rho, .int .u64 bl])
      go_wp2_with fail
      go_meet
      case rel => exact ⟨_, rfl, HNF.out, HAw4.out, HBF.out⟩
  case rest =>
    obtain ⟨wcc, hwcc⟩ : ∃ x, x = wc := ⟨_, rfl⟩
    subst hwcc
    obtain ⟨bn, rfl, HNB, HBN, HBW⟩ := hcut
    obtain ⟨n, hn⟩ : ∃ x : NoteM, (⟨pay.value, pay.adr.own, rho, bl⟩ : NoteM) = x := ⟨_, rfl⟩
    have HNO : Hid (NoteOk n) := by rw [← hn]; exact ⟨HPY.out.value, HPY.out.own, HRO.out, HBO.out⟩
    have HMO : Hid (MoAt w bn pay n wcc) := ⟨box_after HBW.out HQ0.out, box_after HBW.out HQ1.out, box_after HBW.out HQ2.out, by rw [← hn]; exact HNB.out, by have := HBN.out; have := box_lt HQ2.out; omega⟩
    rw [hn] at HON
    have HOc := Lib.hid (HO.out.keepB HBW.out)
    have HBc := Lib.hid (bnext HB.out HBW.out)
    have HFc : Hid (∀ k, F k → k < wcc.heap.size) := fun k h => Nat.lt_of_lt_of_le (HFB.out k h) HBc.out.size
    clear hn HNB HBN HBW HO HB HQ0 HQ1 HQ2
    generalize W.heap.size = Wz at *
    obtain ⟨x0, x1⟩ := box_cells HMO.out.note
    unfold noteC at x0
    go_wp2_with fail
    refine (commit_any F wcc p m HOc.out HFc.out n HNO.out (by have := HLI.out; omega)).mono ?_
    rintro e w2 ⟨cm, m2, rfl, hcx, hcm, hu2, hr2, hl2, ho2, hk2⟩
    have HCM := Lib.hid hcm
    have HCX := Lib.hid hcx
    have HU2 := Lib.hid hu2
    have HR2 := Lib.hid hr2
    have HL2 := Lib.hid hl2
    have HO2 : Hid (OrG (fun k => F k ∨ (wcc.heap.size ≤ k ∧ k < w2.heap.size)) p w2 m2) := ho2.mono fun k hk h => h.imp id fun h => ⟨h, hk⟩
    have HK2 := Lib.hid hk2
    have HM2 : Hid (MoAt w bn pay n w2) := HMO.out.keep hk2 (box_lt HMO.out.note) fun k hk _ h => Nat.lt_irrefl _ (Nat.lt_of_lt_of_le (HFB.out k h) hk)
    have HZ2 : Hid (∀ k, F k ∨ (wcc.heap.size ≤ k ∧ k < w2.heap.size) → k < w2.heap.size) := fun k h => h.elim (fun h => Nat.lt_of_lt_of_le (HFc.out k h) hk2.size) fun h => h.2
    clear hcm hcx hu2 hr2 hl2 ho2 hk2 x0 x1
    go_wp2_with fail
    refine (isIdeal_any w2 p m2.ideal m2.st HO2.out.at).mono ?_
    rintro e w3 ⟨rfl, rfl⟩
    go_upto_if 34 with fail
    go_cut [14] from 34 to 40 (fun v14 wc => ∃ (ex : Int) (m3 : OrM), v14 = .int .u64 ex ∧ Hid (m2.expo sd ix = (ex, m3)) ∧ Hid (okU ex) ∧ Hid (Used 1 m2 m3 (ex = drawZ (nextS m2.st))) ∧ Hid (m.ideal = false → m3 = m2 ∧ ex = hashS 11 [sd, (ix : Int)]) ∧ Hid (m3.n + m3.qs.length ≤ m2.n + m2.qs.length + 1) ∧ Hid (OrG (fun k => F k ∨ (wcc.heap.size ≤ k ∧ k < w2.heap.size)) p wc m3) ∧ Hid (Kept (fun k => ¬ (F k ∨ (wcc.heap.size ≤ k ∧ k < w2.heap.size))) w2 wc))
    case first =>
      cases hi : m2.ideal with
      | true =>
        have HI : Hid (m.ideal = true) := by show _ = _; rw [← HU2.out.ideal]; exact hi
        have HEX : Hid (m2.expo sd ix = (drawZ (nextS m2.st), m2.drew 1)) := by show _ = _; unfold OrM.expo; rw [hi]; rfl
        go_wp2_with fail
        refine (draw_any _ w2 p m2 hi (by have := HLI.out; have := HL2.out; omega) HO2.out).mono ?_
        rintro e w4 ⟨rfl, ho4, hk4⟩
        have HO4 := Lib.hid ho4
        have HK4 := Lib.hid hk4
        have HX : Hid (okU (drawZ (nextS m2.st))) := okU_of (drawZ_in _).1 (Int.lt_trans (drawZ_in _).2 (by omega))
        clear ho4 hk4
        go_wp2_with fail
        go_meet
        case rel => exact ⟨_, m2.drew 1, rfl, HEX.out, HX.out, used_draw 1 rfl, fun h => (by rw [HI.out] at h; cases h), by show m2.n + 1 + m2.qs.length ≤ _; omega, HO4.out, HK4.out⟩
      | false =>
        have HI : Hid (m2.ideal = false) := hi
        have HEX : Hid (m2.expo sd ix = (hashS 11 [sd, (ix : Int)], m2)) := by show _ = _; unfold OrM.expo; rw [hi]; rfl
        clear hi
        go_wp2_with fail
        refine (bhash_any w2 11 sd ix (by omega) HSD.out HIU.out).mono ?_
        rintro e w4 ⟨rfl, hb4⟩
        have HB4 := Lib.hid hb4
        have HX := Lib.hid (hashS_ok 11 [sd, (ix : Int)])
        clear hb4
        go_wp2_with fail
        go_meet
        case rel => exact ⟨_, m2, rfl, HEX.out, HX.out, ⟨rfl, fun h => (by rw [HI.out] at h; cases h), Nat.le_refl _, fun h => (by rw [HI.out] at h; cases h), Nat.le_refl _⟩, fun _ => ⟨rfl, rfl⟩, by show _ ≤ _; omega, HO2.out.keepB HB4.out, Kept.of_below HB4.out⟩
    case rest =>
      obtain ⟨ex, m3, rfl, HEX, HX, HU3, HR3, HL3, HO3, HK3⟩ := hcut
      have HM3 : Hid (MoAt w bn pay n wc) := HM2.out.keep HK3.out (box_lt HMO.out.note) fun k hk hz h => h.elim (fun h => Nat.lt_irrefl _ (Nat.lt_of_lt_of_le (HFB.out k h) hk)) fun h => Nat.lt_irrefl _ (Nat.lt_of_lt_of_le hz h.1)
      have HZ3 : Hid (∀ k, F k ∨ (wcc.heap.size ≤ k ∧ k < w2.heap.size) → k < wc.heap.size) := fun k h => Nat.lt_of_lt_of_le (HZ2.out k h) HK3.out.size
      obtain ⟨x0, x1⟩ := box_cells HM3.out.note
      obtain ⟨y0, y1⟩ := box_cells HM3.out.pay
      unfold noteC at x0
      unfold payC at y0
      go_wp2_with fail
      refine (envSeal_any _ wc p m3 HO3.out HZ3.out n HNO.out pay.adr.num pay.adr.own pay.adr.p0 pay.adr.p1 ex HPY.out.p0 HPY.out.p1 HX.out (by have := HLI.out; have := HL2.out; have := HL3.out; omega)).mono ?_
      rintro e w5 ⟨q, c, m5, ca, cc, rfl, hsx, hqk, hce, hcl, hcr, hu5, hr5, hv5, hl5, ho5, hk5⟩
      have HQK := Lib.hid hqk
      have HSX := Lib.hid hsx
      have HCE := Lib.hid hce
      have HU5 := Lib.hid hu5
      have HR5 := Lib.hid hr5
      have HV5 := Lib.hid hv5
      have HL5 := Lib.hid hl5
      have HO5 := Lib.hid ho5
      have HK5 := Lib.hid hk5
      have HM5 : Hid (MoAt w bn pay n w5) := HM3.out.keep hk5 (box_lt HMO.out.note) fun k hk hz h => h.elim (fun h => Nat.lt_irrefl _ (Nat.lt_of_lt_of_le (HFB.out k h) hk)) fun h => Nat.lt_irrefl _ (Nat.lt_of_lt_of_le hz h.1)
      have hb6 := bnew (Below.refl w5.heap.size w5) (.cells #[.int .u64 q.1, .int .u64 q.2] 78)
      have HPB := Lib.hid (box_new w5 (.cells #[.int .u64 q.1, .int .u64 q.2] 78))
      have HB6 := Lib.hid hb6
      have HM6 : Hid (MoAt w bn pay n (w5.alloc (.cells #[.int .u64 q.1, .int .u64 q.2] 78))) := HM5.out.keep (Kept.of_below (S := fun _ => True) hb6) (box_lt HMO.out.note) fun _ _ _ => trivial
      clear hqk hsx hce hu5 hr5 hv5 hl5 ho5 hk5 hb6 x0 x1 y0 y1
      obtain ⟨WP, hWP⟩ : ∃ x, w5.heap.size = x := ⟨_, rfl⟩
      have HWP : Hid (w.heap.size + 1 + 1 < WP) := by rw [← hWP]; have := box_lt HM5.out.note; have := HM5.out.lt; show _ < _; omega
      rw [hWP] at HPB
      have HCR5 := Lib.hid hcr.out
      have HE6 := Lib.hid (numsR.keepB HCR5.out HB6.out)
      have HO6 := Lib.hid (HO5.out.keepB HB6.out)
      have HCL := Lib.hid hcl
      clear hcr hcl
      go_upto_region 8 with (fail)
      have HKW6 : Hid (Kept (fun k => ¬ F k) w (w5.alloc (.cells #[.int .u64 q.1, .int .u64 q.2] 78))) :=
        ((((Kept.of_below HBc.out).trans HK2.out fun _ _ h => h).trans HK3.out fun k hk h e => e.elim h fun e => Nat.lt_irrefl _ (Nat.lt_of_lt_of_le (Nat.lt_of_lt_of_le hk HBc.out.size) e.1)).trans HK5.out fun k hk h e => e.elim h fun e => Nat.lt_irrefl _ (Nat.lt_of_lt_of_le (Nat.lt_of_lt_of_le hk HBc.out.size) e.1)).trans (Kept.of_below (S := fun _ => True) HB6.out) fun _ _ _ => trivial
      generalize w5.alloc (.cells #[.int .u64 q.1, .int .u64 q.2] 78) = w6 at *
      clear hWP
      refine wp_region_held_drew (S := TwoB bn [.int .u64 n.value, .int .u64 n.owner, .int .u64 n.rho, .int .u64 n.blind] 56 WP [.int .u64 q.1, .int .u64 q.2] 78) (by kernel_rfl) (⟨HM6.out.note, HPB.out⟩) (fun hHeld => ?_)
      obtain ⟨w7, hw7⟩ : ∃ x, w6.drew = x := ⟨_, rfl⟩
      rw [hw7] at hHeld ⊢
      have HM7 : Hid (MoAt w bn pay n w7) := by rw [← hw7]; exact ⟨HM6.out.pay, HM6.out.out, HM6.out.res, HM6.out.note, HM6.out.lt⟩
      have HB7 : Hid (Below w6.heap.size w6 w7) := by rw [← hw7]; exact (Below.refl _ _).drew
      have HH7 := Lib.hid hHeld
      clear hw7
      go_simp
      refine tkV 0 rfl (fun wz hSz => by go_simp; all_goals with_reducible rfl) ?_
      go_simp
      refine tkY 1 rfl (yieldsIf_load_mid (by rfl) _ _ rfl WP 0 rfl [.int .u64 q.1, .int .u64 q.2] _ (fun wz hSz => range_box hSz.two) Tryz.underlying78 rfl (by kernel_rfl)) ?_
      go_simp
      refine tkV 2 rfl (fun wz hSz => by go_simp; all_goals with_reducible rfl) ?_
      go_simp
      refine tkV 3 rfl (fun wz hSz => by go_simp; all_goals with_reducible rfl) ?_
      go_simp
      refine tkY 4 rfl (yieldsIf_load_mid (by rfl) _ _ rfl bn 0 rfl [.int .u64 n.value, .int .u64 n.owner, .int .u64 n.rho, .int .u64 n.blind] _ (fun wz hSz => range_box hSz.one) Tryz.underlying56 rfl (by kernel_rfl)) ?_
      go_simp
      refine rd1 5 rfl (fun K hK => ?_)
      refine step_store_row rfl _ _ _ rfl (w.heap.size + 1) _ rfl rfl _ _ HM7.out.out (by kernel_rfl) rfl (by kernel_rfl) ?_
      clear hHeld
      refine hK.out _ _ (TwoB.setRow HH7.out (by have := HM7.out.lt; omega) (by have := HWP.out; omega) _) (fun hHeld => ?_)
      clear hK K
      go_simp
      have HQO : Hid ((w7.setRow (w.heap.size + 1) #[.int .u64 cm, .int .u64 q.1, .int .u64 q.2, .slice ca c.length cc]).heap[w.heap.size + 1]? = some (.cells #[.int .u64 cm, .int .u64 q.1, .int .u64 q.2, .slice ca c.length cc] 98 (0, 0))) := setRow_heap _ _ _ _ _ _ HM7.out.out
      have HQR : Hid ((w7.setRow (w.heap.size + 1) #[.int .u64 cm, .int .u64 q.1, .int .u64 q.2, .slice ca c.length cc]).heap[w.heap.size + 1 + 1]? = some (.cells #[.int .u64 0, .int .u64 0, .int .u64 0, .int .u64 0] 56 (0, 0))) := by show _ = _; rw [setRow_other _ _ _ _ (by omega)]; exact HM7.out.res
      have HK8 := Lib.hid (kept_setRow w7 (w.heap.size + 1) #[.int .u64 cm, .int .u64 q.1, .int .u64 q.2, .slice ca c.length cc])
      have HH8 := Lib.hid hHeld
      generalize w7.setRow (w.heap.size + 1) #[.int .u64 cm, .int .u64 q.1, .int .u64 q.2, .slice ca c.length cc] = w8 at *
      refine rd1 6 rfl (fun K hK => ?_)
      refine step_store_row rfl _ _ _ rfl (w.heap.size + 1 + 1) _ rfl rfl _ _ HQR.out (by kernel_rfl) rfl (by kernel_rfl) ?_
      clear hHeld
      refine hK.out _ _ (TwoB.setRow HH8.out (by have := HM7.out.lt; omega) (by have := HWP.out; omega) _) (fun hHeld => ?_)
      clear hK K
      refine wpAnyH_done (by kernel_rfl) ?_ _
      have HF1 : Hid ((w8.setRow (w.heap.size + 1 + 1) #[.int .u64 n.value, .int .u64 n.owner, .int .u64 n.rho, .int .u64 n.blind]).heap[w.heap.size + 1]? = some (.cells #[.int .u64 cm, .int .u64 q.1, .int .u64 q.2, .slice ca c.length cc] 98 (0, 0))) := by show _ = _; rw [setRow_other _ _ _ _ (by omega)]; exact HQO.out
      have HF2 : Hid ((w8.setRow (w.heap.size + 1 + 1) #[.int .u64 n.value, .int .u64 n.owner, .int .u64 n.rho, .int .u64 n.blind]).heap[w.heap.size + 1 + 1]? = some (.cells #[.int .u64 n.value, .int .u64 n.owner, .int .u64 n.rho, .int .u64 n.blind] 56 (0, 0))) := setRow_heap _ _ _ _ _ _ HQR.out
      have hbnz := box_lt HMO.out.note
      have hltz := HMO.out.lt
      have hzc : wcc.heap.size ≤ wc.heap.size := Nat.le_trans HK2.out.size HK3.out.size
      have hk79 : Kept (fun k => k ≠ w.heap.size + 1 ∧ k ≠ w.heap.size + 1 + 1) w6 (w8.setRow (w.heap.size + 1 + 1) #[.int .u64 n.value, .int .u64 n.owner, .int .u64 n.rho, .int .u64 n.blind]) :=
        ((Kept.of_below (S := fun k => k ≠ w.heap.size + 1 ∧ k ≠ w.heap.size + 1 + 1) HB7.out).trans HK8.out fun k _ h => h.1).trans (kept_setRow w8 (w.heap.size + 1 + 1) #[.int .u64 n.value, .int .u64 n.owner, .int .u64 n.rho, .int .u64 n.blind]) fun k _ h => h.2
      have HKF : Hid (Kept (fun k => ¬ F k) w (w8.setRow (w.heap.size + 1 + 1) #[.int .u64 n.value, .int .u64 n.owner, .int .u64 n.rho, .int .u64 n.blind])) := HKW6.out.trans hk79 fun k hk _ => by omega
      have HOF : Hid (OrG (fun k => F k ∨ (wcc.heap.size ≤ k ∧ k < w2.heap.size)) p (w8.setRow (w.heap.size + 1 + 1) #[.int .u64 n.value, .int .u64 n.owner, .int .u64 n.rho, .int .u64 n.blind]) m5) := HO6.out.keep (hk79.mono fun k _ h => h.elim (fun h => by have := HFB.out k h; omega) fun h => by omega)
      have HGF : Hid (∀ k, (F k ∨ (wcc.heap.size ≤ k ∧ k < w2.heap.size)) → (F k ∨ w.heap.size ≤ k) ∧ k < (w8.setRow (w.heap.size + 1 + 1) #[.int .u64 n.value, .int .u64 n.owner, .int .u64 n.rho, .int .u64 n.blind]).heap.size) := fun k h => ⟨h.imp id fun h => by omega, Nat.lt_of_lt_of_le (HZ3.out k h) (Nat.le_trans (Nat.le_trans HK5.out.size HB6.out.size) hk79.size)⟩
      have HNF : Hid (numsR.rel (fun k => w.heap.size ≤ k ∧ ¬ (F k ∨ (wcc.heap.size ≤ k ∧ k < w2.heap.size))) (w8.setRow (w.heap.size + 1 + 1) #[.int .u64 n.value, .int .u64 n.owner, .int .u64 n.rho, .int .u64 n.blind]) [.slice ca c.length cc] c) := numsR.mono (numsR.keep HE6.out (hk79.mono fun k _ (h : wc.heap.size ≤ k) => by omega)) fun k _ (h : wc.heap.size ≤ k) => ⟨by omega, fun hf => by have := HZ3.out k hf; omega⟩
      have HUF : Hid (Used 5 m m5 ((⟨cm, q.1, q.2, c⟩ : OutM) = outD m.st)) := Used.trans (Used.trans HU2.out HU3.out (r := cm = drawZ (nextS m.st) ∧ ex = drawZ (nextS (stN m.st 1))) (fun _ hs p q => ⟨p, by rw [q, hs]⟩)) HU5.out (fun _ hs p q => by
        obtain ⟨p1, p2⟩ := p
        obtain ⟨q1, q2⟩ := q
        unfold outD
        rw [p1, q1, p2, q2, hs])
      have HRF : Hid (m.ideal = false → cm = commitV n ∧ m5.n = m.n ∧ (groupB pay.adr.p0 pay.adr.p1 = true → noteB n = true → (q.1, q.2) = pubP (hashS 11 [sd, (ix : Int)]) ∧ c.length = 3 ∧ ∀ z ∈ c, z < 18446744069414584321)) := fun hi => by
        obtain ⟨e1, e2⟩ := HR2.out hi
        obtain ⟨e3, e4⟩ := HR3.out hi
        have e5 := HR5.out (by rw [e3, HU2.out.ideal]; exact hi)
        refine ⟨e1, by rw [e5, e3, e2], fun hg hn => ?_⟩
        obtain ⟨v1, v2⟩ := HV5.out (by rw [hg, hn]; rfl)
        exact ⟨by rw [v1, e4], v2, fun z hz => (HCE.out z hz).2⟩
      have HLF : Hid (m5.n + m5.qs.length ≤ m.n + m.qs.length + 6) := by show _ ≤ _; have := HL2.out; have := HL3.out; have := HL5.out; omega
      clear hbnz hltz hzc hk79
      go_wp2_with fail
      refine bodyPost_ret (ret_cc Tryz.results34 rfl HF1.out Tryz.underlying98 rfl (by kernel_rfl) rfl HF2.out Tryz.underlying56 rfl (by kernel_rfl)) rfl ?_
      refine ⟨⟨cm, q.1, q.2, c⟩, ca, cc, m5, _, ?_, ?_, ⟨okU_of HCM.out.1 (Int.lt_trans HCM.out.2 (by omega)), HQK.out.1, HQK.out.2⟩, HNF, HUF.out, ?_, HLF.out, HOF.out, HGF.out, HKF.out⟩
      · rw [HON.out]
      · unfold OrM.make
        rw [HON.out]
        simp only [HCX.out, HEX.out, HSX.out]
      · rw [HON.out]; exact HRF.out
end Go.Proofs.YtdjcdejapkkcmaaGreatDoor
