/- The reference's statement of a transaction, at any depth. -/
import Derived.Test.YtgjemeeeignlnaaGreatDoorMTxR
import Derived.Test.YtgjemeeeignlnaaGreatDoorMTx
import Derived.Test.YtgjemeeeignlnaaGreatDoorMIs
import Derived.Test.YtgjemeeeignlnaaGreatDoorMRo
namespace Go.Proofs.YtgjemeeeignlnaaGreatDoor
open Go.ChangeShapes Go.WideShapes Go.ChangeAt Go.RowKit Go.Sort

/-- The statement of a transaction at any depth. -/
def stOfI (D : Int) (t : TxM) (bd : Int) : StM := ⟨D, t.anchor, t.marks, t.outs.map (·.commit), rhosTo (originS t.marks t.acc t.nonce) t.outs.length, t.dep, t.wd, t.fee, t.acc, bd⟩
theorem stOfI_nat (D : Nat) (t : TxM) (bd : Int) : stOfI D t bd = stOf D t bd := rfl
/-- The variable of the statement at q. -/
structure RsAtI (D : Int) (t : TxM) (ma : Option Addr) (mc : Nat) (A : Array Value) (w : World) (q C : Nat) (bd : Int) (v1 v2 : Value) (wr : World) : Prop where
  sts : StS A w wr
  box : wr.heap[q]? = some (.cells #[.int .i64 D, .int .u64 t.anchor, .slice ma t.marks.length mc, v1, v2, .int .u64 t.dep, .int .u64 t.wd, .int .u64 t.fee, .int .u64 t.acc, .int .u64 bd] 46 (0, 0))
  lay : w.heap.size + 1 < q
  qC : q < C
  base : C ≤ wr.heap.size
theorem RsAtI.kept {D : Int} {t : TxM} {ma : Option Addr} {mc : Nat} {A : Array Value} {w : World} {q C : Nat} {bd : Int} {v1 v2 : Value} {wr w2 : World} (h : RsAtI D t ma mc A w q C bd v1 v2 wr) (hk : Kept (fun k => k < C) wr w2) : RsAtI D t ma mc A w q C bd v1 v2 w2 :=
  have := h.lay; have := h.qC
  ⟨h.sts.kept (hk.mono fun k _ h => by omega), box_kept hk h.box h.qC, h.lay, h.qC, Nat.le_trans h.base hk.size⟩
theorem RsAtI.keepB {D : Int} {t : TxM} {ma : Option Addr} {mc : Nat} {A : Array Value} {w : World} {q C : Nat} {bd : Int} {v1 v2 : Value} {wr w2 : World} (h : RsAtI D t ma mc A w q C bd v1 v2 wr) (hb : Below wr.heap.size wr w2) : RsAtI D t ma mc A w q C bd v1 v2 w2 := h.kept (Kept.of_below hb)
theorem RsAtI.store {D : Int} {t : TxM} {ma : Option Addr} {mc : Nat} {A : Array Value} {w : World} {q C : Nat} {bd : Int} {v1 v2 u1 u2 : Value} {wr : World} (h : RsAtI D t ma mc A w q C bd v1 v2 wr) (i : Nat) (v : Value) (hv : (#[.int .i64 D, .int .u64 t.anchor, .slice ma t.marks.length mc, v1, v2, .int .u64 t.dep, .int .u64 t.wd, .int .u64 t.fee, .int .u64 t.acc, .int .u64 bd] : Array Value).setIfInBounds i v = #[.int .i64 D, .int .u64 t.anchor, .slice ma t.marks.length mc, u1, u2, .int .u64 t.dep, .int .u64 t.wd, .int .u64 t.fee, .int .u64 t.acc, .int .u64 bd]) : RsAtI D t ma mc A w q C bd u1 u2 (wr.setCell ⟨q, i, none⟩ v) :=
  have := h.lay; have := h.qC
  have hk : Kept (fun k => k ≠ q) wr (wr.setCell ⟨q, i, none⟩ v) := (Kept.refl _ _).setCell (fun _ h => h rfl) _
  ⟨h.sts.kept (hk.mono fun k _ h => by omega), hv ▸ box_set h.box, h.lay, h.qC, by rw [World.size_setCell]; exact h.base⟩
def RStOutI (D : Int) (t : TxM) (ma : Option Addr) (mc : Nat) (w : World) (e : Ending) (w' : World) : Prop :=
  ∃ ca ra cc rc, e = .returned (.agg #[.int .i64 D, .int .u64 t.anchor, .slice ma t.marks.length mc, .slice ca t.outs.length cc, .slice ra t.outs.length rc, .int .u64 t.dep, .int .u64 t.wd, .int .u64 t.fee, .int .u64 t.acc, .int .u64 (bindS t)]) ∧ StIn (fun _ => True) w' (stOfI D t (bindS t)) ma ca ra mc cc rc ∧ numsR.rel (fun k => w.heap.size ≤ k) w' [.slice ca (stOfI D t (bindS t)).commits.length cc] (stOfI D t (bindS t)).commits ∧ numsR.rel (fun k => w.heap.size ≤ k) w' [.slice ra (stOfI D t (bindS t)).rhos.length rc] (stOfI D t (bindS t)).rhos ∧ Below w.heap.size w w'

set_option maxRecDepth 100000 in
set_option maxHeartbeats 16000000 in
theorem rStatementI_in (w : World) (t : TxM) (ma oa' pa : Option Addr) (mc oc pc : Nat) (h : TxIn (fun k => k < w.heap.size) w t ma oa' pa mc oc pc) (hv : validE t = 0) (D : Int) :
    Calls Tryz.prog 7 #[.agg #[.int .u64 t.anchor, .slice ma t.marks.length mc, .slice oa' t.outs.length oc, .int .u64 t.dep, .int .u64 t.wd, .int .u64 t.fee, .int .u64 t.acc, .int .u64 t.nonce, .int .i64 t.exp, .slice pa t.proof.length pc], .int .i64 D] w (RStOutI D t ma mc w) := by
  obtain ⟨f1, f2, f3, f4, f5, f6⟩ := validE_sizes hv
  have hb1 := bnew (bnew (Below.refl w.heap.size w) (.cells #[.int .u64 t.anchor, .slice ma t.marks.length mc, .slice oa' t.outs.length oc, .int .u64 t.dep, .int .u64 t.wd, .int .u64 t.fee, .int .u64 t.acc, .int .u64 t.nonce, .int .i64 t.exp, .slice pa t.proof.length pc] 31)) (.cells #[.int .i64 0, .int .u64 0, .slice none 0 0, .slice none 0 0, .slice none 0 0, .int .u64 0, .int .u64 0, .int .u64 0, .int .u64 0, .int .u64 0] 46)
  obtain ⟨q2, q1⟩ := two_new w (.cells #[.int .u64 t.anchor, .slice ma t.marks.length mc, .slice oa' t.outs.length oc, .int .u64 t.dep, .int .u64 t.wd, .int .u64 t.fee, .int .u64 t.acc, .int .u64 t.nonce, .int .i64 t.exp, .slice pa t.proof.length pc] 31) (.cells #[.int .i64 0, .int .u64 0, .slice none 0 0, .slice none 0 0, .slice none 0 0, .int .u64 0, .int .u64 0, .int .u64 0, .int .u64 0, .int .u64 0] 46)
  have hst : StS #[.int .u64 t.anchor, .slice ma t.marks.length mc, .slice oa' t.outs.length oc, .int .u64 t.dep, .int .u64 t.wd, .int .u64 t.fee, .int .u64 t.acc, .int .u64 t.nonce, .int .i64 t.exp, .slice pa t.proof.length pc] w ((w.alloc (.cells #[.int .u64 t.anchor, .slice ma t.marks.length mc, .slice oa' t.outs.length oc, .int .u64 t.dep, .int .u64 t.wd, .int .u64 t.fee, .int .u64 t.acc, .int .u64 t.nonce, .int .i64 t.exp, .slice pa t.proof.length pc] 31)).alloc (.cells #[.int .i64 0, .int .u64 0, .slice none 0 0, .slice none 0 0, .slice none 0 0, .int .u64 0, .int .u64 0, .int .u64 0, .int .u64 0, .int .u64 0] 46)) := StS.of hb1 q1 q2
  have H := Lib.hid (h.keepB hb1)
  have HV := Lib.hid hv
  have HST := Lib.hid hst
  have HOGL := Lib.hid (originS_lt hv)
  clear hb1 q1 q2 h hv hst f3
  go_enter Tryz.func7, Tryz.ntmps7
  go_wp2_with fail
  generalize (w.alloc (.cells #[.int .u64 t.anchor, .slice ma t.marks.length mc, .slice oa' t.outs.length oc, .int .u64 t.dep, .int .u64 t.wd, .int .u64 t.fee, .int .u64 t.acc, .int .u64 t.nonce, .int .i64 t.exp, .slice pa t.proof.length pc] 31)).alloc (.cells #[.int .i64 0, .int .u64 0, .slice none 0 0, .slice none 0 0, .slice none 0 0, .int .u64 0, .int .u64 0, .int .u64 0, .int .u64 0, .int .u64 0] 46) = W at *
  refine (rtxValid_any _ W t ma oa' pa mc oc pc H.out).mono ?_
  rintro e w1 ⟨rfl, hb1⟩
  rw [HV.out]
  have HS1 := Lib.hid (HST.out.next hb1)
  have H1 := Lib.hid (H.out.keepB hb1)
  clear HST H hb1
  obtain ⟨bd, hbd⟩ : ∃ bd, bindS t = bd := ⟨_, rfl⟩
  have HBD := Lib.hid hbd
  clear hbd
  go_wp2_with fail
  go_cut [5] from 11 (fun v5 wc => ∃ q C, v5 = .pointer (some ⟨q, 0, none⟩) ∧ RsAtI D t ma mc #[.int .u64 t.anchor, .slice ma t.marks.length mc, .slice oa' t.outs.length oc, .int .u64 t.dep, .int .u64 t.wd, .int .u64 t.fee, .int .u64 t.acc, .int .u64 t.nonce, .int .i64 t.exp, .slice pa t.proof.length pc] w q C bd (.slice none 0 0) (.slice none 0 0) wc ∧ TxIn (fun k => k < w.heap.size) wc t ma oa' pa mc oc pc)
  case first =>
    have hz1 := HS1.out.2.1
    go_region_held3 (fun w' => Below w1.heap.size w1 w' ∧ (∀ o, w'.cell? ⟨w.heap.size, o, none⟩ = (#[.int .u64 t.anchor, .slice ma t.marks.length mc, .slice oa' t.outs.length oc, .int .u64 t.dep, .int .u64 t.wd, .int .u64 t.fee, .int .u64 t.acc, .int .u64 t.nonce, .int .i64 t.exp, .slice pa t.proof.length pc] : Array Value)[o]?))
      (first
        | with_reducible exact StK.drew (StK.of HS1.out.2.2.2.1 (Below.refl _ _))
        | with_reducible exact HMA.out
        | with_reducible exact StK.of HS1.out.2.2.2.1 (bnew HMA.out.1 _)
        | with_reducible exact StK.drew (StK.of HS1.out.2.2.2.1 (bnew (Below.refl _ _) _))
        | exact StK.of HS1.out.2.2.2.1 (below_cells HMA.out.1 (Nat.le_refl _) [.int .i64 D, .int .u64 t.anchor, .slice ma t.marks.length mc, .slice none 0 0, .slice none 0 0, .int .u64 t.dep, .int .u64 t.wd, .int .u64 t.fee, .int .u64 t.acc, .int .u64 bd] 0 HMA.out.1.size))
      (first
        | (go_at_call 23; have HBp := Lib.hid (‹Below w1.heap.size w1 _ ∧ _› : StK #[.int .u64 t.anchor, .slice ma t.marks.length mc, .slice oa' t.outs.length oc, .int .u64 t.dep, .int .u64 t.wd, .int .u64 t.fee, .int .u64 t.acc, .int .u64 t.nonce, .int .i64 t.exp, .slice pa t.proof.length pc] w.heap.size w1 _); refine (rBind_any _ _ t ma oa' pa mc oc pc (H1.out.keepB HBp.out.1) HV.out).mono ?_; rintro e w3 ⟨rfl, hbA⟩
           rw [HBD.out]
           have HMA := Lib.hid (StK.of HS1.out.2.2.2.1 (bnext HBp.out.1 hbA))
           first
             | (have hqA : w3.heap[w1.heap.size]? = _ := box_after hbA (box_new w1 (.cells #[.int .i64 0, .int .u64 0, .slice none 0 0, .slice none 0 0, .slice none 0 0, .int .u64 0, .int .u64 0, .int .u64 0, .int .u64 0, .int .u64 0] 46)); obtain ⟨k0, k1⟩ := box_cells hqA; have HQ := Lib.hid hqA; clear hqA)
             | have hzA := HMA.out.1.size))
    · have hbF := bnew HMA.out.1 (.cells #[.int .i64 D, .int .u64 t.anchor, .slice ma t.marks.length mc, .slice none 0 0, .slice none 0 0, .int .u64 t.dep, .int .u64 t.wd, .int .u64 t.fee, .int .u64 t.acc, .int .u64 bd] 46)
      have HF : Hid (RsAtI D t ma mc #[.int .u64 t.anchor, .slice ma t.marks.length mc, .slice oa' t.outs.length oc, .int .u64 t.dep, .int .u64 t.wd, .int .u64 t.fee, .int .u64 t.acc, .int .u64 t.nonce, .int .i64 t.exp, .slice pa t.proof.length pc] w w3.heap.size (w3.heap.size + 1) bd (.slice none 0 0) (.slice none 0 0) (w3.alloc (.cells #[.int .i64 D, .int .u64 t.anchor, .slice ma t.marks.length mc, .slice none 0 0, .slice none 0 0, .int .u64 t.dep, .int .u64 t.wd, .int .u64 t.fee, .int .u64 t.acc, .int .u64 bd] 46))) :=
        ⟨HS1.out.next hbF, box_new _ _, Nat.lt_of_lt_of_le hz1 hzA, Nat.lt_succ_self _, by rw [World.size_alloc]; exact Nat.le_refl _⟩
      have HTX := Lib.hid (H1.out.keepB hbF)
      clear hbF
      go_wp2_with fail
      go_meet
      case rel => exact ⟨w3.heap.size, w3.heap.size + 1, rfl, HF.out, HTX.out⟩
    · have hqlt := box_lt HQ.out
      have hbF := below_cells HMA.out.1 (q := w1.heap.size) (Nat.le_refl _) [.int .i64 D, .int .u64 t.anchor, .slice ma t.marks.length mc, .slice none 0 0, .slice none 0 0, .int .u64 t.dep, .int .u64 t.wd, .int .u64 t.fee, .int .u64 t.acc, .int .u64 bd] 0 HMA.out.1.size
      have hkF := kept_cells w3 (q := w1.heap.size) (S := fun k => k ≠ w1.heap.size) (fun h => h rfl) [.int .i64 D, .int .u64 t.anchor, .slice ma t.marks.length mc, .slice none 0 0, .slice none 0 0, .int .u64 t.dep, .int .u64 t.wd, .int .u64 t.fee, .int .u64 t.acc, .int .u64 bd] 0
      have hF : RsAtI D t ma mc #[.int .u64 t.anchor, .slice ma t.marks.length mc, .slice oa' t.outs.length oc, .int .u64 t.dep, .int .u64 t.wd, .int .u64 t.fee, .int .u64 t.acc, .int .u64 t.nonce, .int .i64 t.exp, .slice pa t.proof.length pc] w w1.heap.size w3.heap.size bd (.slice none 0 0) (.slice none 0 0) (w3.setCells w1.heap.size 0 [.int .i64 D, .int .u64 t.anchor, .slice ma t.marks.length mc, .slice none 0 0, .slice none 0 0, .int .u64 t.dep, .int .u64 t.wd, .int .u64 t.fee, .int .u64 t.acc, .int .u64 bd]) :=
        ⟨HS1.out.next hbF, cells_box HQ.out _ rfl, hz1, hqlt, hkF.size⟩
      have hTX := H1.out.keepB hbF
      simp only [World.setCells, Nat.reduceAdd, Nat.zero_add] at hF hTX
      have HF := Lib.hid hF
      have HTX := Lib.hid hTX
      clear hbF hkF hF hTX
      go_wp2_with fail
      go_meet
      case rel => exact ⟨w1.heap.size, w3.heap.size, rfl, HF.out, HTX.out⟩
  case rest =>
    obtain ⟨q, C, rfl, hat, htx⟩ := hcut
    have HAT := Lib.hid hat
    have HTX := Lib.hid htx
    have HOK : Hid (okU (originS t.marks t.acc t.nonce)) := originS_ok htx
    obtain ⟨og, hog⟩ : ∃ og, originS t.marks t.acc t.nonce = og := ⟨_, rfl⟩
    have HOG := Lib.hid hog
    rw [hog] at HOK HOGL
    have HRH0 : Hid (∀ k : Nat, rhoS og k = hashS 4 [og, (k : Int)]) := fun k => by unfold rhoS; rw [if_pos HOGL.out]
    clear hog hat htx HS1 H1
    go_wp2_with fail
    go_loopw [6] (fun vi wr => ∃ (k : Nat) (v1 v2 : Value), k ≤ t.outs.length ∧ vi = .int .i64 k ∧ RsAtI D t ma mc #[.int .u64 t.anchor, .slice ma t.marks.length mc, .slice oa' t.outs.length oc, .int .u64 t.dep, .int .u64 t.wd, .int .u64 t.fee, .int .u64 t.acc, .int .u64 t.nonce, .int .i64 t.exp, .slice pa t.proof.length pc] w q C bd v1 v2 wr ∧ TxIn (fun k => k < w.heap.size) wr t ma oa' pa mc oc pc ∧ Own u64R C 24 (fun x => v1.ownBlock = some x) wr v1 ((t.outs.map (·.commit)).take k) ∧ Own u64R C 24 (fun x => v2.ownBlock = some x) wr v2 (rhosTo og k) ∧ (∀ x, v1.ownBlock = some x → v2.ownBlock ≠ some x)) (fun vi _ => t.outs.length - (intOf vi).toNat)
    case atStart => exact ⟨0, .slice none 0 0, .slice none 0 0, Nat.zero_le _, rfl, HAT.out, HTX.out, by simpa using Own.nil _ _ _ _ _, Own.nil _ _ _ _ _, fun x h => by simp [Value.ownBlock] at h⟩
    case round =>
      obtain ⟨k, v1, v2, hk, rfl, hat, htx, ho1, ho2, hdis⟩ := hrel
      have HRH := Lib.hid (HRH0.out k)
      have hwk : IntKind.u64.wrap (k : Int) = k := by rw [IntKind.wrap_u64]; omega
      clear HAT HTX
      by_cases hlt : k < t.outs.length
      · obtain ⟨b, off, ca, cc, hoa, -, hbl, o1, o2, o3, hci, c0, c1, c2, c3⟩ := outs_at htx.outs k hlt
        have HT1 : Hid ((t.outs.map (·.commit)).take (k + 1) = (t.outs.map (·.commit)).take k ++ [t.outs[k].commit]) := by show _ = _; rw [List.take_succ_eq_append_getElem (by simpa using hlt)]; simp
        have HL1 : Hid (((t.outs.map (·.commit)).take k).length ≤ 4) := by show _ ≤ _; simp; omega
        have HL2 : Hid ((rhosTo og k).length ≤ 4) := by show _ ≤ _; rw [rhosTo_len]; omega
        generalize (t.outs.map (·.commit)).take k = l1 at *
        generalize t.outs[k] = o at *
        clear hci c1 c2 c3
        have i0 : (0 : Int) ≤ (k : Int) := by omega
        have i1 : (k : Int) < (t.outs.length : Int) := by omega
        have hbd : Below wr.heap.size wr wr.drew := (Below.refl _ _).drew
        have HATd := Lib.hid (hat.keepB hbd)
        have HTXd := Lib.hid (htx.keepB hbd)
        have HO1 := Lib.hid (show Own u64R C 24 (fun x => v1.ownBlock = some x) wr.drew v1 l1 from ho1.keepB hbd)
        have HO2 := Lib.hid (show Own u64R C 24 (fun x => v2.ownBlock = some x) wr.drew v2 (rhosTo og k) from ho2.keepB hbd)
        have HD := Lib.hid hdis
        have HCM := Lib.hid o1
        have hcd : wr.drew.cell? ⟨b, off + k * 4, none⟩ = some (.int .u64 o.commit) := c0
        subst hoa
        obtain ⟨x0, x1⟩ := box_cells HATd.out.box
        have xx := fun o' => (box_cells (box_old (o' := o') hat.box)).1
        have y0 := HATd.out.sts.2.2.1
        have hsrc : Src u64R (fun _ => False) (wr.drew.alloc (.cells #[.int .u64 o.commit] 24)) (.slice (some ⟨wr.drew.heap.size, 0, none⟩) 1 1) [o.commit] := Src.one (r := u64R) (y := o.commit) ⟨rfl, o1⟩ (CellsAt.new wr.drew [.int .u64 o.commit] 24)
        have HSRC := Lib.hid hsrc
        have hCn : C ≤ (wr.drew.alloc (.cells #[.int .u64 o.commit] 24)).heap.size := Nat.le_trans HATd.out.base (bnew (Below.refl _ _) (.cells #[.int .u64 o.commit] 24)).size
        obtain ⟨u0', u1'⟩ := box_cells hat.box
        have w0' := hat.sts.2.2.1
        clear hat htx ho1 ho2 hdis hsrc
        go_wp2_with fail
        clear u0' u1' w0'
        go_region_law (first
          | (refine step_append_rel (r := u64R) (base := C) (v := v1) (u := .slice (some ⟨wr.drew.heap.size, 0, none⟩) 1 1) (S := fun _ => False) rfl _ _ rfl Tryz.etyNums rfl rfl (Own.keepB HO1.out (bnew (Below.refl _ _) (.cells #[.int .u64 o.commit] 24))) HSRC.out (fun k _ hk => hk.elim) (fun k hk h => h) (by have := HL1.out; unfold maxLen; simp; omega) (by have := HL1.out; simp; omega) hCn ?_
             intro v5 w5 ho5 hk5 hl5
             obtain ⟨a5, c5, rfl, -, -⟩ := sliceR.form ho5.slice
             have hkC : Kept (fun k => k < C) (wr.drew.alloc (.cells #[.int .u64 o.commit] 24)) w5 := hk5.mono fun k _ hkC he => by have := (HO1.out.lt he).2.2; omega
             have AT5 := Lib.hid ((HATd.out.keepB (bnew (Below.refl _ _) (.cells #[.int .u64 o.commit] 24))).kept hkC)
             have TX5 := Lib.hid ((HTXd.out.keepB (bnew (Below.refl _ _) (.cells #[.int .u64 o.commit] 24))).keep (hkC.mono fun k _ h => by have h' : k < w.heap.size := h; have := HATd.out.lay; have := HATd.out.qC; omega))
             have O25 := Lib.hid ((HO2.out.keepB (bnew (Below.refl _ _) (.cells #[.int .u64 o.commit] 24))).keep (hk5.mono fun k _ h he => HD.out k he h))
             have HD5 : Hid (∀ x, (Value.slice a5 (l1 ++ [o.commit]).length c5).ownBlock = some x → v2.ownBlock ≠ some x) := fun x hx he => by
               rcases hl5 with h | h
               · rw [h] at hx; exact HD.out x hx he
               · rw [h] at hx
                 have hx' := Option.some.inj hx
                 have h2 : x < wr.heap.size := (HO2.out.lt he).1
                 have h3 : wr.heap.size + 1 = x := (World.size_alloc wr (.cells #[.int .u64 o.commit] 24)).symm.trans hx'
                 omega
             have O15 := Lib.hid (Own.tight ho5)
             obtain ⟨t0, t1⟩ := box_cells AT5.out.box))
        all_goals
          have hkq : Kept (fun k => k ≠ q) w5 (w5.setCell ⟨q, 3, none⟩ (.slice a5 (l1 ++ [o.commit]).length c5)) := (Kept.refl _ _).setCell (fun _ h => h rfl) _
          have AT6 := Lib.hid (AT5.out.store (u1 := (.slice a5 (l1 ++ [o.commit]).length c5)) (u2 := v2) 3 (.slice a5 (l1 ++ [o.commit]).length c5) rfl)
          have TX6 := Lib.hid (TX5.out.keep (hkq.mono fun k _ h => by have h' : k < w.heap.size := h; have := AT5.out.lay; omega))
          have hqC := AT5.out.qC
          have O16 := Lib.hid (O15.out.keep (hkq.mono fun k _ h => by have := (O15.out.lt h).2.2; omega))
          have O26 := Lib.hid (O25.out.keep (hkq.mono fun k _ h => by have := (O25.out.lt h).2.2; omega))
          clear hkq x0 x1 xx y0 hcd
          go_wp2_with fail
          clear t0 t1
          generalize hW6 : w5.setCell ⟨q, 3, none⟩ (.slice a5 (l1 ++ [o.commit]).length c5) = w6 at *
          have hll : (l1 ++ [o.commit]).length = l1.length + 1 := by simp
          rw [hll] at hW6
          rw [hW6]
          clear hW6
          have hbd6 : Below w6.heap.size w6 w6.drew := (Below.refl _ _).drew
          have AT6d := Lib.hid (AT6.out.keepB hbd6)
          have TX6d := Lib.hid (TX6.out.keepB hbd6)
          obtain ⟨x0, x1⟩ := box_cells AT6d.out.box
          have y0 := AT6d.out.sts.2.2.1
          go_region_law (first
            | (refine step_append_rel (r := u64R) (base := C) (v := v2) (u := .slice (some ⟨w8.heap.size, 0, none⟩) 1 1) (S := fun _ => False) rfl _ _ rfl Tryz.etyNums rfl rfl (Own.keepB O28.out (bnew (Below.refl _ _) _)) (Src.one (r := u64R) (y := rhoS og k) ⟨rfl, hrk.out⟩ (CellsAt.new w8 [.int .u64 (rhoS og k)] 24)) (fun k _ hk => hk.elim) (fun k hk h => h) (by have := HL2.out; unfold maxLen; simp; omega) (by have := HL2.out; simp; omega) (by rw [World.size_alloc]; have := AT8.out.base; omega) ?_
               intro v9 w9 ho9 hk9 hl9
               obtain ⟨a8, c8, rfl, -, -⟩ := sliceR.form ho9.slice
               have hkC : Kept (fun k => k < C) (w8.alloc (.cells #[.int .u64 (rhoS og k)] 24)) w9 := hk9.mono fun k _ hkC he => by have := (O28.out.lt he).2.2; omega
               have AT9 := Lib.hid ((AT8.out.keepB (bnew (Below.refl _ _) (.cells #[.int .u64 (rhoS og k)] 24))).kept hkC)
               have TX9 := Lib.hid ((TX8.out.keepB (bnew (Below.refl _ _) (.cells #[.int .u64 (rhoS og k)] 24))).keep (hkC.mono fun k _ h => by have h' : k < w.heap.size := h; have := AT8.out.lay; have := AT8.out.qC; omega))
               have O19 := Lib.hid ((O18.out.keepB (bnew (Below.refl _ _) (.cells #[.int .u64 (rhoS og k)] 24))).keep (hk9.mono fun k _ h he => HD5.out k h he))
               have O29 := Lib.hid (Own.tight ho9)
               have HD9 : Hid (∀ x, (Value.slice a5 (l1 ++ [o.commit]).length c5).ownBlock = some x → (Value.slice a8 (rhosTo og k ++ [rhoS og k]).length c8).ownBlock ≠ some x) := fun x hx he => by
                 rcases hl9 with h | h
                 · rw [h] at he; exact HD5.out x hx he
                 · rw [h] at he
                   have he' := Option.some.inj he
                   have h2 := (O18.out.lt hx).1
                   rw [World.size_alloc] at he'
                   omega
               obtain ⟨t0, t1⟩ := box_cells AT9.out.box)
            | (go_simp; first
              | (go_at_call 25; refine (rOrigin_any _ _ t ma _ pa mc oc pc TX6d.out HV.out).mono ?_; rintro e w7 ⟨rfl, hb7⟩
                 rw [HOG.out]
                 have hb7' : Below w6.heap.size w6 w7 := bnext hbd6 hb7
                 have AT7 := Lib.hid (AT6.out.keepB hb7'); obtain ⟨z0, z1⟩ := box_cells AT7.out.box; have zz := fun o' => (box_cells (box_old (o' := o') AT7.out.box)).1
                 have HX7 := Lib.hid (nums2 w7 24 HOK.out (okU_of (x := (k : Int)) (by omega) (by omega))))
              | (go_at_call 24; refine (rHash_len 4 (by omega) (fun _ => True) _ _ 2 2 [og, (k : Int)] rfl HX7.out (by simp)).mono ?_; rintro e w8 ⟨rfl, hb8⟩
                 rw [← HRH.out]
                 have hb8' := bnext hb7' (bnext (bnew (Below.refl w7.heap.size w7) (.cells #[.int .u64 og, .int .u64 (k : Int)] 24)) hb8)
                 have AT8 := Lib.hid (AT6.out.keepB hb8'); have TX8 := Lib.hid (TX6.out.keepB hb8'); have O18 := Lib.hid (O16.out.keepB hb8'); have O28 := Lib.hid (O26.out.keepB hb8')
                 have hrk := Lib.hid (rhoS_ok og k)
                 obtain ⟨y0', y1'⟩ := box_cells AT8.out.box; have yy := fun o' => (box_cells (box_old (o' := o') AT8.out.box)).1)))
          all_goals
            have hkq : Kept (fun k => k ≠ q) w9 (w9.setCell ⟨q, 4, none⟩ (.slice a8 (rhosTo og k ++ [rhoS og k]).length c8)) := (Kept.refl _ _).setCell (fun _ h => h rfl) _
            have AT10 := Lib.hid (AT9.out.store (u1 := (.slice a5 (l1 ++ [o.commit]).length c5)) (u2 := (.slice a8 (rhosTo og k ++ [rhoS og k]).length c8)) 4 (.slice a8 (rhosTo og k ++ [rhoS og k]).length c8) rfl)
            have TX10 := Lib.hid (TX9.out.keep (hkq.mono fun k _ h => by have h' : k < w.heap.size := h; have := AT9.out.lay; omega))
            have O110 := Lib.hid (O19.out.keep (hkq.mono fun k _ h => by have := (O19.out.lt h).2.2; omega))
            have O210 := Lib.hid (O29.out.keep (hkq.mono fun k _ h => by have := (O29.out.lt h).2.2; omega))
            clear hkq
            go_wp2_with fail
            go_roundw
            case rel => exact ⟨k + 1, (.slice a5 (l1 ++ [o.commit]).length c5), (.slice a8 (rhosTo og k ++ [rhoS og k]).length c8), by omega, by go_num, by simpa using AT10.out, by simpa using TX10.out, by rw [HT1.out]; simpa using O110.out, by simpa [rhosTo] using O210.out, by simpa using HD9.out⟩
            case measure => simp [intOf]; omega
      · obtain rfl : k = t.outs.length := by omega
        have hlm : (t.outs.map (·.commit)).take t.outs.length = t.outs.map (·.commit) := List.take_of_length_le (by simp)
        rw [hlm] at ho1
        obtain ⟨a1, c1, rfl, -, -⟩ := sliceR.form ho1.slice
        obtain ⟨a2, c2, rfl, -, -⟩ := sliceR.form ho2.slice
        have hl1 : (t.outs.map (·.commit)).length = t.outs.length := List.length_map ..
        have hl2 : (rhosTo og t.outs.length).length = t.outs.length := rhosTo_len _ _
        rw [hl1] at hat
        rw [hl2] at hat
        have hs1 := numsR.mono ho1.slice (S' := fun k => C ≤ k) fun k _ h => (ho1.lt h).2.2
        have hs2 := numsR.mono ho2.slice (S' := fun k => C ≤ k) fun k _ h => (ho2.lt h).2.2
        have HAT := Lib.hid hat
        have HS1 := Lib.hid hs1
        have HS2 := Lib.hid hs2
        obtain ⟨x0, x1⟩ := box_cells hat.box
        obtain ⟨f0, f1'⟩ := box_cells hat.sts.2.2.2.2
        have y0 := hat.sts.2.2.1
        have hR := (cells_box (old := [.int .i64 0, .int .u64 0, .slice none 0 0, .slice none 0 0, .slice none 0 0, .int .u64 0, .int .u64 0, .int .u64 0, .int .u64 0, .int .u64 0]) hat.sts.2.2.2.2 [.int .i64 D, .int .u64 t.anchor, .slice ma t.marks.length mc, .slice a1 t.outs.length c1, .slice a2 t.outs.length c2, .int .u64 t.dep, .int .u64 t.wd, .int .u64 t.fee, .int .u64 t.acc, .int .u64 bd] rfl)
        have hK := (kept_cells wr (q := w.heap.size + 1) (S := fun k => k ≠ w.heap.size + 1) (fun h => h rfl) [.int .i64 D, .int .u64 t.anchor, .slice ma t.marks.length mc, .slice a1 t.outs.length c1, .slice a2 t.outs.length c2, .int .u64 t.dep, .int .u64 t.wd, .int .u64 t.fee, .int .u64 t.acc, .int .u64 bd] 0)
        obtain ⟨wf, hwf⟩ : ∃ wf, wf = wr.setCells (w.heap.size + 1) 0 [.int .i64 D, .int .u64 t.anchor, .slice ma t.marks.length mc, .slice a1 t.outs.length c1, .slice a2 t.outs.length c2, .int .u64 t.dep, .int .u64 t.wd, .int .u64 t.fee, .int .u64 t.acc, .int .u64 bd] := ⟨_, rfl⟩
        rw [← hwf] at hR hK
        simp only [World.setCells, Nat.reduceAdd, Nat.zero_add] at hwf
        have HW := Lib.hid hwf
        have HR := Lib.hid hR
        have HK := Lib.hid hK
        have HTX := Lib.hid htx
        clear hat ho1 ho2 hs1 hs2 hdis hwf hR hK htx
        go_wp2_with fail
        rw [← HW.out]
        obtain ⟨g0, -⟩ := box_cells HR.out
        refine bodyPost_ret (v := .agg #[.int .i64 D, .int .u64 t.anchor, .slice ma t.marks.length mc, .slice a1 t.outs.length c1, .slice a2 t.outs.length c2, .int .u64 t.dep, .int .u64 t.wd, .int .u64 t.fee, .int .u64 t.acc, .int .u64 bd]) (by simp [results, Tryz.results7, go_sem, g0]) rfl ?_
        have hBC : w.heap.size + 1 < C := Nat.lt_trans HAT.out.lay HAT.out.qC
        refine ⟨a1, a2, c1, c2, by rw [HBD.out], ⟨HTX.out.anchor, HTX.out.dep, HTX.out.wd, HTX.out.fee, HTX.out.acc, by have := hashS_in 13 (packS (encS t [])); exact okU_of this.1 (by show hashS 13 (packS (encS t [])) < _; omega), ?_, ?_, ?_⟩, ?_, ?_, ?_⟩
        · exact numsR.mono (numsR.keep HTX.out.marks (HK.out.mono fun k _ h => by have h' : k < w.heap.size := h; omega)) fun _ _ _ => trivial
        · exact numsR.mono (numsR.keep HS1.out (HK.out.mono fun k _ h => by have h' : C ≤ k := h; omega)) fun _ _ _ => trivial
        · have h2 := numsR.mono (numsR.keep HS2.out (HK.out.mono fun k _ h => by have h' : C ≤ k := h; omega)) (S' := fun _ => True) fun _ _ _ => trivial
          rw [← HOG.out] at h2
          exact h2
        · exact numsR.mono (numsR.keep HS1.out (HK.out.mono fun k _ h => by have h' : C ≤ k := h; omega)) fun k _ h => by have h' : C ≤ k := h; omega
        · have h2 := numsR.mono (numsR.keep HS2.out (HK.out.mono fun k _ h => by have h' : C ≤ k := h; omega)) (S' := fun k => w.heap.size ≤ k) fun k _ h => by have h' : C ≤ k := h; omega
          rw [← HOG.out] at h2
          exact h2
        · exact Kept.behind HAT.out.sts.1 HK.out HAT.out.sts.1.size fun k hk => by omega
theorem rStatementI_any (S : Nat → Prop) (w : World) (t : TxM) (ma oa' pa : Option Addr) (mc oc pc : Nat) (h : TxIn S w t ma oa' pa mc oc pc) (hv : validE t = 0) (D : Int) :
    Calls Tryz.prog 7 #[.agg #[.int .u64 t.anchor, .slice ma t.marks.length mc, .slice oa' t.outs.length oc, .int .u64 t.dep, .int .u64 t.wd, .int .u64 t.fee, .int .u64 t.acc, .int .u64 t.nonce, .int .i64 t.exp, .slice pa t.proof.length pc], .int .i64 D] w (RStOutI D t ma mc w) := rStatementI_in w t ma oa' pa mc oc pc h.bound hv D
end Go.Proofs.YtgjemeeeignlnaaGreatDoor
/- The reference's statement of a transaction that is not valid. -/
namespace Go.Proofs.YtgjemeeeignlnaaGreatDoor
open Go.ChangeShapes Go.WideShapes Go.ChangeAt Go.RowKit Go.Sort

set_option maxRecDepth 100000 in
set_option maxHeartbeats 1000000 in
theorem rStatementI_bad (S : Nat → Prop) (w : World) (t : TxM) (ma oa pa : Option Addr) (mc oc pc : Nat) (h : TxIn S w t ma oa pa mc oc pc) (hv : validE t ≠ 0) (D : Int) :
    Calls Tryz.prog 7 #[.agg #[.int .u64 t.anchor, .slice ma t.marks.length mc, .slice oa t.outs.length oc, .int .u64 t.dep, .int .u64 t.wd, .int .u64 t.fee, .int .u64 t.acc, .int .u64 t.nonce, .int .i64 t.exp, .slice pa t.proof.length pc], .int .i64 D] w fun e w' =>
      e = .returned (.agg #[.int .i64 0, .int .u64 0, .slice none 0 0, .slice none 0 0, .slice none 0 0, .int .u64 0, .int .u64 0, .int .u64 0, .int .u64 0, .int .u64 0]) ∧ Below w.heap.size w w' := by
  have z1 : (validE t == 0) = false := by rw [beq_eq_false_iff_ne]; exact hv
  have z2 : (validE t != 0) = true := by rw [bne_iff_ne]; exact hv
  have hb0 := bnew (Below.refl w.heap.size w) (.cells #[.int .u64 t.anchor, .slice ma t.marks.length mc, .slice oa t.outs.length oc, .int .u64 t.dep, .int .u64 t.wd, .int .u64 t.fee, .int .u64 t.acc, .int .u64 t.nonce, .int .i64 t.exp, .slice pa t.proof.length pc] 31)
  have hb2 := bnew hb0 (.cells #[.int .i64 0, .int .u64 0, .slice none 0 0, .slice none 0 0, .slice none 0 0, .int .u64 0, .int .u64 0, .int .u64 0, .int .u64 0, .int .u64 0] 46)
  have HX := Lib.hid (two_new w (.cells #[.int .u64 t.anchor, .slice ma t.marks.length mc, .slice oa t.outs.length oc, .int .u64 t.dep, .int .u64 t.wd, .int .u64 t.fee, .int .u64 t.acc, .int .u64 t.nonce, .int .i64 t.exp, .slice pa t.proof.length pc] 31) (.cells #[.int .i64 0, .int .u64 0, .slice none 0 0, .slice none 0 0, .slice none 0 0, .int .u64 0, .int .u64 0, .int .u64 0, .int .u64 0, .int .u64 0] 46))
  have H := Lib.hid (h.keepB hb2)
  have HB := Lib.hid hb2
  clear hb0 hb2 h hv
  go_enter Tryz.func7, Tryz.ntmps7
  go_wp2_with fail
  refine (rtxValid_any S _ t ma oa pa mc oc pc H.out).mono ?_
  rintro e w1 ⟨rfl, hb1⟩
  have hq := box_after hb1 HX.out.1
  obtain ⟨x0, x1⟩ := box_cells hq
  have hR := cells_box (old := [.int .i64 0, .int .u64 0, .slice none 0 0, .slice none 0 0, .slice none 0 0, .int .u64 0, .int .u64 0, .int .u64 0, .int .u64 0, .int .u64 0]) hq [.int .i64 0, .int .u64 0, .slice none 0 0, .slice none 0 0, .slice none 0 0, .int .u64 0, .int .u64 0, .int .u64 0, .int .u64 0, .int .u64 0] rfl
  have hK := (Kept.of_below (S := fun k => k < w.heap.size) (bnext HB.out hb1)).trans (kept_cells w1 (q := w.heap.size + 1) (S := fun k => k < w.heap.size) (fun h => by have h' : w.heap.size + 1 < w.heap.size := h; omega) [.int .i64 0, .int .u64 0, .slice none 0 0, .slice none 0 0, .slice none 0 0, .int .u64 0, .int .u64 0, .int .u64 0, .int .u64 0, .int .u64 0] 0) (fun _ _ h => h)
  obtain ⟨wf, hwf⟩ : ∃ wf, wf = w1.setCells (w.heap.size + 1) 0 [.int .i64 0, .int .u64 0, .slice none 0 0, .slice none 0 0, .slice none 0 0, .int .u64 0, .int .u64 0, .int .u64 0, .int .u64 0, .int .u64 0] := ⟨_, rfl⟩
  rw [← hwf] at hR hK
  simp only [World.setCells, Nat.zero_add, Nat.reduceAdd] at hwf
  have HW := Lib.hid hwf
  have HR := Lib.hid hR
  have HK := Lib.hid hK
  clear hwf hR hK hq
  generalize validE t = r at *
  go_wp2_with fail
  rw [← HW.out]
  obtain ⟨g0, -⟩ := box_cells HR.out
  refine bodyPost_ret (v := .agg #[.int .i64 0, .int .u64 0, .slice none 0 0, .slice none 0 0, .slice none 0 0, .int .u64 0, .int .u64 0, .int .u64 0, .int .u64 0, .int .u64 0]) (by simp [results, Tryz.results7, go_sem, g0]) rfl ?_
  exact ⟨rfl, HK.out.below (Nat.le_refl _)⟩
end Go.Proofs.YtgjemeeeignlnaaGreatDoor
/- What the oracle has issued is what the reference says: plain facts, no program in sight. -/
namespace Go.Proofs.YtgjemeeeignlnaaGreatDoor
open Go.ChangeShapes Go.WideShapes Go.ChangeAt Go.RowKit Go.Sort

theorem reads_failed : ∀ (k : Nat) (r : RdM) (acc : List Int), r.failed = true → (RdM.reads k r acc).2.failed = true
  | 0, _, _, h => h
  | k + 1, _, _, h => reads_failed k _ _ (uint_failed h _)
theorem uint_word (bs : List Int) (j : Nat) (h : 8 * j + 8 ≤ bs.length) : RdM.uint ⟨bs, 8 * j, false⟩ 18446744069414584320 = if 18446744069414584320 < word bs j then (0, ⟨bs, 8 * j + 8, true⟩) else (word bs j, ⟨bs, 8 * j + 8, false⟩) := by
  have hb : RdM.bad ⟨bs, 8 * j, false⟩ 8 = false := by
    unfold RdM.bad
    simp; omega
  have hd : RdM.dig ⟨bs, 8 * j, false⟩ 8 = (word bs j, true, ⟨bs, 8 * j + 8, false⟩) := by
    unfold RdM.dig
    rw [hb]; rfl
  unfold RdM.uint
  rw [hd]
  by_cases hc : 18446744069414584320 < word bs j
  · rw [if_pos (.inr hc), if_pos hc]; rfl
  · rw [if_neg (fun h => h.elim (fun h => by cases h) hc), if_neg hc]
theorem reads_good (bs : List Int) : ∀ (k j : Nat) (acc : List Int), 8 * (j + k) ≤ bs.length → (∀ i, j ≤ i → i < j + k → word bs i < 18446744069414584321) →
    RdM.reads k ⟨bs, 8 * j, false⟩ acc = (acc ++ (List.range' j k).map (word bs), ⟨bs, 8 * (j + k), false⟩)
  | 0, j, acc, _, _ => by simp [RdM.reads]
  | k + 1, j, acc, h, hw => by
    unfold RdM.reads
    have h0 := hw j (Nat.le_refl _) (by omega)
    rw [uint_word bs j (by omega), if_neg (by omega)]
    have := reads_good bs k (j + 1) (acc ++ [word bs j]) (by omega) (fun i h1 h2 => hw i (by omega) (by omega))
    rw [show 8 * (j + 1) = 8 * j + 8 by omega] at this
    simp only
    rw [this, List.range'_succ]
    simp
    omega
theorem reads_bad (bs : List Int) : ∀ (k j : Nat) (acc : List Int), 8 * (j + k) ≤ bs.length → (∃ i, j ≤ i ∧ i < j + k ∧ ¬ word bs i < 18446744069414584321) → (RdM.reads k ⟨bs, 8 * j, false⟩ acc).2.failed = true
  | 0, j, acc, _, ⟨i, h1, h2, _⟩ => by omega
  | k + 1, j, acc, h, ⟨i, h1, h2, h3⟩ => by
    unfold RdM.reads
    rw [uint_word bs j (by omega)]
    by_cases hc : 18446744069414584320 < word bs j
    · rw [if_pos hc]
      exact reads_failed k _ _ rfl
    · rw [if_neg hc]
      have hij : i ≠ j := fun e => by subst e; omega
      have := reads_bad bs k (j + 1) (acc ++ [word bs j]) (by omega) ⟨i, by omega, by omega, h3⟩
      rw [show 8 * (j + 1) = 8 * j + 8 by omega] at this
      exact this
theorem words_range (bs : List Int) (c : Nat) : (List.range' 0 c).map (word bs) = wordsTo bs c := by rw [wordsTo, List.range_eq_range']
theorem word_in {bs : List Int} (hb : ∀ d ∈ bs, 0 ≤ d ∧ d < 256) (j : Nat) : 0 ≤ word bs j :=
  (leN_in _ fun d hd => hb d (List.mem_of_mem_drop (List.mem_of_mem_take hd))).1
/-- The program's check and the reference's. -/
theorem iss_racc (dg : Int) (L : List Int) (hdg : okU dg) (hL : ∀ x ∈ L, 0 ≤ x ∧ x < 18446744069414584321) (s : StM) (hs : (digestL s).map redP = digestL s) (proof : List Int) (hp : ∀ d ∈ proof, 0 ≤ d ∧ d < 256) :
    issB (some (keyS [dg] L)) s proof = raccB (some (dg, L)) s proof := by
  unfold issB raccB
  rw [hs]
  by_cases hl : proof.length = 64 + 32 * (s.marks.length + s.commits.length)
  · rw [decide_eq_true hl]
    obtain ⟨c, hc⟩ : ∃ c, proof.length / 8 = c := ⟨_, rfl⟩
    have hc8 : 8 * (0 + c) = proof.length := by omega
    rw [hc]
    by_cases hw : ∀ i, i < c → word proof i < 18446744069414584321
    · have hr := reads_good proof c 0 [] (by omega) (fun i _ h => hw i (by omega))
      rw [Nat.mul_zero] at hr
      rw [hr, words_range]
      have hd : RdM.done ⟨proof, 8 * (0 + c), false⟩ = true := by unfold RdM.done; simp; omega
      rw [List.nil_append, hd, Bool.true_and, Bool.true_and, Bool.true_and, Bool.eq_iff_iff, decide_eq_true_eq, decide_eq_true_eq]
      constructor
      · intro h
        obtain ⟨h1, h2⟩ := keyS_inj hdg (hashS_ok _ _) (fun x hx => okU_of (hL x hx).1 (by have := (hL x hx).2; omega)) (fun x hx => by
          obtain ⟨j, hj, rfl⟩ := List.mem_map.1 hx
          have := hw j (List.mem_range.1 hj)
          exact okU_of (word_in hp j) (by omega)) (Option.some.inj h)
        rw [h1, h2]
      · intro h
        simp only [Option.some.injEq, Prod.mk.injEq] at h
        rw [h.1, h.2]
    · have hx : ∃ i, i < c ∧ ¬ word proof i < 18446744069414584321 := by
        apply Classical.byContradiction
        intro hn
        exact hw fun i hi => Classical.byContradiction fun h => hn ⟨i, hi, h⟩
      obtain ⟨i, hi, hb⟩ := hx
      have hf := reads_bad proof c 0 [] (by omega) ⟨i, Nat.zero_le _, by omega, hb⟩
      rw [Nat.mul_zero] at hf
      rw [done_failed hf, Bool.false_and]
      have hne : ¬ (some (dg, L) = some (hashS 24 (digestL s), wordsTo proof c)) := fun h => by
        simp only [Option.some.injEq, Prod.mk.injEq] at h
        have hm : word proof i ∈ L := by rw [h.2]; exact List.mem_map.2 ⟨i, List.mem_range.2 hi, rfl⟩
        exact hb (hL _ hm).2
      rw [decide_eq_false hne]
  · rw [decide_eq_false hl, Bool.false_and, Bool.false_and]
theorem iss_none (s : StM) (proof : List Int) : issB none s proof = raccB none s proof := by
  unfold issB raccB; simp
theorem redP_same {x : Int} (h0 : 0 ≤ x) (h : x < 18446744069414584321) : redP x = x := by unfold redP; exact Int.emod_eq_of_lt h0 h
theorem elemsB_lt {l : List Int} (h : elemsB l = true) : ∀ x ∈ l, x < 18446744069414584321 := by
  intro x hx
  obtain ⟨k, hk, rfl⟩ := List.getElem_of_mem hx
  cases hq : elemB (l.getD k 0) with
  | true =>
    rw [getD_at l 0 k hk] at hq
    exact of_decide_eq_true hq
  | false =>
    have : elemsB l = false := allUp_false (k := k) hq hk
    rw [this] at h; cases h
theorem rhosTo_in (o : Int) : ∀ n, ∀ x ∈ rhosTo o n, 0 ≤ x ∧ x < 18446744069414584321
  | 0, x, h => by simp [rhosTo] at h
  | n + 1, x, h => by
    simp only [rhosTo, List.mem_append, List.mem_singleton] at h
    rcases h with h | rfl
    · exact rhosTo_in o n x h
    · unfold rhoS
      split
      · exact hashS_in _ _
      · omega
/-- A valid transaction's statement is made of elements. -/
theorem digestL_red {S : Nat → Prop} {w : World} {t : TxM} {ma oa pa : Option Addr} {mc oc pc : Nat} (h : TxIn S w t ma oa pa mc oc pc) (hv : validE t = 0) (D : Nat) (hD : D ≤ 12) : (digestL (stOf D t (bindS t))).map redP = digestL (stOf D t (bindS t)) := by
  have hall : (marksB t.marks && (outsB t.outs && (amountsB t && restB t))) = true := by
    cases h : (marksB t.marks && (outsB t.outs && (amountsB t && restB t))) with
    | true => rfl
    | false => rw [validE_bad h] at hv; cases hv
  simp only [Bool.and_eq_true] at hall
  obtain ⟨hm, ho, ha, hr⟩ := hall
  rw [marksB_eq] at hm
  simp only [Bool.and_eq_true] at hm
  unfold outsB at ho
  simp only [Bool.and_eq_true, decide_eq_true_eq] at hm ho
  unfold amountsB at ha
  unfold restB at hr
  rw [decide_eq_true_eq] at ha hr
  have hmm := elemsB_lt hm.2.1
  have hmk := ints_wf h.marks
  have hcm : ∀ x ∈ t.outs.map (·.commit), 0 ≤ x ∧ x < 18446744069414584321 := by
    intro x hx
    obtain ⟨o, hm2, rfl⟩ := List.mem_map.1 hx
    obtain ⟨k, hk, rfl⟩ := List.getElem_of_mem hm2
    obtain ⟨-, -, -, -, -, -, -, okc, -⟩ := outs_at h.outs k hk
    have hb := List.all_eq_true.1 ho.2 _ hm2
    unfold outB at hb
    simp only [Bool.and_eq_true] at hb
    exact ⟨(okU_in okc).1, of_decide_eq_true hb.1⟩
  have hb := hashS_in 13 (packS (encS t []))
  have hbd : bindS t = hashS 13 (packS (encS t [])) := rfl
  have d0 := okU_in h.dep
  have w0 := okU_in h.wd
  have f0 := okU_in h.fee
  have a0 := okU_in h.acc
  have n0 := okU_in h.anchor
  have key : ∀ x ∈ digestL (stOf D t (bindS t)), redP x = x := by
    intro x hx
    unfold digestL at hx
    simp only [List.mem_append, List.mem_cons, List.not_mem_nil, or_false] at hx
    rcases hx with ((((((rfl | rfl | rfl) | hx) | rfl) | hx) | hx) | (rfl | rfl | rfl | rfl | rfl))
    · have e : maxZ ((stOf D t (bindS t)).depth) = (D : Int) := by
        show maxZ (D : Int) = D
        unfold maxZ
        rw [if_neg (by omega)]
      rw [e]
      exact redP_same (by omega) (by omega)
    · exact redP_same n0.1 hr.1
    · have e : (stOf D t (bindS t)).marks.length = t.marks.length := rfl
      rw [e]
      exact redP_same (by omega) (by omega)
    · exact redP_same (okU_in (hmk x hx)).1 (hmm x hx)
    · have e : (stOf D t (bindS t)).commits.length = t.outs.length := by simp [stOf]
      rw [e]
      exact redP_same (by omega) (by omega)
    · exact redP_same (hcm x hx).1 (hcm x hx).2
    · exact redP_same (rhosTo_in _ _ x hx).1 (rhosTo_in _ _ x hx).2
    · exact redP_same d0.1 (Int.lt_of_le_of_lt ha.1.1 (by omega))
    · exact redP_same w0.1 (Int.lt_of_le_of_lt ha.1.2.1 (by omega))
    · exact redP_same f0.1 (Int.lt_of_le_of_lt ha.1.2.2 (by omega))
    · exact redP_same a0.1 ha.2.1.1
    · show redP (bindS t) = bindS t
      rw [hbd]
      exact redP_same hb.1 hb.2
  have := List.map_congr_left (g := id) (l := digestL (stOf D t (bindS t))) key
  rw [this, List.map_id]
/-- The proofs of the program's oracle and of the reference's. -/
def keyO : Option (Int × List Int) → Option ByteArray
  | none => none
  | some (dg, L) => some (keyS [dg] L)
theorem checkI_checkR {S : Nat → Prop} {w : World} {t : TxM} {ma oa pa : Option Addr} {mc oc pc : Nat} (h : TxIn S w t ma oa pa mc oc pc) (rp : Option (Int × List Int)) (hrp : ∀ dg L, rp = some (dg, L) → okU dg ∧ ∀ x ∈ L, 0 ≤ x ∧ x < 18446744069414584321) (d bl bu qu rew win fin work : Int) :
    checkI (keyO rp) d bl bu qu rew win fin work t = checkR rp d bl bu qu rew win fin work t := by
  unfold checkI checkR
  by_cases hr : rulesE 3 d bl bu qu rew win fin work = 0
  · rw [if_pos hr, if_pos hr]
    by_cases hv : validE t = 0
    · rw [if_pos hv, if_pos hv]
      have hd := rulesE_depth hr
      have e : issB (keyO rp) (stOf d.toNat t (bindS t)) t.proof = raccB rp (stOf d.toNat t (bindS t)) t.proof := by
        cases rp with
        | none => exact iss_none _ _
        | some x =>
          obtain ⟨dg, L⟩ := x
          obtain ⟨h1, h2⟩ := hrp dg L rfl
          exact iss_racc dg L h1 h2 _ (digestL_red h hv d.toNat (by omega)) _ (bytes_in h.proof)
      rw [e]
    · rw [if_neg hv, if_neg hv]
  · rw [if_neg hr, if_neg hr]
end Go.Proofs.YtgjemeeeignlnaaGreatDoor
/- A new ideal oracle; the reference's statement of any transaction at any depth. -/
namespace Go.Proofs.YtgjemeeeignlnaaGreatDoor
open Go.ChangeShapes Go.WideShapes Go.ChangeAt Go.RowKit Go.Sort

def NewOrX (st : Int) (w : World) (e : Ending) (w' : World) : Prop :=
  ∃ p mk ms mp, e = .returned (.pointer (some ⟨p, 0, none⟩)) ∧ w.heap.size ≤ p ∧ w.heap.size ≤ mp ∧ OrX st 0 none p mk ms mp w' ∧ Below w.heap.size w w'
set_option maxHeartbeats 1000000 in
theorem newOracleX (w : World) : Calls Tryz.prog 21 #[] w fun e w' => ∃ p mk ms mp, e = .returned (.pointer (some ⟨p, 0, none⟩)) ∧ w.heap.size ≤ p ∧ w.heap.size ≤ mp ∧
    w'.heap[p]? = some (.cells #[.bool false, .int .u64 0, .int .i64 0, .slice none 0 0, .map (some mk), .map (some ms), .map (some mp)] 71 (0, 0)) ∧ w'.heap[mp]? = some (provedM none) ∧ Below w.heap.size w w' := by
  have hmm := @run_makeMap Tryz.prog
  obtain ⟨q1, q2, q3, q4⟩ := four_new w (.map #[] 0) (.map #[] 0) (.map #[] 0) (.cells #[.bool false, .int .u64 0, .int .i64 0, .slice none 0 0, .map (some w.heap.size), .map (some (w.heap.size + 1)), .map (some (w.heap.size + 2))] 71)
  have Q1 := Lib.hid q1
  have Q2 := Lib.hid q2
  clear q1 q2 q3 q4
  go_enter Tryz.func21, Tryz.ntmps21
  go_wp2
  go_ret
  exact ⟨w.heap.size + 3, _, _, w.heap.size + 2, by simp, by omega, by omega, Q1.out, Q2.out, bnew (bnew (bnew (bnew (Below.refl _ _) _) _) _) _⟩
set_option maxHeartbeats 1000000 in
theorem idealX_any (w : World) (st : Int) : Calls Tryz.prog 6 #[.int .u64 st] w (NewOrX st w) := by
  go_enter Tryz.func6, Tryz.ntmps6
  go_wp2_with fail
  refine (newOracleX w).mono ?_
  rintro e w1 ⟨p, mk, ms, mp, rfl, h1, h2, q1, q2, h3⟩
  obtain ⟨c0, c1⟩ := box_cells q1
  have hne : mp ≠ p := fun e => by rw [e, q1] at q2; exact provedM_ne (Option.some.inj q2).symm
  have N3 := Lib.hid hne
  have Q1 := Lib.hid q1
  have Q2 := Lib.hid q2
  clear q1 q2 hne
  go_wp2
  go_ret
  exact ⟨p, mk, ms, mp, rfl, h1, h2, ⟨box_set (box_set Q1.out), box_set_far (box_set_far Q2.out N3.out) N3.out⟩, (h3.setCell h1 _).setCell h1 _⟩
/-- The statement that the reference gives. -/
def rstM (d : Int) (t : TxM) : StM := if validE t = 0 then stOfI d t (bindS t) else ⟨0, 0, [], [], [], 0, 0, 0, 0, 0⟩
theorem rstM_small (d : Int) (t : TxM) : (rstM d t).marks.length ≤ 4 ∧ (rstM d t).commits.length ≤ 4 ∧ (rstM d t).rhos.length ≤ 4 := by
  unfold rstM
  split
  · rename_i hv
    obtain ⟨h1, h2, -⟩ := validE_sizes hv
    refine ⟨h1, by simpa [stOfI] using h2, ?_⟩
    show (rhosTo _ _).length ≤ 4
    rw [rhosTo_len]; exact h2
  · simp
theorem rstM_depth (d : Int) (t : TxM) (hd : d < 9223372036854775808) : (rstM d t).depth < 9223372036854775808 := by
  unfold rstM
  split
  · exact hd
  · show (0 : Int) < _; omega
theorem rSt_any (S : Nat → Prop) (w : World) (t : TxM) (ma oa pa : Option Addr) (mc oc pc : Nat) (h : TxIn S w t ma oa pa mc oc pc) (d : Int) :
    Calls Tryz.prog 7 #[.agg #[.int .u64 t.anchor, .slice ma t.marks.length mc, .slice oa t.outs.length oc, .int .u64 t.dep, .int .u64 t.wd, .int .u64 t.fee, .int .u64 t.acc, .int .u64 t.nonce, .int .i64 t.exp, .slice pa t.proof.length pc], .int .i64 d] w fun e w' => ∃ (s : StM) (sa sb sc : Option Addr) (sd se sf : Nat), Hid (rstM d t = s) ∧ e = .returned (.agg #[.int .i64 s.depth, .int .u64 s.anchor, .slice sa s.marks.length sd, .slice sb s.commits.length se, .slice sc s.rhos.length sf, .int .u64 s.dep, .int .u64 s.wd, .int .u64 s.fee, .int .u64 s.acc, .int .u64 s.bind]) ∧ StIn (fun k => S k ∨ w.heap.size ≤ k) w' s sa sb sc sd se sf ∧ Below w.heap.size w w' := by
  by_cases hv : validE t = 0
  · refine (rStatementI_any S w t ma oa pa mc oc pc h hv d).mono ?_
    rintro e w1 ⟨sb, sc, se, sf, rfl, hs, hc1, hc2, hb⟩
    have e1 : (stOfI d t (bindS t)).commits.length = t.outs.length := by simp [stOfI]
    have e2 : (stOfI d t (bindS t)).rhos.length = t.outs.length := rhosTo_len _ _
    refine ⟨stOfI d t (bindS t), ma, sb, sc, mc, se, sf, ?_, ?_, ?_, hb⟩
    · show _ = _; unfold rstM; rw [if_pos hv]
    · rw [e1, e2]; rfl
    · exact ⟨hs.anchor, hs.dep, hs.wd, hs.fee, hs.acc, hs.bind, numsR.mono (numsR.keepB h.marks hb) fun _ _ h => .inl h, numsR.mono hc1 fun _ _ h => .inr h, numsR.mono hc2 fun _ _ h => .inr h⟩
  · refine (rStatementI_bad S w t ma oa pa mc oc pc h hv d).mono ?_
    rintro e w1 ⟨rfl, hb⟩
    refine ⟨⟨0, 0, [], [], [], 0, 0, 0, 0, 0⟩, none, none, none, 0, 0, 0, ?_, rfl, ?_, hb⟩
    · show _ = _; unfold rstM; rw [if_neg hv]
    · have o0 : okU 0 := okU_of (by omega) (by omega)
      exact ⟨o0, o0, o0, o0, o0, o0, sliceR.nil, sliceR.nil, sliceR.nil⟩
/-- The program's Prove, with any size. -/
theorem proveZ_any (w : World) (st : Int) (p mk ms mp : Nat) (h : OrX st 0 none p mk ms mp w) (dg : Int) (d0 : okU dg) (N : Int) (hN : N ≤ 1000) :
    Calls Tryz.prog 9 #[.pointer (some ⟨p, 0, none⟩), .int .u64 dg, .int .i64 N] w fun e w' => ∃ (rp : Option (Int × List Int)) (L : List Int) (len : Nat) (a : Option Addr) (cap : Nat) (st' n' : Int), Hid ((N < 0 → rp = none ∧ L = [] ∧ st' = st ∧ n' = 0) ∧ (0 ≤ N → rp = some (dg, drawsL st N.toNat) ∧ L = drawsL st N.toNat ∧ st' = stN st N.toNat ∧ n' = N)) ∧ len ≤ 1000 ∧ Hid (L.length = len) ∧
      e = .returned (.slice a len cap) ∧ numsR.rel (fun k => w.heap.size ≤ k) w' [.slice a len cap] L ∧ OrX st' n' (keyO rp) p mk ms mp w' ∧ Kept (fun k => k ≠ p ∧ k ≠ mp) w w' := by
  by_cases hn : N < 0
  · refine (prove_neg w st 0 none p mk ms mp h dg N hn).mono ?_
    rintro e w1 ⟨rfl, rfl⟩
    exact ⟨none, [], 0, none, 0, st, 0, ⟨fun _ => ⟨rfl, rfl, rfl, rfl⟩, fun h => by omega⟩, by omega, rfl, rfl, sliceR.nil, h, Kept.refl _ _⟩
  · obtain ⟨M, rfl⟩ := Int.eq_ofNat_of_zero_le (show 0 ≤ N by omega)
    refine (prove_any w st p mk ms mp h dg d0 M (by omega)).mono ?_
    rintro e w1 ⟨a, cap, rfl, hr, ho, hk⟩
    exact ⟨some (dg, drawsL st M), drawsL st M, M, a, cap, stN st M, M, ⟨fun h => by omega, fun _ => ⟨rfl, rfl, rfl, rfl⟩⟩, by omega, drawsL_len st M, rfl, hr, ho, hk⟩
/-- The reference's Prove, with any size. -/
theorem rproveZ_any (w : World) (st : Int) (dg : Int) (d0 : okU dg) (N : Int) (hN : N ≤ 1000) :
    Calls Tryz.prog 11 #[.agg #[.int .u64 st, .int .i64 0, .slice none 0 0, .slice none 0 0, .slice none 0 0], .int .u64 dg, .int .i64 N] w fun e w' => ∃ (rp : Option (Int × List Int)) (L : List Int) (len : Nat) (a : Option Addr) (cap : Nat) (st' n' : Int) (qa : Option Addr) (ql qc : Nat), Hid ((N < 0 → rp = none ∧ L = [] ∧ st' = st ∧ n' = 0) ∧ (0 ≤ N → rp = some (dg, drawsL st N.toNat) ∧ L = drawsL st N.toNat ∧ st' = stN st N.toNat ∧ n' = N)) ∧ len ≤ 1000 ∧ Hid (L.length = len) ∧
      e = .returned (.tuple #[.slice a len cap, .agg #[.int .u64 st', .int .i64 n', .slice none 0 0, .slice none 0 0, .slice qa ql qc]]) ∧ numsR.rel (fun k => w.heap.size ≤ k) w' [.slice a len cap] L ∧ RpIn (fun k => w.heap.size ≤ k) w' rp qa ql qc ∧ Below w.heap.size w w' := by
  by_cases hn : N < 0
  · refine (rprove_neg w st 0 dg N hn).mono ?_
    rintro e w1 ⟨rfl, hb⟩
    exact ⟨none, [], 0, none, 0, st, 0, none, 0, 0, ⟨fun _ => ⟨rfl, rfl, rfl, rfl⟩, fun h => by omega⟩, by omega, rfl, rfl, sliceR.nil, ⟨rfl, rfl, rfl⟩, hb⟩
  · obtain ⟨M, rfl⟩ := Int.eq_ofNat_of_zero_le (show 0 ≤ N by omega)
    refine (rprove_any w st dg d0 M (by omega)).mono ?_
    rintro e w1 ⟨a, cap, qa, qc, rfl, hr, hp, hb⟩
    exact ⟨some (dg, drawsL st M), drawsL st M, M, a, cap, stN st M, M, qa, 1, qc, ⟨fun h => by omega, fun _ => ⟨rfl, rfl, rfl, rfl⟩⟩, by omega, drawsL_len st M, rfl, hr, ⟨rfl, hp, by rw [drawsL_len]; omega⟩, hb⟩
/-- Both have issued the same. -/
theorem proveZ_same {N dg st : Int} {rp rp' : Option (Int × List Int)} {L L' : List Int} {s s' n n' : Int} (h : (N < 0 → rp = none ∧ L = [] ∧ s = st ∧ n = 0) ∧ (0 ≤ N → rp = some (dg, drawsL st N.toNat) ∧ L = drawsL st N.toNat ∧ s = stN st N.toNat ∧ n = N))
    (h' : (N < 0 → rp' = none ∧ L' = [] ∧ s' = st ∧ n' = 0) ∧ (0 ≤ N → rp' = some (dg, drawsL st N.toNat) ∧ L' = drawsL st N.toNat ∧ s' = stN st N.toNat ∧ n' = N)) : rp' = rp ∧ L' = L ∧ s' = s ∧ n' = n := by
  by_cases hn : N < 0
  · obtain ⟨a, b, c, d⟩ := h.1 hn
    obtain ⟨a', b', c', d'⟩ := h'.1 hn
    exact ⟨a'.trans a.symm, b'.trans b.symm, c'.trans c.symm, d'.trans d.symm⟩
  · obtain ⟨a, b, c, d⟩ := h.2 (by omega)
    obtain ⟨a', b', c', d'⟩ := h'.2 (by omega)
    exact ⟨a'.trans a.symm, b'.trans b.symm, c'.trans c.symm, d'.trans d.symm⟩
theorem proveZ_ok {N dg st : Int} {rp : Option (Int × List Int)} {L : List Int} {s n : Int} (hd : okU dg) (h : (N < 0 → rp = none ∧ L = [] ∧ s = st ∧ n = 0) ∧ (0 ≤ N → rp = some (dg, drawsL st N.toNat) ∧ L = drawsL st N.toNat ∧ s = stN st N.toNat ∧ n = N)) :
    ∀ dg' L', rp = some (dg', L') → okU dg' ∧ ∀ x ∈ L', 0 ≤ x ∧ x < 18446744069414584321 := by
  intro dg' L' he
  by_cases hn : N < 0
  · rw [(h.1 hn).1] at he; cases he
  · rw [(h.2 (by omega)).1] at he
    simp only [Option.some.injEq, Prod.mk.injEq] at he
    obtain ⟨rfl, rfl⟩ := he
    exact ⟨hd, drawsL_in st _⟩
set_option maxRecDepth 100000 in
set_option maxHeartbeats 1000000 in
theorem questionsX_any (w : World) (st n : Int) (pr : Option ByteArray) (p mk ms mp : Nat) (ho : OrX st n pr p mk ms mp w) : Calls Tryz.prog 17 #[.pointer (some ⟨p, 0, none⟩)] w fun e w' => (∃ a c, e = .returned (.slice a 0 c)) ∧ Below w.heap.size w w' := by
  have q1 := ho.1
  obtain ⟨x0, x1⟩ := box_cells q1
  have HQ := Lib.hid q1
  clear q1
  go_enter Tryz.func17, Tryz.ntmps17
  go_wp2_with (refine wpList_make_rel rfl _ _ rfl questR w.heap.size Tryz.etyQuest (n := 0) rfl rfl rfl (by omega) (by unfold maxLen; omega) (Nat.le_refl _) ?_)
  intro w1 _ hb1
  clear x0 x1
  obtain ⟨x0, x1⟩ := box_cells (box_after hb1 HQ.out)
  go_wp2_with fail
  go_loop [17] (fun vi => vi = .int .i64 0) (fun _ => 0)
  case atStart => rfl
  case round =>
    subst hrel
    go_wp2_with fail
    go_ret
    exact ⟨⟨_, _, rfl⟩, hb1⟩
/-! What the law keeps. -/
theorem OrX.keep {st n : Int} {pr : Option ByteArray} {p mk ms mp : Nat} {w w' : World} {S : Nat → Prop} (h : OrX st n pr p mk ms mp w) (hk : Kept S w w') (h1 : S p) (h2 : S mp) : OrX st n pr p mk ms mp w' := ⟨box_kept hk h.1 h1, box_kept hk h.2 h2⟩
theorem OrX.lt {st n : Int} {pr : Option ByteArray} {p mk ms mp : Nat} {w : World} (h : OrX st n pr p mk ms mp w) : p < w.heap.size ∧ mp < w.heap.size := ⟨box_lt h.1, box_lt h.2⟩
theorem RpIn.keep {S : Nat → Prop} {w w' : World} {rp : Option (Int × List Int)} {qa : Option Addr} {ql qc : Nat} (h : RpIn S w rp qa ql qc) (hk : Kept S w w') : RpIn S w' rp qa ql qc := by
  cases rp with
  | none => exact h
  | some x => exact ⟨h.1, storedsR.keep h.2.1 hk, h.2.2⟩
theorem RpIn.mono {S S' : Nat → Prop} {w : World} {rp : Option (Int × List Int)} {qa : Option Addr} {ql qc : Nat} (h : RpIn S w rp qa ql qc) (hS : ∀ k, k < w.heap.size → S k → S' k) : RpIn S' w rp qa ql qc := by
  cases rp with
  | none => exact h
  | some x => exact ⟨h.1, storedsR.mono h.2.1 hS, h.2.2⟩
theorem RpIn.bound {S : Nat → Prop} {w : World} {rp : Option (Int × List Int)} {qa : Option Addr} {ql qc : Nat} (h : RpIn S w rp qa ql qc) : RpIn (fun k => S k ∧ k < w.heap.size) w rp qa ql qc := by
  cases rp with
  | none => exact h
  | some x => exact ⟨h.1, storedsR.bound h.2.1, h.2.2⟩
theorem StIn.keep {S : Nat → Prop} {w w' : World} {s : StM} {ma ca ra : Option Addr} {mc cc rc : Nat} (h : StIn S w s ma ca ra mc cc rc) (hk : Kept S w w') : StIn S w' s ma ca ra mc cc rc :=
  ⟨h.anchor, h.dep, h.wd, h.fee, h.acc, h.bind, numsR.keep h.marks hk, numsR.keep h.commits hk, numsR.keep h.rhos hk⟩
theorem put6 {w : World} {q : Nat} {a b c d e f v0 v1 v2 v3 v4 v5 : Value} {t : TypeId} (h : w.heap[q]? = some (.cells #[a, b, c, d, e, f] t (0, 0))) :
    ((((((w.setCell ⟨q, 0, none⟩ v0).setCell ⟨q, 1, none⟩ v1).setCell ⟨q, 2, none⟩ v2).setCell ⟨q, 3, none⟩ v3).setCell ⟨q, 4, none⟩ v4).setCell ⟨q, 5, none⟩ v5).heap[q]? = some (.cells #[v0, v1, v2, v3, v4, v5] t (0, 0)) :=
  box_set (box_set (box_set (box_set (box_set (box_set h)))))
theorem kept6 (w : World) {q : Nat} {S : Nat → Prop} (hq : ¬ S q) (v0 v1 v2 v3 v4 v5 : Value) :
    Kept S w ((((((w.setCell ⟨q, 0, none⟩ v0).setCell ⟨q, 1, none⟩ v1).setCell ⟨q, 2, none⟩ v2).setCell ⟨q, 3, none⟩ v3).setCell ⟨q, 4, none⟩ v4).setCell ⟨q, 5, none⟩ v5) :=
  ((((((Kept.refl _ _).setCell (fun _ => hq) _).setCell (fun _ => hq) _).setCell (fun _ => hq) _).setCell (fun _ => hq) _).setCell (fun _ => hq) _).setCell (fun _ => hq) _
theorem put51 {w : World} {q : Nat} {a b c d e f v1 v2 v3 v4 v5 : Value} {t : TypeId} (h : w.heap[q]? = some (.cells #[a, b, c, d, e, f] t (0, 0))) :
    (((((w.setCell ⟨q, 1, none⟩ v1).setCell ⟨q, 2, none⟩ v2).setCell ⟨q, 3, none⟩ v3).setCell ⟨q, 4, none⟩ v4).setCell ⟨q, 5, none⟩ v5).heap[q]? = some (.cells #[a, v1, v2, v3, v4, v5] t (0, 0)) :=
  box_set (box_set (box_set (box_set (box_set h))))
theorem kept51 (w : World) {q : Nat} {S : Nat → Prop} (hq : ¬ S q) (v1 v2 v3 v4 v5 : Value) :
    Kept S w (((((w.setCell ⟨q, 1, none⟩ v1).setCell ⟨q, 2, none⟩ v2).setCell ⟨q, 3, none⟩ v3).setCell ⟨q, 4, none⟩ v4).setCell ⟨q, 5, none⟩ v5) :=
  (((((Kept.refl _ _).setCell (fun _ => hq) _).setCell (fun _ => hq) _).setCell (fun _ => hq) _).setCell (fun _ => hq) _).setCell (fun _ => hq) _
/-- Nothing that was in w1 has changed; the box at b is there. -/
abbrev LiK (I : Array Value) (b : Nat) (w1 w' : World) : Prop := Below w1.heap.size w1 w' ∧ (∀ o, w'.cell? ⟨b, o, none⟩ = I[o]?)
theorem LiK.of {I : Array Value} {b : Nat} {ty : TypeId} {w1 w' : World} (h : w1.heap[b]? = some (.cells I ty (0, 0))) (hb : Below w1.heap.size w1 w') : LiK I b w1 w' := ⟨hb, (box_cells (box_after hb h)).1⟩
theorem LiK.drew {I : Array Value} {b : Nat} {w1 w' : World} (h : LiK I b w1 w') : LiK I b w1 w'.drew := ⟨h.1.drew, h.2⟩
/-- The same of two boxes, and of three. -/
abbrev PaK (P X : Array Value) (q r : Nat) (w1 w' : World) : Prop := Below w1.heap.size w1 w' ∧ (∀ o, w'.cell? ⟨q, o, none⟩ = P[o]?) ∧ (∀ o, w'.cell? ⟨r, o, none⟩ = X[o]?)
theorem PaK.of {P X : Array Value} {q r : Nat} {ty ty2 : TypeId} {w1 w' : World} (h : w1.heap[q]? = some (.cells P ty (0, 0))) (h2 : w1.heap[r]? = some (.cells X ty2 (0, 0))) (hb : Below w1.heap.size w1 w') : PaK P X q r w1 w' := ⟨hb, (box_cells (box_after hb h)).1, (box_cells (box_after hb h2)).1⟩
theorem PaK.drew {P X : Array Value} {q r : Nat} {w1 w' : World} (h : PaK P X q r w1 w') : PaK P X q r w1 w'.drew := ⟨h.1.drew, h.2.1, h.2.2⟩
abbrev TrK (A X P : Array Value) (a b q : Nat) (w1 w' : World) : Prop := Below w1.heap.size w1 w' ∧ (∀ o, w'.cell? ⟨a, o, none⟩ = A[o]?) ∧ (∀ o, w'.cell? ⟨b, o, none⟩ = X[o]?) ∧ (∀ o, w'.cell? ⟨q, o, none⟩ = P[o]?)
theorem TrK.of {A X P : Array Value} {a b q : Nat} {t1 t2 t3 : TypeId} {w1 w' : World} (h : w1.heap[a]? = some (.cells A t1 (0, 0))) (h2 : w1.heap[b]? = some (.cells X t2 (0, 0))) (h3 : w1.heap[q]? = some (.cells P t3 (0, 0))) (hb : Below w1.heap.size w1 w') : TrK A X P a b q w1 w' :=
  ⟨hb, (box_cells (box_after hb h)).1, (box_cells (box_after hb h2)).1, (box_cells (box_after hb h3)).1⟩
theorem TrK.drew {A X P : Array Value} {a b q : Nat} {w1 w' : World} (h : TrK A X P a b q w1 w') : TrK A X P a b q w1 w'.drew := ⟨h.1.drew, h.2.1, h.2.2.1, h.2.2.2⟩
/-- The variables of the law. -/
structure LaAt (A X I P : Array Value) (G q : Nat) (w w' : World) : Prop where
  rules : w'.heap[G]? = some (.cells A 26 (0, 0))
  tx : w'.heap[G + 1]? = some (.cells X 31 (0, 0))
  iss : w'.heap[G + 2]? = some (.cells I 34 (0, 0))
  place : w'.heap[q]? = some (.cells P 44 (0, 0))
  below : Below G w w'
theorem LaAt.keepB {A X I P : Array Value} {G q : Nat} {w w1 w2 : World} (h : LaAt A X I P G q w w1) (hb : Below w1.heap.size w1 w2) : LaAt A X I P G q w w2 :=
  ⟨box_after hb h.rules, box_after hb h.tx, box_after hb h.iss, box_after hb h.place, h.below.trans (hb.mono (by have := box_lt h.rules; omega))⟩
theorem LaAt.keep {A X I P : Array Value} {G q : Nat} {w w1 w2 : World} {S : Nat → Prop} (h : LaAt A X I P G q w w1) (hk : Kept S w1 w2) (h0 : ∀ k, k ≤ G + 2 → S k) (hq : S q) : LaAt A X I P G q w w2 :=
  ⟨box_kept hk h.rules (h0 _ (by omega)), box_kept hk h.tx (h0 _ (by omega)), box_kept hk h.iss (h0 _ (by omega)), box_kept hk h.place hq, Kept.behind h.below hk (by have := box_lt h.rules; omega) (fun k hk => h0 k (by omega))⟩
end Go.Proofs.YtgjemeeeignlnaaGreatDoor
