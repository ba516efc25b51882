/- The builder's laws: Build over a frame; the example of the chapter. -/
import Derived.Test.YtdjcdejapkkcmaaGreatDoorLawG
import Derived.Test.YtdjcdejapkkcmaaGreatDoorM21
import Derived.Test.YtdjcdejapkkcmaaGreatDoorBldL
import Derived.Test.YtdjcdejapkkcmaaGreatDoorTxX
namespace Go.Proofs.YtdjcdejapkkcmaaGreatDoor
open Go.ChangeShapes Go.WideShapes Go.ChangeAt Go.RowKit Go.Sort

theorem TxIn.mono {S S' : Nat → Prop} {w : World} {t : TxM} {ma oa pa : Option Addr} {mc oc pc : Nat} (h : TxIn S w t ma oa pa mc oc pc) (hS : ∀ k, k < w.heap.size → S k → S' k) : TxIn S' w t ma oa pa mc oc pc :=
  ⟨h.anchor, h.dep, h.wd, h.fee, h.acc, h.nonce, h.exp, numsR.mono h.marks hS, outsR.mono h.outs hS, bytesR.mono h.proof hS⟩
def reqA (q : ReqM) (ia oa : Option Addr) (ic oc : Nat) : Asn where
  rel F w := ReqAt F w q ia ic oa oc
  keep h hk := ⟨spentsR.keep h.ins hk, paysR.keep h.outs hk⟩
  mono h hF := ⟨spentsR.mono h.ins hF, paysR.mono h.outs hF⟩
structure TwAd where
  ma : Option Addr
  oa : Option Addr
  pa : Option Addr
  ia : Option Addr
  na : Option Addr
  mc : Nat
  oc : Nat
  pc : Nat
  ic : Nat
  nc : Nat
def twA (t : TxM) (x : WitM) (y : TwAd) : Asn where
  rel F w := TxIn F w t y.ma y.oa y.pa y.mc y.oc y.pc ∧ WtIn F w x y.ia y.na y.ic y.nc
  keep h hk := ⟨h.1.keep hk, ⟨spentsR.keep h.2.ins hk, notesR.keep h.2.outs hk, h.2.secret⟩⟩
  mono h hF := ⟨h.1.mono hF, ⟨spentsR.mono h.2.ins hF, notesR.mono h.2.outs hF, h.2.secret⟩⟩
/-- Build, over a frame. -/
theorem build_fr {L E E' : List Asn} {f f' : Asn → List Asn} {F0 : Nat → Prop} {w0 w : World} {p : Nat} {m : OrM} {q : ReqM} {ia oa : Option Addr} {ic oc : Nat} (h : Fr L F0 w0 w) (ixo : In L (orcA p m) f E) (ixr : In E (reqA q ia oa ic oc) f' E') (htab : TabAt w) (r : RuM) (hr : r.mode ≠ 1) (hq : ReqOk q) (hlim : m.n + m.qs.length + 300 ≤ 100000) :
    Calls Tryz.prog 9 #[.pointer (some ⟨p, 0, none⟩), .agg (ruC r), .agg (reqC q ia ic oa oc)] w fun e w' =>
      ∃ (er : Int) (t : TxM) (x : WitM) (m' : OrM) (y : TwAd), e = .returned (.tuple #[.agg (txC t y.ma y.oa y.pa y.mc y.oc y.pc), .agg (witC x y.ia y.ic y.na y.nc), .int .i64 er]) ∧ buildG m r r.depth.toNat q = (er, t, x, m') ∧ Fr (twA t x y :: f (orcA p m')) F0 w0 w' := by
  obtain ⟨G, hG, ho, hrd, hcl⟩ := h.open' ixo
  have hreq : ReqAt (fun k => ¬ G k) w q ia ic oa oc := hrd ixr
  refine (build_gen G _ w htab p m ho (fun k h => (hG k h).2) r hr q hq ia oa ic oc hreq (fun _ h => h) hlim).mono ?_
  rintro e w' ⟨ma, oa2, pa, ia2, na, mc, oc2, pc, ic2, nc, G', rfl, ht, hw, ho', hG', hk⟩
  exact ⟨_, _, _, _, ⟨ma, oa2, pa, ia2, na, mc, oc2, pc, ic2, nc⟩, rfl, rfl, hcl _ (twA _ _ ⟨ma, oa2, pa, ia2, na, mc, oc2, pc, ic2, nc⟩) w' G' ho' (fun k h => (hG' k h).1) ⟨ht, hw⟩ hk⟩
theorem slice_one {α : Type} {r : Rep α} {S : Nat → Prop} {w : World} {b : Nat} {es : List Value} {y : α} (h : r.rel S w es y) (hS : S b) (hb : b < w.heap.size) (hc : CellsAt w b 0 es) : (sliceR r).rel S w [.slice (some ⟨b, 0, none⟩) 1 1] [y] := by
  refine ⟨_, _, _, rfl, rfl, Nat.le_refl _, by unfold maxLen; omega, fun h => by simp at h, fun i z hz => ?_⟩
  match i with
  | 0 => simp at hz; subst hz; exact ⟨b, 0, es, rfl, hS, h, by simpa using hc, hb⟩
  | i + 1 => simp at hz
def caseW : CaseM := ⟨openR 2 2, 0, [], [], [], [⟨1, 0, 5⟩], 7, 0, 2, 3, 0, 9, 4, 0, 0⟩
abbrev xW (b : Nat) : CaAd := ⟨none, 0, none, 0, none, 0, some ⟨b, 0, none⟩, 1⟩
theorem caseW_ok : CaseOk caseW := ⟨okU_of (by show (0 : Int) ≤ 0; omega) (by show (0 : Int) < _; omega), okU_of (by show (0 : Int) ≤ 7; omega) (by show (7 : Int) < _; omega), okU_of (by show (0 : Int) ≤ 0; omega) (by show (0 : Int) < _; omega), okU_of (by show (0 : Int) ≤ 2; omega) (by show (2 : Int) < _; omega), okU_of (by show (0 : Int) ≤ 3; omega) (by show (3 : Int) < _; omega), okU_of (by show (0 : Int) ≤ 0; omega) (by show (0 : Int) < _; omega), okI_of (by show _ ≤ (9 : Int); omega) (by show (9 : Int) < _; omega), okU_of (by show (0 : Int) ≤ 4; omega) (by show (4 : Int) < _; omega)⟩
theorem setQ_gen {c : CaseM} {ls : List Int} {q : ReqM} (h : SetQ c ls q) (hi : q.ins = []) : q = ⟨nodeT ls c.rules.depth.toNat 0, [], c.outs.map payO, c.dep, c.wd, c.fee, accOf c, c.nonce, secOf c, c.exp, c.seed⟩ := by
  obtain ⟨an, ins, outs, dep, wd, fee, acc, nonce, sec, exp, seed⟩ := q
  obtain ⟨-, -, e1, e2, e3, e4, e5, e6, e7, e8, e9, e10⟩ := h
  simp only at hi e1 e2 e3 e4 e5 e6 e7 e8 e9 e10
  rw [hi, e1, e2, e3, e4, e5, e6, e7, e8, e9, e10]
theorem accW : accOf caseW = hashS 7 [hashS 9 [3]] := if_pos (Or.inl (show (0 : Int) < 7 by omega))
theorem secW : secOf caseW = hashS 9 [3] := if_pos (Or.inl (show (0 : Int) < 7 by omega))
theorem setQ_W0 {q : ReqM} (h : SetQ caseW [] q) : q = reqW 2 := by
  rw [setQ_gen h (List.eq_nil_of_length_eq_zero h.ins), accW, secW]
  rfl
theorem setQ_W {ls : List Int} {ns : List NoteM} {m : OrM} {q : ReqM} (h : SetQ caseW ls q) (hc : coinsL (or0 caseW) caseW.coins caseW.coins.length = (ls, ns, m)) : q = reqW 2 ∧ m = ⟨false, 0, 0, []⟩ := by
  have h0 : coinsL (or0 caseW) caseW.coins caseW.coins.length = ([], [], ⟨false, 0, 0, []⟩) := by
    show coinsL (or0 caseW) [] 0 = _
    unfold coinsL or0
    rw [if_neg (by show ¬ (2 : Int) = 3; omega)]
  rw [h0] at hc
  simp only [Prod.mk.injEq] at hc
  obtain ⟨rfl, -, rfl⟩ := hc
  exact ⟨setQ_W0 h, rfl⟩
set_option maxRecDepth 100000 in
theorem awake_fin : (buildG ⟨false, 0, 0, []⟩ (openR 2 2) 2 (reqW 2)).2.2.2.n + (buildG ⟨false, 0, 0, []⟩ (openR 2 2) 2 (reqW 2)).2.2.2.qs.length ≤ 1000 := by decide +kernel
abbrev cwC (b : Nat) : Array Value := #[.int .i64 2, .int .i64 2, .int .i64 0, .int .i64 0, .int .i64 0, .int .u64 0, .int .i64 1, .int .i64 1, .int .u64 1, .int .u64 0, .slice none 0 0, .slice none 0 0, .slice none 0 0, .slice (some ⟨b, 0, none⟩) 1 1, .int .u64 7, .int .u64 0, .int .u64 2, .int .u64 3, .int .u64 0, .int .i64 9, .int .u64 4, .int .u8 0, .int .u64 0]
abbrev z23 : Array Value := #[.int .i64 0, .int .i64 0, .int .i64 0, .int .i64 0, .int .i64 0, .int .u64 0, .int .i64 0, .int .i64 0, .int .u64 0, .int .u64 0, .slice none 0 0, .slice none 0 0, .slice none 0 0, .slice none 0 0, .int .u64 0, .int .u64 0, .int .u64 0, .int .u64 0, .int .u64 0, .int .i64 0, .int .u64 0, .int .u8 0, .int .u64 0]
theorem caW_eq (b : Nat) : caC caseW (xW b) = cwC b := rfl
theorem payW_rel (w : World) : paysSR.rel (fun k => w.heap.size ≤ k) (w.alloc (.cells #[.int .u64 1, .int .i64 0, .int .u64 5] 69)) [.slice (some ⟨w.heap.size, 0, none⟩) 1 1] [⟨1, 0, 5⟩] := by
  have h1 : okU 1 := okU_of (by omega) (by omega)
  have h0 : okI 0 := okI_of (by omega) (by omega)
  have h5 : okU 5 := okU_of (by omega) (by omega)
  exact slice_one (r := paySR) (es := [.int .u64 1, .int .i64 0, .int .u64 5]) (paySR.mk (c := ⟨1, 0, 5⟩) ⟨h1, h0, h5⟩) (Nat.le_refl _) (by rw [World.size_alloc]; omega) (CellsAt.new _ _ _)
theorem open43_lit (w : World) : Calls Tryz.prog 16 #[.int .i64 2] w fun e w' => e = .returned (.agg #[.int .i64 2, .int .i64 2, .int .i64 0, .int .i64 0, .int .i64 0, .int .u64 0, .int .i64 1, .int .i64 1, .int .u64 1]) ∧ Below w.heap.size w w' := open43_any w 2
theorem caseW_small : smallC caseW = true := by decide
theorem setupW_any (w : World) (b : Nat) (S : Nat → Prop) (h : paysSR.rel S w [.slice (some ⟨b, 0, none⟩) 1 1] [⟨1, 0, 5⟩]) : Calls Tryz.prog 7 #[.agg (cwC b)] w fun e w' => Below w.heap.size w w' ∧
    ∃ (p : Nat) (G : Nat → Prop) (ia oa : Option Addr) (ic oc : Nat), e = .returned (.tuple #[.pointer (some ⟨p, 0, none⟩), .agg (reqC (reqW 2) ia ic oa oc), .bool true]) ∧ OrG G p w' ⟨false, 0, 0, []⟩ ∧ (∀ k, G k → w.heap.size ≤ k ∧ k < w'.heap.size) ∧ ReqAt (fun k => w.heap.size ≤ k ∧ ¬ G k) w' (reqW 2) ia ic oa oc := by
  have hs := setup_any S w caseW (xW b) caseW_ok ⟨sliceR.nil, sliceR.nil, sliceR.nil, h⟩ caseW_small rfl
  rw [caW_eq] at hs
  refine hs.mono ?_
  rintro e w1 ⟨hb, ⟨-, -, -, -, -, -, -, -, -, -, -, -, -, -, -, hne, -⟩ | ⟨p, q, m, ls, ns, G, ia, oa, ic, oc, he, hq, hcl, -, ho, hG, hr⟩⟩
  · exact absurd rfl hne
  · obtain ⟨rfl, rfl⟩ := setQ_W hq hcl
    exact ⟨hb, p, G, ia, oa, ic, oc, he, ho, hG, hr⟩
theorem reqOk_mk {an dp wd fe ac no se ex sd : Int} {is : List SpentM} {os : List PayM} (h1 : okU an) (h2 : okU dp) (h3 : okU wd) (h4 : okU fe) (h5 : okU ac) (h6 : okU no) (h7 : okU se) (h8 : okI ex) (h9 : okU sd) : ReqOk ⟨an, is, os, dp, wd, fe, ac, no, se, ex, sd⟩ := ⟨h1, h2, h3, h4, h5, h6, h7, h8, h9⟩
theorem reqW_ok (fee : Int) (h : okU fee) : ReqOk (reqW fee) := by
  unfold reqW
  exact reqOk_mk (nodeT_ok (fun x hx => by cases hx) 2 0) (okU_of (by omega) (by omega)) (okU_of (by omega) (by omega)) h (hashS_ok _ _) (okU_of (by omega) (by omega)) (hashS_ok _ _) (okI_of (by omega) (by omega)) (okU_of (by omega) (by omega))
theorem build_open {L E E' : List Asn} {f f' : Asn → List Asn} {F0 : Nat → Prop} {w0 w : World} {p : Nat} {m : OrM} {q : ReqM} {ia oa : Option Addr} {ic oc : Nat} (h : Fr L F0 w0 w) (ixo : In L (orcA p m) f E) (ixr : In E (reqA q ia oa ic oc) f' E') (htab : TabAt w) (hq : ReqOk q) (hlim : m.n + m.qs.length + 300 ≤ 100000) :
    Calls Tryz.prog 9 #[.pointer (some ⟨p, 0, none⟩), .agg #[.int .i64 2, .int .i64 2, .int .i64 0, .int .i64 0, .int .i64 0, .int .u64 0, .int .i64 1, .int .i64 1, .int .u64 1], .agg (reqC q ia ic oa oc)] w fun e w' =>
      ∃ (er : Int) (t : TxM) (x : WitM) (m' : OrM) (y : TwAd), e = .returned (.tuple #[.agg (txC t y.ma y.oa y.pa y.mc y.oc y.pc), .agg (witC x y.ia y.ic y.na y.nc), .int .i64 er]) ∧ buildG m (openR 2 2) 2 q = (er, t, x, m') ∧ Fr (twA t x y :: f (orcA p m')) F0 w0 w' := build_fr h ixo ixr htab (openR 2 2) (by show ¬ (2 : Int) = 1; omega) hq hlim
/-- What the example's builds give. -/
theorem awakeE {er : Int} {t : TxM} {x : WitM} {m : OrM} (h : buildG ⟨false, 0, 0, []⟩ (openR 2 2) 2 (reqW 2) = (er, t, x, m)) : er = 0 ∧ (t.marks.length = 0 ∧ t.outs.length = 1 ∧ m.n + m.qs.length ≤ 1000) ∧ (∃ n : NoteM, x.outs = [n] ∧ n.value = 5) ∧ ∀ er2 t2 x2 m2, buildG m (openR 2 2) 2 (reqW 1) = (er2, t2, x2, m2) → er2 = 13 ∧ m2.qs.length = m.qs.length := by
  obtain ⟨h1, h2, h3, h4⟩ := awake_build
  have h5 := awake_fin
  have h6 := awake_again
  unfold mW at h6
  rw [h] at h1 h2 h3 h4 h5 h6
  refine ⟨h1, ⟨h2, h3, h5⟩, ?_, fun er2 t2 x2 m2 hb => ?_⟩
  · simp only at h4
    match hx : x.outs, h4 with
    | [n], h4 => exact ⟨n, rfl, by simpa using h4⟩
    | [], h4 => simp at h4
    | a :: b :: c, h4 => simp at h4
  · simp only at h6
    rw [hb] at h6
    exact h6
set_option maxRecDepth 100000 in
set_option maxHeartbeats 8000000 in
theorem awake43_any (w : World) (htab : TabAt w) : Calls Tryz.prog 5 #[] w fun e w' => e = .returned (.bool true) ∧ Below w.heap.size w w' := by
  have HT := Lib.hid htab
  clear htab
  go_enter Tryz.func5, Tryz.ntmps5
  go_wp2_with fail
  refine (open43_lit w).mono ?_
  rintro e w1 ⟨rfl, hb1⟩
  have hf := (((Fr.nil (fun _ => False) w).keepB hb1).new (A := repA paysSR [.slice (some ⟨w1.heap.size, 0, none⟩) 1 1] [⟨1, 0, 5⟩]) (bnew (Below.refl w1.heap.size w1) (.cells #[.int .u64 1, .int .i64 0, .int .u64 5] 69)) (payW_rel w1)).alloc z23 32
  rw [World.size_alloc] at hf
  have HF := Lib.hid hf
  have HBX := Lib.hid (hf.box i0)
  clear hf hb1
  go_upto_region 2 with (refine wpList_store_row rfl _ _ _ rfl (w1.heap.size + 1) _ rfl rfl _ _ HBX.out (by kernel_rfl) rfl (by kernel_rfl) ?_)
  have hf := HF.out.setRow i0 (cwC w1.heap.size)
  obtain ⟨bp, hbp⟩ : ∃ x, w1.heap.size = x := ⟨_, rfl⟩
  obtain ⟨wq, hwq⟩ : ∃ x, ((w1.alloc (.cells #[.int .u64 1, .int .i64 0, .int .u64 5] 69)).alloc (.cells z23 32)).setRow (w1.heap.size + 1) (cwC w1.heap.size) = x := ⟨_, rfl⟩
  rw [hwq] at hf ⊢
  rw [hbp] at hf ⊢
  have HFq := Lib.hid hf
  clear hf hwq HBX HF hbp
  go_wp2_with (refine wpList_load_row rfl _ _ rfl (bp + 1) rfl _ _ _ _ (HFq.out.box i0) Tryz.underlying32 rfl (by kernel_rfl) ?_)
  refine (setupW_any wq bp _ (HFq.out.get i1)).mono ?_
  rintro e w2 ⟨hb2, p, G, ia, oa, ic, oc, rfl, ho, hG, hr⟩
  have hf := (HFq.out.new2 (A := orcA p ⟨false, 0, 0, []⟩) (B := reqA (reqW 2) ia oa ic oc) hb2 ho (fun k h => (hG k h).1) hr).alloc (reqC (reqW 2) ia ic oa oc) 39
  have HF2 := Lib.hid hf
  clear hf hb2 ho hG hr HFq
  go_upto_region 5 with (fail)
  obtain ⟨bq, hbq⟩ : ∃ x, w2.heap.size = x := ⟨_, rfl⟩
  rw [hbq] at HF2 ⊢
  obtain ⟨w3, hw3⟩ : ∃ x, w2.alloc (.cells (reqC (reqW 2) ia ic oa oc) 39) = x := ⟨_, rfl⟩
  rw [hw3] at HF2 ⊢
  have HF3 := HF2
  clear HF2 hbq hw3
  obtain ⟨x0, x1⟩ := box_cells (HF3.out.box i3)
  go_wp2_with (refine wpList_load_row rfl _ _ rfl bq rfl _ _ _ _ (HF3.out.box i0) Tryz.underlying39 rfl (by kernel_rfl) ?_)
  refine (build_open HF3.out i1 i1 (HT.out.keepB HF3.out.below) (reqW_ok 2 (okU_of (by omega) (by omega))) (by show 0 + 0 + 300 ≤ 100000; omega)).mono ?_
  rintro e w4 ⟨er, t, xw, m4, y, rfl, hg, hf4⟩
  have hgw : buildG ⟨false, 0, 0, []⟩ (openR 2 2) 2 (reqW 2) = (er, t, xw, m4) := hg
  obtain ⟨a1, a2, a3, a4⟩ := awakeE hgw
  rw [a1]
  have HM := Lib.hid a2
  have HXO := Lib.hid a3
  have HAG := Lib.hid a4
  have hfa := (hf4.alloc (txC t y.ma y.oa y.pa y.mc y.oc y.pc) 45).alloc (witC xw y.ia y.ic y.na y.nc) 48
  rw [World.size_alloc] at hfa
  have HF4 := Lib.hid hfa
  clear x0 x1 hf4 hg hgw a1 a2 a3 a4 hfa HF3
  go_upto_region 6 with (fail)
  obtain ⟨b4, hb4⟩ : ∃ x, w4.heap.size = x := ⟨_, rfl⟩
  rw [hb4] at HF4 ⊢
  obtain ⟨w5, hw5⟩ : ∃ x, (w4.alloc (.cells (txC t y.ma y.oa y.pa y.mc y.oc y.pc) 45)).alloc (.cells (witC xw y.ia y.ic y.na y.nc) 48) = x := ⟨_, rfl⟩
  rw [hw5] at HF4 ⊢
  have HF5 := HF4
  clear HF4 hb4 hw5
  obtain ⟨x0, x1⟩ := box_cells (HF5.out.box i3)
  have HF6 := Lib.hid (((HF5.out.set i3 5 (.int .u64 1)).map i3 (A' := boxA bq (reqC (reqW 1) ia ic oa oc) 39) (fun _ h => h)).map i5 (A' := reqA (reqW 1) ia oa ic oc) (fun _ h => ⟨h.ins, h.outs⟩))
  go_upto_region 7 with (fail)
  obtain ⟨w6, hw6⟩ : ∃ x, w5.setCell ⟨bq, 5, none⟩ (.int .u64 1) = x := ⟨_, rfl⟩
  rw [hw6] at HF6 ⊢
  clear hw6 HF5 x0 x1
  obtain ⟨G2, -, ho2, -⟩ := HF6.out.open i4
  have HO2 := Lib.hid ho2
  clear ho2
  go_wp2_with fail
  refine (questions_len G2 w6 p m4 HO2.out).mono ?_
  rintro e w7 ⟨⟨qa, qc, rfl⟩, hb7⟩
  obtain ⟨n, hn⟩ : ∃ x, m4.qs.length = x := ⟨_, rfl⟩
  rw [hn]
  have HN := Lib.hid hn
  have HF7 := Lib.hid (HF6.out.keepB hb7)
  clear hn hb7 HF6 HO2
  obtain ⟨x0, x1⟩ := box_cells (HF7.out.box i6)
  go_wp2_with (refine wpList_load_row rfl _ _ rfl bq rfl _ _ _ _ (HF7.out.box i3) Tryz.underlying39 rfl (by kernel_rfl) ?_)
  refine (build_open HF7.out i4 i4 (HT.out.keepB HF7.out.below) (reqW_ok 1 (okU_of (by omega) (by omega))) (by have := HM.out.2.2; omega)).mono ?_
  rintro e w8 ⟨er2, t2, xw2, m5, y2, rfl, hg2, hf8⟩
  obtain ⟨b1, b2⟩ := HAG.out _ _ _ _ hg2
  rw [b1]
  have HQ5 := Lib.hid (b2.trans HN.out)
  have hfa := (hf8.alloc (txC t2 y2.ma y2.oa y2.pa y2.mc y2.oc y2.pc) 45).alloc (witC xw2 y2.ia y2.ic y2.na y2.nc) 48
  rw [World.size_alloc] at hfa
  have HF8 := Lib.hid hfa
  clear x0 x1 hf8 hg2 b1 b2 hfa HF7
  go_upto_region 9 with (fail)
  obtain ⟨b8, hb8⟩ : ∃ x, w8.heap.size = x := ⟨_, rfl⟩
  rw [hb8] at HF8 ⊢
  obtain ⟨w9, hw9⟩ : ∃ x, (w8.alloc (.cells (txC t2 y2.ma y2.oa y2.pa y2.mc y2.oc y2.pc) 45)).alloc (.cells (witC xw2 y2.ia y2.ic y2.na y2.nc) 48) = x := ⟨_, rfl⟩
  rw [hw9] at HF8 ⊢
  have HF9 := HF8
  clear HF8 hb8 hw9
  obtain ⟨x0, x1⟩ := box_cells (HF9.out.box i4)
  obtain ⟨y0, y1⟩ := box_cells (HF9.out.box i3)
  obtain ⟨nn, hxo, hnv⟩ := HXO.out
  have hno := (HF9.out.get i5).2.outs
  rw [hxo] at hno
  obtain ⟨bb, off, hna, -, -, c0, -⟩ := notes_at hno 0 (by simp)
  have hc0 : w9.cell? ⟨bb, off, none⟩ = some (.int .u64 5) := by
    have h : w9.cell? ⟨bb, off + 0 * 4, none⟩ = some (.int .u64 nn.value) := c0
    rw [hnv] at h
    simpa using h
  obtain ⟨hm1, hm2, -⟩ := HM.out
  have hm3 : xw.outs.length = 1 := by rw [hxo]; rfl
  obtain ⟨G3, -, ho3, -⟩ := HF9.out.open i7
  have HO3 := Lib.hid ho3
  unfold txC at x0
  unfold witC at y0
  rw [hm1, hm2] at x0
  rw [hm3, hna] at y0
  clear HXO HAG hno hxo hnv c0 hm1 hm2 hm3 ho3
  go_wp2_with fail
  refine (questions_len G3 w9 p m5 HO3.out).mono ?_
  rintro e w10 ⟨⟨qa2, qc2, rfl⟩, hb10⟩
  rw [HQ5.out]
  have HBF := Lib.hid (bnext HF9.out.below hb10)
  go_wp2_with fail
  go_ret
  exact ⟨rfl, HBF.out⟩
end Go.Proofs.YtdjcdejapkkcmaaGreatDoor
/- The program's encoding of a transaction, exact. -/
namespace Go.Proofs.YtdjcdejapkkcmaaGreatDoor
open Go.ChangeShapes Go.WideShapes Go.ChangeAt Go.RowKit Go.Sort

def encT (t : TxM) : List Int := if validE t = 0 then encS t t.proof else []
def EncOut (t : TxM) (w : World) (e : Ending) (w' : World) : Prop := ∃ (ys : List Int) (a : Option Addr) (cap : Nat), Hid (ys = encT t) ∧ ys.length ≤ 1100000 ∧ e = .returned (.tuple #[.slice a ys.length cap, .int .i64 (validE t)]) ∧ bytesR.rel (fun _ => True) w' [.slice a ys.length cap] ys ∧ Below w.heap.size w w'
set_option maxRecDepth 100000 in
set_option maxHeartbeats 1000000 in
theorem txEncode_any (S : Nat → Prop) (w : World) (t : TxM) (ma oa pa : Option Addr) (mc oc pc : Nat) (h : TxIn S w t ma oa pa mc oc pc) :
    Calls Tryz.prog 10 #[.agg #[.int .u64 t.anchor, .slice ma t.marks.length mc, .slice oa t.outs.length oc, .int .u64 t.dep, .int .u64 t.wd, .int .u64 t.fee, .int .u64 t.acc, .int .u64 t.nonce, .int .i64 t.exp, .slice pa t.proof.length pc]] w (EncOut t w) := by
  have hbA := bnew (Below.refl w.heap.size w) (.cells #[.int .u64 t.anchor, .slice ma t.marks.length mc, .slice oa t.outs.length oc, .int .u64 t.dep, .int .u64 t.wd, .int .u64 t.fee, .int .u64 t.acc, .int .u64 t.nonce, .int .i64 t.exp, .slice pa t.proof.length pc] 45)
  have HX := Lib.hid (box_new w (.cells #[.int .u64 t.anchor, .slice ma t.marks.length mc, .slice oa t.outs.length oc, .int .u64 t.dep, .int .u64 t.wd, .int .u64 t.fee, .int .u64 t.acc, .int .u64 t.nonce, .int .i64 t.exp, .slice pa t.proof.length pc] 45))
  have H := Lib.hid (h.keepB hbA)
  have HB := Lib.hid hbA
  clear hbA h
  go_enter Tryz.func10, Tryz.ntmps10
  go_upto_region 1 with (fail)
  generalize w.alloc (.cells #[.int .u64 t.anchor, .slice ma t.marks.length mc, .slice oa t.outs.length oc, .int .u64 t.dep, .int .u64 t.wd, .int .u64 t.fee, .int .u64 t.acc, .int .u64 t.nonce, .int .i64 t.exp, .slice pa t.proof.length pc] 45) = W at *
  obtain ⟨x0, x1⟩ := box_cells HX.out
  go_wp2_with fail
  refine (txValid_any S W t ma oa pa mc oc pc H.out).mono ?_
  rintro e w1 ⟨rfl, hb1⟩
  clear x0 x1
  by_cases hv : validE t = 0
  · have HV := Lib.hid hv
    have HU : Hid (encT t = encS t t.proof) := by show _ = _; unfold encT; rw [if_pos hv]
    have hpl : t.proof.length ≤ 1048576 := (validE_facts hv).2.2.2.2.2
    rw [hv]
    clear hv
    obtain ⟨x0, x1⟩ := box_cells (box_after hb1 HX.out)
    go_wp2_with fail
    refine (encodeX_any S w1 t ma oa pa mc oc pc (H.out.keepB hb1) HV.out pa pc t.proof S (H.out.keepB hb1).proof hpl).mono ?_
    rintro e w2 ⟨ys, a, cap, HY, hyl, rfl, hr, hb2⟩
    have HR := Lib.hid hr
    clear hr x0 x1
    go_wp2_with fail
    go_ret2
    exact ⟨ys, a, cap, by show _ = _; rw [HY.out, HU.out], by omega, by rw [HV.out]; rfl, HR.out, bnext HB.out (bnext hb1 hb2)⟩
  · have HU : Hid (encT t = []) := by show _ = _; unfold encT; rw [if_neg hv]
    have z1 : (validE t == 0) = false := by rw [beq_eq_false_iff_ne]; exact hv
    have z2 : (validE t != 0) = true := by rw [bne_iff_ne]; exact hv
    obtain ⟨r, hr⟩ : ∃ r, validE t = r := ⟨_, rfl⟩
    have HR := Lib.hid hr
    rw [hr] at z1 z2 ⊢
    clear hr hv
    go_wp2_with fail
    go_ret2
    exact ⟨[], none, 0, by show _ = _; rw [HU.out], by simp, by rw [HR.out]; rfl, sliceR.nil, bnext HB.out hb1⟩
end Go.Proofs.YtdjcdejapkkcmaaGreatDoor
/- BuilderHides in plain Lean: what is built is valid; both cases give one transaction. -/
namespace Go.Proofs.YtdjcdejapkkcmaaGreatDoor
open Go.ChangeShapes Go.WideShapes Go.ChangeAt Go.RowKit

theorem validE_proof {t : TxM} {l : List Int} (h : validE { t with proof := [] } = 0) (hl : l.length ≤ 1048576) : validE { t with proof := l } = 0 := by
  have e : validE { t with proof := l } = if (marksB t.marks && (outsB t.outs && (amountsB { t with proof := [] } && restB { t with proof := [] }))) = true then (if l.length ≤ 1048576 then 0 else 3) else 1 := rfl
  rw [e]
  have h2 : (if (marksB t.marks && (outsB t.outs && (amountsB { t with proof := [] } && restB { t with proof := [] }))) = true then (if ([] : List Int).length ≤ 1048576 then (0 : Int) else 3) else 1) = 0 := h
  split at h2
  · rename_i hc
    rw [if_pos hc, if_pos hl]
  · exact absurd h2 (by omega)
theorem wrapM {x : Int} (h0 : 0 ≤ x) (h1 : x ≤ 1000000) : wrap64 x = x := by unfold wrap64; omega
theorem wrapM2 {a b : Nat} (h : a + b ≤ 1000) : wrap64 ((a : Int) + b) = ((a + b : Nat) : Int) := by unfold wrap64; omega
theorem count_fact {a i o : Nat} (ha : a ≤ 8) (hi : i ≤ 10) (ho : o ≤ 5) : wrap64 (wrap64 (wrap64 (wrap64 ((a : Int) + i) + wrap64 (5 * (o : Int))) + 8) + wrap64 (4 * wrap64 ((i : Int) + o))) = ((a + i + 5 * o + 8 + 4 * (i + o) : Nat) : Int) := by
  rw [wrapM (x := (a : Int) + i) (by omega) (by omega), wrapM (x := 5 * (o : Int)) (by omega) (by omega), wrapM (x := (a : Int) + i + 5 * o) (by omega) (by omega), wrapM (x := (a : Int) + i + 5 * o + 8) (by omega) (by omega), wrapM (x := (i : Int) + o) (by omega) (by omega), wrapM (x := 4 * ((i : Int) + o)) (by omega) (by omega), wrapM (x := (a : Int) + i + 5 * o + 8 + 4 * ((i : Int) + o)) (by omega) (by omega)]
  omega
theorem encS_pos (t : TxM) (p : List Int) : 0 < (encS t p).length := by
  unfold encS
  simp only [List.length_append, digs_len]
  omega
/-- What Build makes in the ideal mode is valid. -/
theorem build_valid {m m2 : OrM} {r : RuM} {D : Nat} {q : ReqM} {t : TxM} {x : WitM} (hr : r.mode ≠ 2) (h : buildG m r D q = (0, t, x, m2)) : validE t = 0 := by
  unfold buildG at h
  simp only at h
  generalize markL m q.ins q.ins.length = a at h
  obtain ⟨ms, d, m1⟩ := a
  simp only at h
  generalize outL m1 (originS ms q.acc q.nonce) q.seed q.outs q.outs.length = b at h
  obtain ⟨os, ns, m3⟩ := b
  simp only at h
  split at h
  · split at h
    · split at h
      · rename_i hv0
        split at h
        · rename_i hg
          unfold proveG at h hg
          split at hg
          · split at hg
            · rename_i hv hrel
              rw [if_pos hv, if_pos hrel, if_neg hr] at h
              simp only [Prod.mk.injEq, true_and] at h
              obtain ⟨rfl, -, -⟩ := h
              obtain ⟨l1, l2, -⟩ := validE_facts hv0
              refine validE_proof (t := ⟨q.anchor, ms, os, q.dep, q.wd, q.fee, q.acc, q.nonce, q.exp, []⟩) hv0 ?_
              rw [digsAll_len, drawsL_len]
              unfold proofN stOf
              simp only [List.length_map]
              simp only at l1 l2
              omega
            · exact absurd hg (by simp)
          · exact absurd hg (by simp)
        · rename_i hg
          simp only [Prod.mk.injEq] at h
          exact absurd h.1 hg
      · simp at h
    · simp at h
  · rename_i he
    simp only [Prod.mk.injEq] at h
    exact absurd h.1 he
theorem setP_of {c : CaseM} {ls : List Int} {ns : List NoteM} {q : ReqM} {m : OrM} (hm : c.rules.mode = 3) (hq : SetQ c ls q) (hc : coinsL (or0 c) c.coins c.coins.length = (ls, ns, m)) : SetP c c.rules.depth.toNat q m := by
  have h0 : or0 c = ⟨true, c.orc, 0, []⟩ := by unfold or0; rw [if_pos hm]
  rw [h0] at hc
  obtain ⟨hi, -, hf⟩ := coins_fresh (D := c.rules.depth.toNat) hc
  exact ⟨hq.ok, hq.ins, by rw [hq.outs, List.length_map], hq.dep, hq.wd, hq.fee, hq.acc, hq.nonce, hq.exp, hi, fun hn => ⟨(hf hn).1, by rw [hq.anchor]; exact (hf hn).2⟩⟩
end Go.Proofs.YtdjcdejapkkcmaaGreatDoor
