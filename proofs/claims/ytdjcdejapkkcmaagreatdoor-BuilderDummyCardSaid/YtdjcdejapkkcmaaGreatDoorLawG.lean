/- The builder's laws: setup. -/
import Derived.Test.YtdjcdejapkkcmaaGreatDoorM12
import Derived.Test.YtdjcdejapkkcmaaGreatDoorM13
import Derived.Test.YtdjcdejapkkcmaaGreatDoorM20
import Derived.Test.YtdjcdejapkkcmaaGreatDoorM18
import Derived.Test.YtdjcdejapkkcmaaGreatDoorM15
import Derived.Test.YtdjcdejapkkcmaaGreatDoorM05
namespace Go.Proofs.YtdjcdejapkkcmaaGreatDoor
open Go.ChangeShapes Go.WideShapes Go.ChangeAt Go.RowKit Go.Sort

def orcA (p : Nat) (m : OrM) : Asn where
  rel F w := OrG F p w m
  keep h hk := h.keep hk
  mono h hF := h.mono hF
theorem Fr.al2 (F0 : Nat → Prop) (w : World) (a b : Array Value) (ta tb : TypeId) : Fr [boxA w.heap.size a ta, boxA (w.heap.size + 1) b tb] F0 w ((w.alloc (.cells a ta)).alloc (.cells b tb)) := by
  have h := (((Fr.nil F0 w).alloc a ta).alloc b tb)
  rw [World.size_alloc] at h
  obtain ⟨⟨F, ⟨G, h1, h2, G2, h3, h4, -⟩, h5⟩, h6⟩ := h
  exact ⟨⟨F, ⟨G2, fun k h => (h3 k h).1, h4, G, fun k h => ⟨h1 k h, fun h7 => (h3 k h7).2 h⟩, h2, trivial⟩, h5⟩, h6⟩
theorem Fr.map {L E : List Asn} {A A' : Asn} {f : Asn → List Asn} {F0 : Nat → Prop} {w0 w : World} (h : Fr L F0 w0 w) (ix : In L A f E) (hA : ∀ F, A.rel F w → A'.rel F w) : Fr (f A') F0 w0 w := by
  obtain ⟨G, g1, g2, g3⟩ := h.open ix
  exact g3 _ _ (A'.mono (hA G g2) fun _ _ h => .inl h) (Kept.refl _ _)
theorem Tryz.etyPay : ElemTy Tryz.prog 37 84 5 40 := ElemTy.of Tryz.underlying37 (z := .agg #[.int .i64 0, .int .u64 0, .int .u64 0, .int .u64 0, .int .u64 0]) (by kernel_rfl) rfl (by omega)
theorem ret_tct {P : Program} {fn : Func} {s p u : Tmp} {ty : TypeId} (h : fn.results = #[.tmp s, .cell p ty, .tmp u]) {tmps : Array Value} {w : World} {g : Nat} {t : TypeId} {cs : Array Value} {fr : Nat × Nat} {d : TypeDesc}
    (hp : tmps.getD p undef = .pointer (some ⟨g, 0, none⟩)) (hg : w.heap[g]? = some (.cells cs t fr))
    (hu : P.underlying ty = some d) (hd : (match d with | .struct _ | .array _ _ => true | _ => false) = true) (hi : (P.info? ty).map (·.size) = some cs.size) :
    (results fn tmps).run P w = .ok (.tuple #[tmps.getD s undef, .agg cs, tmps.getD u undef]) w := by
  have hp' : tmps[p]?.getD undef = .pointer (some ⟨g, 0, none⟩) := by simpa using hp
  simp [results, h, hp', asAddr, run_loadVar_row w g t ty cs fr d hg hu hd hi]
theorem root37_len (S : Nat → Prop) (a : Option Addr) (n cap : Nat) (l : List Int) (hn : l.length = n) (hl : n ≤ 64) (dI : Int) (k : Nat) (hd : dI = (k : Int)) (hk : k ≤ 6) (w : World) (h : numsR.rel S w [.slice a n cap] l) :
    Calls Tryz.prog 25 #[.int .i64 dI, .slice a n cap] w fun e w' => e = .returned (.int .u64 (nodeT l k 0)) ∧ Below w.heap.size w w' := by
  subst hn hd
  exact root37_any S a cap l hl k hk w h
theorem path37_len (S : Nat → Prop) (a : Option Addr) (n cap : Nat) (l : List Int) (hn : l.length = n) (hl : n ≤ 64) (dI : Int) (D : Nat) (hd : dI = (D : Int)) (hD : D ≤ 6) (pos : Nat) (hp : pos < 64) (w : World) (h : numsR.rel S w [.slice a n cap] l) :
    Calls Tryz.prog 26 #[.int .i64 dI, .slice a n cap, .int .i64 pos] w fun e w' => (∃ (p : List Int) (a' : Option Addr) (c' : Nat), p.length = D ∧ e = .returned (.slice a' D c') ∧ numsR.rel (fun k => w.heap.size ≤ k) w' [.slice a' D c'] p) ∧ Below w.heap.size w w' := by
  subst hn hd
  exact path37_any S a cap l hl D hD pos hp w h
theorem own_nums {F : Nat → Prop} {w : World} {v : Value} {l : List Int} (h : Own u64R 0 24 F w v l) : numsR.rel F w [v] l := h.slice
/-- One note of a row. -/
theorem note_range {F : Nat → Prop} {w : World} {b off n c : Nat} {l : List NoteM} {y : NoteM} {e : TypeId} (h : Own noteR 0 e F w (.slice (some ⟨b, off, none⟩) n c) l) (j : Nat) (hj : l[j]? = some y) : w.rangeAt b (off + j * 4) [.int .u64 y.value, .int .u64 y.owner, .int .u64 y.rho, .int .u64 y.blind] ∧ NoteOk y := by
  obtain ⟨hl, rfl⟩ := List.getElem?_eq_some_iff.1 hj
  obtain ⟨b', off', es, he, -, -, hr, hc⟩ := sliceR.at h.slice j hl
  obtain ⟨rfl, hn⟩ := noteR.inv hr
  simp only [Option.some.injEq, Addr.mk.injEq, and_true] at he
  obtain ⟨rfl, rfl⟩ := he
  exact ⟨fun i v hv => hc i v hv, hn⟩
theorem spentR_mk' {S : Nat → Prop} {w : World} {s : SpentM} {a : Option Addr} {n cap : Nat} (h : SpentOk s) (hn : s.path.length = n) (hp : numsR.rel S w [.slice a n cap] s.path) : spentR.rel S w [.int .u64 s.note.value, .int .u64 s.note.owner, .int .u64 s.note.rho, .int .u64 s.note.blind, .int .u64 s.key, .int .i64 s.number, .int .i64 s.position, .slice a n cap, .bool s.dummy] s := by
  subst hn
  exact spentR.mk h hp
theorem Fr.below {L : List Asn} {w0 w : World} (h : Fr L (fun _ => False) w0 w) : Below w0.heap.size w0 w := Kept.below (h.kept.mono fun _ _ _ h => h) (Nat.le_refl _)
theorem dummy_lit (w : World) (seed : Int) (hs : okU seed) (dI : Int) (D : Nat) (hd : dI = (D : Int)) (h1 : 1 ≤ D) (h2 : D ≤ 12) :
    Calls Tryz.prog 11 #[.int .u64 seed, .int .i64 dI] w fun e w' => (∃ a c, e = .returned (.agg #[.int .u64 0, .int .u64 (ownerS (hashS 22 [seed, 0]) 0), .int .u64 (hashS 22 [seed, 1]), .int .u64 (hashS 22 [seed, 2]), .int .u64 (hashS 22 [seed, 0]), .int .i64 0, .int .i64 0, .slice a D c, .bool true]) ∧ numsR.rel (fun k => w.heap.size ≤ k) w' [.slice a D c] (List.replicate D 0)) ∧ Below w.heap.size w w' := by
  subst hd
  refine (dummy_any w seed hs D h1 h2).mono ?_
  rintro e w1 ⟨⟨a, c, rfl, h⟩, hb⟩
  refine ⟨⟨a, c, ?_, h⟩, hb⟩
  unfold spentCells dumS
  simp only [List.length_replicate]
theorem spentOk_mk {v o r b k n p : Int} {path : List Int} {d : Bool} (h1 : okU v) (h2 : okU o) (h3 : okU r) (h4 : okU b) (h5 : okU k) (h6 : okI n) (h7 : okI p) : SpentOk ⟨⟨v, o, r, b⟩, k, n, p, path, d⟩ := ⟨⟨h1, h2, h3, h4⟩, h5, h6, h7⟩
theorem dumS_ok (seed : Int) (D : Nat) : SpentOk (dumS seed D) := by
  unfold dumS
  exact spentOk_mk (okU_of (by omega) (by omega)) (ownerS_ok' _ _) (hashS_ok _ _) (hashS_ok _ _) (hashS_ok _ _) (okI_of (by omega) (by omega)) (okI_of (by omega) (by omega))
def payO (p : PaySM) : PayM := ⟨addrS p.seed p.number, p.value⟩
theorem payO_ok {y : PaySM} (h : PaySOk y) : PayOk (payO y) := by
  have z : okU 0 := okU_of (by decide) (by decide)
  have zi : okI 0 := okI_of (by omega) (by omega)
  unfold payO addrS
  split
  · rename_i hn
    have hp := pubP_in (viewS y.seed y.number)
    exact ⟨okI_of (by have := hn.1; show _ ≤ y.number; omega) (by have := hn.2; show y.number < _; omega), ownerS_ok' _ _, hp.1, hp.2, h.value⟩
  · exact ⟨zi, z, z, z, h.value⟩
theorem address_payO (w : World) (y : PaySM) (h : PaySOk y) : Calls Tryz.prog 27 #[.int .u64 y.seed, .int .i64 y.number] w fun e w' => (∃ er : Int, e = .returned (.tuple #[.agg (adC (payO y).adr), .int .i64 er])) ∧ Below w.heap.size w w' := address_any w y.seed y.number h.seed
theorem spoil_none (w : World) (g : Nat) (an dp wd fe ac no se sd ex by_ sp : Int) (hsp : sp = 0) (ib oa : Option Addr) (il ic ol oc : Nat) (hi : 0 < il → ∃ b off, ib = some ⟨b, off, none⟩) (hl : il ≤ 1000) (ho : 0 < ol → ∃ b off, oa = some ⟨b, off, none⟩) (hl2 : ol ≤ 1000) (hg : w.heap[g]? = some (.cells (rqC an dp wd fe ac no se sd ex ib oa il ic ol oc) 39 (0, 0))) :
    Calls Tryz.prog 28 #[.pointer (some ⟨g, 0, none⟩), .int .u8 sp, .int .u64 by_] w fun e w' => e = .returned (.tuple #[]) ∧ Below w.heap.size w w' := by
  subst hsp
  exact spoil0_any w g an dp wd fe ac no se sd ex by_ ib oa il ic ol oc hi hl ho hl2 hg
theorem own_at {α : Type} {r : Rep α} {base : Nat} {e : TypeId} {F : Nat → Prop} {w : World} {a : Option Addr} {n c : Nat} {xs : List α} (h : Own r base e F w (.slice a n c) xs) (hn : xs.length = n) : 0 < n → ∃ b off, a = some ⟨b, off, none⟩ := fun h0 => by
  obtain ⟨b, off, -, he, -⟩ := sliceR.at h.slice 0 (by omega)
  exact ⟨b, off, he⟩
def or0 (c : CaseM) : OrM := if c.rules.mode = 3 then ⟨true, c.orc, 0, []⟩ else ⟨false, 0, 0, []⟩
def secOf (c : CaseM) : Int := if 0 < c.dep ∨ 0 < c.wd then hashS 9 [c.owner] else 0
/-- What setup gives, as a request; ls are the leaves. -/
structure SetQ (c : CaseM) (ls : List Int) (q : ReqM) : Prop where
  ok : ReqOk q
  ins : q.ins.length = c.spend.length + c.dums.length
  outs : q.outs = c.outs.map payO
  dep : q.dep = c.dep
  wd : q.wd = c.wd
  fee : q.fee = c.fee
  acc : q.acc = accOf c
  secret : q.secret = secOf c
  nonce : q.nonce = c.nonce
  exp : q.exp = c.exp
  seed : q.seed = c.seed
  anchor : q.anchor = nodeT ls c.rules.depth.toNat 0
def SetTo (c : CaseM) (w : World) (e : Ending) (w' : World) : Prop :=
  Below w.heap.size w w' ∧ ((∃ (an dp wd fe ac no se sd ex : Int) (ia oa : Option Addr) (il ic ol oc : Nat), c.spend ≠ [] ∧ e = .returned (.tuple #[.pointer none, .agg (rqC an dp wd fe ac no se sd ex ia oa il ic ol oc), .bool false])) ∨
  ∃ (p : Nat) (q : ReqM) (m : OrM) (ls : List Int) (ns : List NoteM) (G : Nat → Prop) (ia oa : Option Addr) (ic oc : Nat), e = .returned (.tuple #[.pointer (some ⟨p, 0, none⟩), .agg (reqC q ia ic oa oc), .bool true]) ∧ SetQ c ls q ∧
    coinsL (or0 c) c.coins c.coins.length = (ls, ns, m) ∧ m.n + m.qs.length ≤ 2 * c.coins.length ∧ OrG G p w' m ∧ (∀ k, G k → w.heap.size ≤ k ∧ k < w'.heap.size) ∧ ReqAt (fun k => w.heap.size ≤ k ∧ ¬ G k) w' q ia ic oa oc)
/-- The frame: the request Q, the oracle p, the rows. -/
abbrev SuL (w : World) (c : CaseM) (x : CaAd) (Q p : Nat) (m : OrM) (ls : List Int) (ns : List NoteM) (is : List SpentM) (os : List PayM) (an : Int) (nl ni no : Nat) (al aN ai ao : Option Addr) (cl cN ci co : Nat) : List Asn :=
  [ownA u64R 0 24 (.slice al nl cl) ls, ownA noteR 0 56 (.slice aN nl cN) ns, ownA spentR 0 58 (.slice ai ni ci) is, ownA payR 0 84 (.slice ao no co) os, boxA Q (rqC an c.dep c.wd c.fee (accOf c) c.nonce (secOf c) c.seed c.exp ai ao ni ci no co) 39, orcA p m, boxA w.heap.size (caC c x) 32, boxA (w.heap.size + 1) (rqC 0 0 0 0 0 0 0 0 0 none none 0 0 0 0) 39]
theorem nodeT_okA {l : List Int} (h : ∀ x ∈ l, okU x) (D : Nat) : okU (nodeT l D 0) := nodeT_ok h D 0
theorem setup_end {w w' : World} {c : CaseM} {Q p : Nat} {m : OrM} {ls : List Int} {ns : List NoteM} {is : List SpentM} {os : List PayM} {an : Int} {nl : Nat} {al aN ai ao : Option Addr} {cl cN ci co D : Nat} {X : List Asn}
    (hc : CaseOk c) (h : Fr (ownA u64R 0 24 (.slice al nl cl) ls :: ownA noteR 0 56 (.slice aN nl cN) ns :: ownA spentR 0 58 (.slice ai is.length ci) is :: ownA payR 0 84 (.slice ao os.length co) os :: boxA Q (rqC an c.dep c.wd c.fee (accOf c) c.nonce (secOf c) c.seed c.exp ai ao is.length ci os.length co) 39 :: orcA p m :: X) (fun _ => False) w w')
    (han : nodeT ls D 0 = an) (hi : is.length = c.spend.length + c.dums.length) (ho : os = c.outs.map payO) (hcl : coinsL (or0 c) c.coins c.coins.length = (ls, ns, m)) (hm : m.n + m.qs.length ≤ 2 * c.coins.length) (hD : c.rules.depth = (D : Int)) :
    ∃ (p' : Nat) (q : ReqM) (m : OrM) (ls : List Int) (ns : List NoteM) (G : Nat → Prop) (ia oa : Option Addr) (ic oc : Nat), Ending.returned (.tuple #[.pointer (some ⟨p, 0, none⟩), .agg (rqC an c.dep c.wd c.fee (accOf c) c.nonce (secOf c) c.seed c.exp ai ao is.length ci os.length co), .bool true]) = .returned (.tuple #[.pointer (some ⟨p', 0, none⟩), .agg (reqC q ia ic oa oc), .bool true]) ∧ SetQ c ls q ∧
    coinsL (or0 c) c.coins c.coins.length = (ls, ns, m) ∧ m.n + m.qs.length ≤ 2 * c.coins.length ∧ OrG G p' w' m ∧ (∀ k, G k → w.heap.size ≤ k ∧ k < w'.heap.size) ∧ ReqAt (fun k => w.heap.size ≤ k ∧ ¬ G k) w' q ia ic oa oc := by
  have hls : ∀ x ∈ ls, okU x := fun x hx => by
    have h1 : numsR.rel _ w' [.slice al nl cl] ls := Own.slice (h.get i0)
    have := nums_in h1 x hx
    exact okU_of this.1 this.2
  obtain ⟨⟨F, h1, h2⟩, hk⟩ := h
  obtain ⟨G, g1, g2, g3, -⟩ := h1.take i5
  have hA : okU (accOf c) := by
    unfold accOf
    split
    · exact hashS_ok _ _
    · exact okU_of (by omega) (by omega)
  have hS : okU (secOf c) := by
    unfold secOf
    split
    · exact hashS_ok _ _
    · exact okU_of (by omega) (by omega)
  have hm2 : ∀ k, F k → w.heap.size ≤ k ∧ k < w'.heap.size := fun k hf => ⟨(h2 k hf).1.elim (fun h => h.elim) id, (h2 k hf).2⟩
  have e1 : Own spentR 0 _ _ w' (.slice ai is.length ci) is := g3.get i2
  have e2 : Own payR 0 _ _ w' (.slice ao os.length co) os := g3.get i3
  refine ⟨p, ⟨an, is, os, c.dep, c.wd, c.fee, accOf c, c.nonce, secOf c, c.exp, c.seed⟩, m, ls, ns, G, ai, ao, ci, co, rfl, ⟨⟨?_, hc.dep, hc.wd, hc.fee, hA, hc.nonce, hS, hc.exp, hc.seed⟩, hi, ho, rfl, rfl, rfl, rfl, rfl, rfl, rfl, rfl, ?_⟩, hcl, hm, g2, fun k hg => hm2 k (g1 k hg),
    ⟨spentsR.mono e1.slice fun k _ h => ⟨(hm2 k h.1).1, h.2⟩, paysR.mono e2.slice fun k _ h => ⟨(hm2 k h.1).1, h.2⟩⟩⟩
  · show okU an
    rw [← han]; exact nodeT_okA hls D
  · show an = _
    rw [← han, hD]; rfl
set_option maxRecDepth 100000 in
set_option maxHeartbeats 8000000 in
theorem setup_any (S : Nat → Prop) (w : World) (c : CaseM) (x : CaAd) (hc : CaseOk c) (h : CaseAt S w c x) (hsm : smallC c = true) (hsp : c.spoil = 0) :
    Calls Tryz.prog 7 #[.agg (caC c x)] w (SetTo c w) := by
  have hf := Fr.al2 (fun _ => False) w (caC c x) (rqC 0 0 0 0 0 0 0 0 0 none none 0 0 0 0) 32 39
  have HW := Lib.hid hf
  have HC := Lib.hid hc
  have HA := Lib.hid h
  have HSP := Lib.hid hsp
  have HSM : Hid (c.coins.length ≤ 8 ∧ c.spend.length ≤ 5 ∧ c.dums.length ≤ 5 ∧ c.outs.length ≤ 5 ∧ 1 ≤ c.rules.depth ∧ c.rules.depth ≤ 6) := by
    have h := of_decide_eq_true hsm
    exact ⟨h.1, h.2.1, h.2.2.1, h.2.2.2.1, h.2.2.2.2.1, h.2.2.2.2.2.1⟩
  clear hf hc h hsm hsp
  go_enter Tryz.func7, Tryz.ntmps7
  go_upto_region 1 with (fail)
  generalize (w.alloc (.cells (caC c x) 32)).alloc (.cells (rqC 0 0 0 0 0 0 0 0 0 none none 0 0 0 0) 39) = W at *
  have HFW := HW
  clear HW
  obtain ⟨x0, x1⟩ := box_cells (HFW.out.box i0)
  go_wp2_with fail
  refine (real_any W).mono ?_
  rintro e w1 ⟨p0, rfl, -, ho, hb1⟩
  have HF1 := Lib.hid (HFW.out.new (A := orcA p0 ⟨false, 0, 0, []⟩) hb1 ho)
  clear x0 x1 hb1 ho
  obtain ⟨x0, x1⟩ := box_cells (HF1.out.box i1)
  go_upto_if 25 with (fail)
  go_cut [5] from 21 (fun v5 wc => ∃ p : Nat, v5 = .pointer (some ⟨p, 0, none⟩) ∧ Hid (Fr [orcA p (or0 c), boxA w.heap.size (caC c x) 32, boxA (w.heap.size + 1) (rqC 0 0 0 0 0 0 0 0 0 none none 0 0 0 0) 39] (fun _ => False) w wc))
  case first =>
    by_cases hm : c.rules.mode = 3
    · have em : (c.rules.mode == 3) = true := by rw [beq_iff_eq]; exact hm
      have HO0 : Hid (or0 c = ⟨true, c.orc, 0, []⟩) := by show _ = _; unfold or0; rw [if_pos hm]
      clear hm
      go_wp2_with fail
      refine (ideal_any w1 c.orc HC.out.orc).mono ?_
      rintro e w2 ⟨p, rfl, -, ho, hb2⟩
      have HF2 := Lib.hid ((HF1.out.drop i0).new (A := orcA p ⟨true, c.orc, 0, []⟩) hb2 ho)
      clear x0 x1 hb2 ho
      rw [← HO0.out] at HF2
      go_wp2_with fail
      go_meet
      case rel => exact ⟨p, rfl, HF2⟩
    · have em : (c.rules.mode == 3) = false := by rw [beq_eq_false_iff_ne]; exact hm
      have HO0 : Hid (or0 c = ⟨false, 0, 0, []⟩) := by show _ = _; unfold or0; rw [if_neg hm]
      clear hm
      rw [← HO0.out] at HF1
      go_wp2_with fail
      go_meet
      case rel => exact ⟨p0, rfl, HF1⟩
  case rest =>
    obtain ⟨p, rfl, HFC⟩ := hcut
    obtain ⟨wa, hwa⟩ : ∃ x, x = wc := ⟨_, rfl⟩
    subst hwa
    clear HF1 HFW x0 x1
    obtain ⟨x0, x1⟩ := box_cells (HFC.out.box i1)
    go_upto_region 7 with (fail)
    have hfq := HFC.out.alloc (rqC 0 c.dep c.wd c.fee 0 c.nonce 0 c.seed c.exp none none 0 0 0 0) 39
    obtain ⟨Q, hQ⟩ : ∃ x, wa.heap.size = x := ⟨_, rfl⟩
    rw [hQ] at hfq ⊢
    have HFQ := Lib.hid hfq
    generalize wa.alloc (.cells (rqC 0 c.dep c.wd c.fee 0 c.nonce 0 c.seed c.exp none none 0 0 0 0) 39) = wq at *
    clear x0 x1 hfq hQ HFC
    obtain ⟨x0, x1⟩ := box_cells (HFQ.out.box i2)
    obtain ⟨bb, hbb⟩ : ∃ b : Bool, decide (0 < c.dep ∨ 0 < c.wd) = b := ⟨_, rfl⟩
    have HBB := Lib.hid hbb
    clear hbb
    go_cut [52] from 45 (fun v52 wc => v52 = .bool bb ∧ wc = wq)
    case first =>
      by_cases h1 : 0 < c.dep
      · have d1 : decide (0 < c.dep) = true := decide_eq_true h1
        have HR : Hid (true = bb) := (decide_eq_true (.inl h1)).symm.trans HBB.out
        clear h1
        go_wp2_with fail
        go_meet
        case rel => exact ⟨congrArg Value.bool HR.out, rfl⟩
      · have d1 : decide (0 < c.dep) = false := decide_eq_false h1
        have HR : Hid (decide (0 < c.wd) = bb) := by show _ = _; rw [← HBB.out, decide_eq_decide]; omega
        clear h1
        go_wp2_with fail
        go_meet
        case rel => exact ⟨congrArg Value.bool HR.out, rfl⟩
    case rest =>
    obtain ⟨rfl, hwc⟩ := hcut
    subst hwc
    go_upto_if 52 with (fail)
    go_cut [6] from 45 (fun v6 wc => v6 = .pointer (some ⟨Q, 0, none⟩) ∧ Hid (Fr [boxA Q (rqC 0 c.dep c.wd c.fee (accOf c) c.nonce (secOf c) c.seed c.exp none none 0 0 0 0) 39, orcA p (or0 c), boxA w.heap.size (caC c x) 32, boxA (w.heap.size + 1) (rqC 0 0 0 0 0 0 0 0 0 none none 0 0 0 0) 39] (fun _ => False) w wc))
    case first =>
      cases bb with
      | true =>
        have hh := of_decide_eq_true HBB.out
        have HAC : Hid (accOf c = hashS 7 [hashS 9 [c.owner]]) := by show _ = _; unfold accOf; rw [if_pos hh]
        have HSE : Hid (secOf c = hashS 9 [c.owner]) := by show _ = _; unfold secOf; rw [if_pos hh]
        have HOK := Lib.hid (hashS_ok 9 [c.owner])
        clear hh
        go_wp2_with fail
        refine (secret_any _ c.owner HC.out.owner).mono ?_
        rintro e w2 ⟨rfl, hb2⟩
        rw [← HSE.out] at HOK HAC ⊢
        have HF2 := Lib.hid (HFQ.out.keepB (bnext (Below.refl _ _) hb2))
        have HF3 : Hid (Fr [boxA Q (rqC 0 c.dep c.wd c.fee 0 c.nonce (secOf c) c.seed c.exp none none 0 0 0 0) 39, orcA p (or0 c), boxA w.heap.size (caC c x) 32, boxA (w.heap.size + 1) (rqC 0 0 0 0 0 0 0 0 0 none none 0 0 0 0) 39] (fun _ => False) w (w2.setCell ⟨Q, 8, none⟩ (.int .u64 (secOf c)))) := HF2.out.set i0 8 _
        clear x0 x1 hb2
        obtain ⟨x0, x1⟩ := box_cells (HF2.out.box i0)
        go_upto_region 9 with (fail)
        generalize w2.setCell ⟨Q, 8, none⟩ (.int .u64 (secOf c)) = w3 at *
        clear x0 x1 HF2
        obtain ⟨x0, x1⟩ := box_cells (HF3.out.box i0)
        go_wp2_with fail
        refine (account_any _ _ HOK.out).mono ?_
        rintro e w4 ⟨rfl, hb4⟩
        rw [← HAC.out]
        have HF4 := Lib.hid (HF3.out.keepB hb4)
        have HF5 : Hid (Fr [boxA Q (rqC 0 c.dep c.wd c.fee (accOf c) c.nonce (secOf c) c.seed c.exp none none 0 0 0 0) 39, orcA p (or0 c), boxA w.heap.size (caC c x) 32, boxA (w.heap.size + 1) (rqC 0 0 0 0 0 0 0 0 0 none none 0 0 0 0) 39] (fun _ => False) w (w4.setCell ⟨Q, 6, none⟩ (.int .u64 (accOf c)))) := HF4.out.set i0 6 _
        clear x0 x1 hb4
        obtain ⟨x0, x1⟩ := box_cells (HF4.out.box i0)
        go_wp2_with fail
        go_meet
        case rel => exact ⟨rfl, HF5⟩
      | false =>
        have hh := of_decide_eq_false HBB.out
        have HAC : Hid (accOf c = 0) := by show _ = _; unfold accOf; rw [if_neg hh]
        have HSE : Hid (secOf c = 0) := by show _ = _; unfold secOf; rw [if_neg hh]
        clear hh
        go_wp2_with fail
        go_meet
        case rel => rw [HAC.out, HSE.out]; exact ⟨rfl, HFQ⟩
    case rest =>
      obtain ⟨rfl, HFR⟩ := hcut
      obtain ⟨wb, hwb⟩ : ∃ x, x = wc := ⟨_, rfl⟩
      subst hwb
      have hfs : Fr (SuL w c x Q p (or0 c) [] [] [] [] 0 0 0 0 none none none none 0 0 0 0) (fun _ => False) w wb := (((HFR.out.new (A := ownA payR 0 84 (.slice none 0 0) []) (Below.refl _ _) (Own.nil _ _ _ _ _)).new (A := ownA spentR 0 58 (.slice none 0 0) []) (Below.refl _ _) (Own.nil _ _ _ _ _)).new (A := ownA noteR 0 56 (.slice none 0 0) []) (Below.refl _ _) (Own.nil _ _ _ _ _)).new (A := ownA u64R 0 24 (.slice none 0 0) []) (Below.refl _ _) (Own.nil _ _ _ _ _)
      have HFS := Lib.hid hfs
      clear hfs HFR HFQ x0 x1 HBB
      obtain ⟨x0, x1⟩ := box_cells (HFS.out.box i6)
      go_wp2_with fail
      clear x0 x1
      go_loopw [7, 8, 64] (fun v7 v8 vi wr => ∃ (k : Nat) (m : OrM) (ls : List Int) (ns : List NoteM) (al aN : Option Addr) (cl cN : Nat), k ≤ c.coins.length ∧ vi = .int .i64 k ∧ v7 = .slice al k cl ∧ v8 = .slice aN k cN ∧ Hid (Fr (SuL w c x Q p m ls ns [] [] 0 k 0 0 al aN none none cl cN 0 0) (fun _ => False) w wr) ∧ Hid (coinsL (or0 c) c.coins k = (ls, ns, m)) ∧ Hid (ls.length = k ∧ ns.length = k) ∧ Hid (m.n + m.qs.length ≤ 2 * k)) (fun _ _ vi _ => c.coins.length - (intOf vi).toNat)
      case atStart => exact ⟨0, or0 c, [], [], none, none, 0, 0, Nat.zero_le _, rfl, rfl, rfl, HFS, rfl, ⟨rfl, rfl⟩, by show _ ≤ _; unfold or0; split <;> simp⟩
      case round =>
        obtain ⟨k, m, ls, ns, al, aN, cl, cN, hk, rfl, rfl, rfl, HFK, HCL, HLN, HLK⟩ := hrel
        by_cases hlt : k < c.coins.length
        · have HAR := Lib.hid (HA.out.keep (HFK.out.kept.mono fun _ _ _ h => h))
          have har := HAR.out.coins
          obtain ⟨b, off, hca, hbl, hok, c0, c1, c2, c3, c4⟩ := coins_at har k hlt
          have HST : Hid (∀ v m2, m.commit (coinN c.coins[k]) = (v, m2) → coinsL (or0 c) c.coins (k + 1) = (ls ++ [v], ns ++ [coinN c.coins[k]], m2)) := fun v m2 h => coinsL_step HCL.out hlt h
          obtain ⟨y, hy⟩ : ∃ x, c.coins[k] = x := ⟨_, rfl⟩
          rw [hy] at hok c0 c1 c2 c3 c4 HST
          have HOK := Lib.hid hok
          have HLQ := Lib.hid hlt
          clear hy hok har
          obtain ⟨x0, x1⟩ := box_cells (HFK.out.box i6)
          go_upto_region 15 with (fail)
          have hfa := HFK.out.alloc (cnC y) 74
          obtain ⟨bc, hbc⟩ : ∃ x, wr.heap.size = x := ⟨_, rfl⟩
          rw [hbc] at hfa
          try rw [hbc]
          obtain ⟨wq, hwq⟩ : ∃ x, wr.alloc (.cells (cnC y) 74) = x := ⟨_, rfl⟩
          rw [hwq] at hfa ⊢
          have HFwq := Lib.hid hfa
          clear hfa hbc hwq x0 x1 c0 c1 c2 c3 c4 HAR hbl hca HFK HFS
          go_cut [11] from 65 to 91 (fun v11 wc => ∃ bn : Nat, v11 = .pointer (some ⟨bn, 0, none⟩) ∧ Hid (Fr (boxA bn (noteC (coinN y)) 56 :: boxA bc (cnC y) 74 :: SuL w c x Q p m ls ns [] [] 0 k 0 0 al aN none none cl cN 0 0) (fun _ => False) w wc))
          case first =>
            have HFwg00 := Lib.hid (HFwq.out.drew)
            have hS0 : Hid ((Held [(bc, cnC y, 74)] []) wq.drew) := Held.keepB (⟨⟨HFwq.out.box i0, trivial⟩, trivial⟩) (Below.refl _ _).drew
            refine wp_region_held_drew (S := (Held [(bc, cnC y, 74)] [])) (by kernel_rfl) hS0.out (fun hHeld => ?_)
            obtain ⟨wg0, hwd⟩ : ∃ x, wq.drew = x := ⟨_, rfl⟩
            rw [hwd] at hHeld HFwg00 ⊢
            have HFwg0 := HFwg00
            clear hwd HFwg00 hS0
            go_simp
            refine tkV 0 rfl (fun wz hSz => by go_simp; all_goals with_reducible rfl) ?_
            go_simp
            refine tkV 1 rfl (fun wz hSz => by have cx := (box_cells hSz.b.1).1; go_simp; all_goals with_reducible rfl) ?_
            go_simp
            refine tkV 2 rfl (fun wz hSz => by go_simp; all_goals with_reducible rfl) ?_
            go_simp
            refine tkV 3 rfl (fun wz hSz => by have cx := (box_cells hSz.b.1).1; go_simp; all_goals with_reducible rfl) ?_
            go_simp
            refine tkV 5 rfl (fun wz hSz => by go_simp; all_goals with_reducible rfl) ?_
            go_simp
            refine tkV 6 rfl (fun wz hSz => by have cx := (box_cells hSz.b.1).1; go_simp; all_goals with_reducible rfl) ?_
            go_simp
            refine tkV 8 rfl (fun wz hSz => by go_simp; all_goals with_reducible rfl) ?_
            go_simp
            refine tkV 9 rfl (fun wz hSz => by have cx := (box_cells hSz.b.1).1; go_simp; all_goals with_reducible rfl) ?_
            go_simp
            refine tkV 10 rfl (fun wz hSz => by go_simp; all_goals with_reducible rfl) ?_
            go_simp
            refine tkV 11 rfl (fun wz hSz => by have cx := (box_cells hSz.b.1).1; go_simp; all_goals with_reducible rfl) ?_
            go_simp
            refine rd2 4 13 rfl rfl (fun K hK => ?_) (fun K hK => ?_)
            · skip
              go_simp
              refine (spend_any _ y.seed HOK.out.seed).mono ?_
              rintro E wg1 ⟨rfl, hb⟩
              have HFwg1 := Lib.hid (HFwg0.out.keepB hb)
              clear hHeld hb
              refine hK.out _ _ (⟨⟨HFwg1.out.box i0, trivial⟩, trivial⟩) (fun hHeld => ?_)
              clear hK K
              go_simp
              refine rd2 7 13 rfl rfl (fun K hK => ?_) (fun K hK => ?_)
              · skip
                go_simp
                refine (owner_any _ (hashS 8 [y.seed]) y.number (hashS_ok _ _)).mono ?_
                rintro E wg2 ⟨rfl, hb⟩
                have HFwg2 := Lib.hid (HFwg1.out.keepB hb)
                clear hHeld hb
                refine hK.out _ _ (⟨⟨HFwg2.out.box i0, trivial⟩, trivial⟩) (fun hHeld => ?_)
                clear hK K
                go_simp
                refine tkV 12 rfl (fun wz hSz => by go_simp; all_goals with_reducible rfl) ?_
                go_simp
                refine rd1 13 rfl (fun K hK => ?_)
                go_simp
                have hfa := HFwg2.out.alloc #[.int .u64 0, .int .u64 0, .int .u64 0, .int .u64 0] 56
                obtain ⟨bn, hbn⟩ : ∃ x, wg2.heap.size = x := ⟨_, rfl⟩
                rw [hbn] at hfa
                try rw [hbn]
                obtain ⟨wg3, hw⟩ : ∃ x, wg2.alloc (.cells #[.int .u64 0, .int .u64 0, .int .u64 0, .int .u64 0] 56) = x := ⟨_, rfl⟩
                rw [hw] at hfa ⊢
                have HFwg3 := Lib.hid hfa
                clear hHeld hfa hw hbn
                refine hK.out _ _ (⟨⟨HFwg3.out.box i1, trivial⟩, trivial⟩) (fun hHeld => ?_)
                clear hK K
                go_simp
                refine rd1 14 rfl (fun K hK => ?_)
                refine step_store_row rfl _ _ _ rfl (bn) _ rfl rfl _ _ (HFwg3.out.box i0) (by kernel_rfl) rfl (by kernel_rfl) ?_
                have hfa := HFwg3.out.setRow i0 (noteC (coinN y))
                change K _ (wg3.setRow (bn) (noteC (coinN y)))
                obtain ⟨wg4, hw⟩ : ∃ x, wg3.setRow (bn) (noteC (coinN y)) = x := ⟨_, rfl⟩
                rw [hw] at hfa ⊢
                have HFwg4 := Lib.hid hfa
                clear hHeld hfa hw
                refine hK.out _ _ (⟨⟨HFwg4.out.box i1, trivial⟩, trivial⟩) (fun hHeld => ?_)
                clear hK K
                go_simp
                clear hHeld
                refine wpAnyH_done (by kernel_rfl) ?_ _
                go_wp2_with fail
                go_meet
                case rel => exact ⟨bn, rfl, HFwg4⟩
              · skip
                go_simp
                have hfa := HFwg1.out.alloc #[.int .u64 0, .int .u64 0, .int .u64 0, .int .u64 0] 56
                obtain ⟨bn, hbn⟩ : ∃ x, wg1.heap.size = x := ⟨_, rfl⟩
                rw [hbn] at hfa
                try rw [hbn]
                obtain ⟨wg5, hw⟩ : ∃ x, wg1.alloc (.cells #[.int .u64 0, .int .u64 0, .int .u64 0, .int .u64 0] 56) = x := ⟨_, rfl⟩
                rw [hw] at hfa ⊢
                have HFwg5 := Lib.hid hfa
                clear hHeld hfa hw hbn
                refine hK.out _ _ (⟨⟨HFwg5.out.box i1, trivial⟩, trivial⟩) (fun hHeld => ?_)
                clear hK K
                go_simp
                refine rd1 7 rfl (fun K hK => ?_)
                go_simp
                refine (owner_any _ (hashS 8 [y.seed]) y.number (hashS_ok _ _)).mono ?_
                rintro E wg6 ⟨rfl, hb⟩
                have HFwg6 := Lib.hid (HFwg5.out.keepB hb)
                clear hHeld hb
                refine hK.out _ _ (⟨⟨HFwg6.out.box i1, trivial⟩, trivial⟩) (fun hHeld => ?_)
                clear hK K
                go_simp
                refine tkV 12 rfl (fun wz hSz => by go_simp; all_goals with_reducible rfl) ?_
                go_simp
                refine rd1 14 rfl (fun K hK => ?_)
                refine step_store_row rfl _ _ _ rfl (bn) _ rfl rfl _ _ (HFwg6.out.box i0) (by kernel_rfl) rfl (by kernel_rfl) ?_
                have hfa := HFwg6.out.setRow i0 (noteC (coinN y))
                change K _ (wg6.setRow (bn) (noteC (coinN y)))
                obtain ⟨wg7, hw⟩ : ∃ x, wg6.setRow (bn) (noteC (coinN y)) = x := ⟨_, rfl⟩
                rw [hw] at hfa ⊢
                have HFwg7 := Lib.hid hfa
                clear hHeld hfa hw
                refine hK.out _ _ (⟨⟨HFwg7.out.box i1, trivial⟩, trivial⟩) (fun hHeld => ?_)
                clear hK K
                go_simp
                clear hHeld
                refine wpAnyH_done (by kernel_rfl) ?_ _
                go_wp2_with fail
                go_meet
                case rel => exact ⟨bn, rfl, HFwg7⟩
            · skip
              go_simp
              have hfa := HFwg0.out.alloc #[.int .u64 0, .int .u64 0, .int .u64 0, .int .u64 0] 56
              obtain ⟨bn, hbn⟩ : ∃ x, wg0.heap.size = x := ⟨_, rfl⟩
              rw [hbn] at hfa
              try rw [hbn]
              obtain ⟨wg8, hw⟩ : ∃ x, wg0.alloc (.cells #[.int .u64 0, .int .u64 0, .int .u64 0, .int .u64 0] 56) = x := ⟨_, rfl⟩
              rw [hw] at hfa ⊢
              have HFwg8 := Lib.hid hfa
              clear hHeld hfa hw hbn
              refine hK.out _ _ (⟨⟨HFwg8.out.box i1, trivial⟩, trivial⟩) (fun hHeld => ?_)
              clear hK K
              go_simp
              refine rd1 4 rfl (fun K hK => ?_)
              go_simp
              refine (spend_any _ y.seed HOK.out.seed).mono ?_
              rintro E wg9 ⟨rfl, hb⟩
              have HFwg9 := Lib.hid (HFwg8.out.keepB hb)
              clear hHeld hb
              refine hK.out _ _ (⟨⟨HFwg9.out.box i1, trivial⟩, trivial⟩) (fun hHeld => ?_)
              clear hK K
              go_simp
              refine rd1 7 rfl (fun K hK => ?_)
              go_simp
              refine (owner_any _ (hashS 8 [y.seed]) y.number (hashS_ok _ _)).mono ?_
              rintro E wg10 ⟨rfl, hb⟩
              have HFwg10 := Lib.hid (HFwg9.out.keepB hb)
              clear hHeld hb
              refine hK.out _ _ (⟨⟨HFwg10.out.box i1, trivial⟩, trivial⟩) (fun hHeld => ?_)
              clear hK K
              go_simp
              refine tkV 12 rfl (fun wz hSz => by go_simp; all_goals with_reducible rfl) ?_
              go_simp
              refine rd1 14 rfl (fun K hK => ?_)
              refine step_store_row rfl _ _ _ rfl (bn) _ rfl rfl _ _ (HFwg10.out.box i0) (by kernel_rfl) rfl (by kernel_rfl) ?_
              have hfa := HFwg10.out.setRow i0 (noteC (coinN y))
              change K _ (wg10.setRow (bn) (noteC (coinN y)))
              obtain ⟨wg11, hw⟩ : ∃ x, wg10.setRow (bn) (noteC (coinN y)) = x := ⟨_, rfl⟩
              rw [hw] at hfa ⊢
              have HFwg11 := Lib.hid hfa
              clear hHeld hfa hw
              refine hK.out _ _ (⟨⟨HFwg11.out.box i1, trivial⟩, trivial⟩) (fun hHeld => ?_)
              clear hK K
              go_simp
              clear hHeld
              refine wpAnyH_done (by kernel_rfl) ?_ _
              go_wp2_with fail
              go_meet
              case rel => exact ⟨bn, rfl, HFwg11⟩
          case rest =>
            obtain ⟨bn, rfl, HFwn⟩ := hcut
            obtain ⟨wn, hwn⟩ : ∃ x, x = wc := ⟨_, rfl⟩
            subst hwn
            clear HFwq
            have HNO : Hid (NoteOk (coinN y)) := ⟨HOK.out.value, ownerS_ok' _ _, HOK.out.rho, HOK.out.blind⟩
            go_upto_region 16 with (fail)
            have HFwg00 := Lib.hid (HFwn.out.drew)
            have hS0 : Hid ((Held [(bn, noteC (coinN y), 56)] []) wn.drew) := Held.keepB (⟨⟨HFwn.out.box i0, trivial⟩, trivial⟩) (Below.refl _ _).drew
            refine wp_region_held_drew (S := (Held [(bn, noteC (coinN y), 56)] [])) (by kernel_rfl) hS0.out (fun hHeld => ?_)
            obtain ⟨wg0, hwd⟩ : ∃ x, wn.drew = x := ⟨_, rfl⟩
            rw [hwd] at hHeld HFwg00 ⊢
            have HFwg0 := HFwg00
            clear hwd HFwg00 hS0
            go_simp
            refine tkV 0 rfl (fun wz hSz => by go_simp; all_goals with_reducible rfl) ?_
            go_simp
            refine tkY 1 rfl (yieldsIf_load_mid (by rfl) _ _ rfl (bn) 0 rfl [.int .u64 y.value, .int .u64 (ownerS (hashS 8 [y.seed]) y.number), .int .u64 y.rho, .int .u64 y.blind] _ (fun wz hSz => range_box hSz.b.1) Tryz.underlying56 rfl (by kernel_rfl)) ?_
            go_simp
            refine tkV 4 rfl (fun wz hSz => by go_simp; all_goals with_reducible rfl) ?_
            go_simp
            refine tkV 5 rfl (fun wz hSz => by go_simp; all_goals with_reducible rfl) ?_
            go_simp
            refine tkY 6 rfl (yieldsIf_load_mid (by rfl) _ _ rfl (bn) 0 rfl [.int .u64 y.value, .int .u64 (ownerS (hashS 8 [y.seed]) y.number), .int .u64 y.rho, .int .u64 y.blind] _ (fun wz hSz => range_box hSz.b.1) Tryz.underlying56 rfl (by kernel_rfl)) ?_
            go_simp
            refine rd1 2 rfl (fun K hK => ?_)
            go_simp
            have hfa := (HFwg0.out.new (A := repA noteR [.int .u64 y.value, .int .u64 (ownerS (hashS 8 [y.seed]) y.number), .int .u64 y.rho, .int .u64 y.blind] (coinN y)) (Below.refl _ _) (noteR.mk HNO.out)).keepB (bnew (Below.refl _ _) (.cells #[.int .u64 y.value, .int .u64 (ownerS (hashS 8 [y.seed]) y.number), .int .u64 y.rho, .int .u64 y.blind] 56))
            have hcu : CellsAt (wg0.alloc (.cells #[.int .u64 y.value, .int .u64 (ownerS (hashS 8 [y.seed]) y.number), .int .u64 y.rho, .int .u64 y.blind] 56)) wg0.heap.size 0 [.int .u64 y.value, .int .u64 (ownerS (hashS 8 [y.seed]) y.number), .int .u64 y.rho, .int .u64 y.blind] := CellsAt.new _ [.int .u64 y.value, .int .u64 (ownerS (hashS 8 [y.seed]) y.number), .int .u64 y.rho, .int .u64 y.blind] 56
            obtain ⟨buwg1, hbu⟩ : ∃ x, wg0.heap.size = x := ⟨_, rfl⟩
            rw [hbu] at hcu
            try rw [hbu]
            obtain ⟨wg1, hw⟩ : ∃ x, wg0.alloc (.cells #[.int .u64 y.value, .int .u64 (ownerS (hashS 8 [y.seed]) y.number), .int .u64 y.rho, .int .u64 y.blind] 56) = x := ⟨_, rfl⟩
            rw [hw] at hfa hcu ⊢
            have HFwg1 := Lib.hid hfa
            have HCUwg1 := Lib.hid hcu
            clear hHeld hfa hcu hw hbu
            refine hK.out _ _ (⟨⟨HFwg1.out.box i1, trivial⟩, trivial⟩) (fun hHeld => ?_)
            clear hK K
            go_simp
            refine rd1 3 rfl (fun K hK => ?_)
            refine step_appF rfl _ _ rfl Tryz.etyNote HFwg1.out i3 HCUwg1.out rfl rfl (HLN.out.2) (by have := HLQ.out; have := HSM.out.1; unfold maxLen; omega) (by have := HLQ.out; have := HSM.out.1; omega) (Nat.zero_le _) ?_
            intro awg2 cwg2 wg2 hfa
            have HFwg2 := Lib.hid hfa
            clear hHeld hfa
            refine hK.out _ _ (⟨⟨HFwg2.out.box i0, trivial⟩, trivial⟩) (fun hHeld => ?_)
            clear hK K
            go_simp
            refine rd1 7 rfl (fun K hK => ?_)
            go_simp
            obtain ⟨G, hG, hor, hcl⟩ := HFwg2.out.open i7
            refine (commit_any G wg2 p m hor (fun j h => (hG j h).2) (coinN y) HNO.out (by have := HLK.out; have := HLQ.out; have := HSM.out.1; omega)).mono ?_
            rintro E wg3 ⟨v, m2, rfl, hmx, hvr, -, -, hml, ho2, hk2⟩
            have HFwg3 := Lib.hid (hcl (orcA p m2) wg3 ho2 hk2)
            have HMX := Lib.hid (HST.out v m2 hmx)
            have HVO : Hid (okU v) := okU_of hvr.1 (Int.lt_trans hvr.2 (by omega))
            have HM2 : Hid (m2.n + m2.qs.length ≤ 2 * (k + 1)) := by have := HLK.out; show _ ≤ _; omega
            clear hHeld hG hor hcl hmx hvr hml ho2 hk2
            refine hK.out _ _ (⟨⟨HFwg3.out.box i0, trivial⟩, trivial⟩) (fun hHeld => ?_)
            clear hK K
            go_simp
            refine rd1 8 rfl (fun K hK => ?_)
            go_simp
            have hfa := (HFwg3.out.new (A := repA u64R [.int .u64 v] v) (Below.refl _ _) (⟨rfl, HVO.out⟩)).keepB (bnew (Below.refl _ _) (.cells #[.int .u64 v] 24))
            have hcu : CellsAt (wg3.alloc (.cells #[.int .u64 v] 24)) wg3.heap.size 0 [.int .u64 v] := CellsAt.new _ [.int .u64 v] 24
            obtain ⟨buwg4, hbu⟩ : ∃ x, wg3.heap.size = x := ⟨_, rfl⟩
            rw [hbu] at hcu
            try rw [hbu]
            obtain ⟨wg4, hw⟩ : ∃ x, wg3.alloc (.cells #[.int .u64 v] 24) = x := ⟨_, rfl⟩
            rw [hw] at hfa hcu ⊢
            have HFwg4 := Lib.hid hfa
            have HCUwg4 := Lib.hid hcu
            clear hHeld hfa hcu hw hbu
            refine hK.out _ _ (⟨⟨HFwg4.out.box i1, trivial⟩, trivial⟩) (fun hHeld => ?_)
            clear hK K
            go_simp
            refine rd1 9 rfl (fun K hK => ?_)
            refine step_appF rfl _ _ rfl Tryz.etyNums HFwg4.out i2 HCUwg4.out rfl rfl (HLN.out.1) (by have := HLQ.out; have := HSM.out.1; unfold maxLen; omega) (by have := HLQ.out; have := HSM.out.1; omega) (Nat.zero_le _) ?_
            intro awg5 cwg5 wg5 hfa
            have HFwg5 := Lib.hid hfa
            clear hHeld hfa
            refine hK.out _ _ (⟨⟨HFwg5.out.box i0, trivial⟩, trivial⟩) (fun hHeld => ?_)
            clear hK K
            go_simp
            refine tkV 10 rfl (fun wz hSz => by go_simp; all_goals with_reducible rfl) ?_
            go_simp
            refine tkV 11 rfl (fun wz hSz => by go_simp; all_goals with_reducible rfl) ?_
            go_simp
            clear hHeld
            refine wpAnyH_done (by kernel_rfl) ?_ _
            have HL2 : Hid ((ls ++ [v]).length = k + 1 ∧ (ns ++ [coinN y]).length = k + 1) := ⟨by rw [List.length_append, HLN.out.1]; rfl, by rw [List.length_append, HLN.out.2]; rfl⟩
            have hq1 := HLQ.out
            have hq2 := HSM.out.1
            go_wp2_with fail
            go_roundw
            case rel => exact ⟨k + 1, m2, ls ++ [v], ns ++ [coinN y], _, _, _, _, HLQ.out, by go_num, rfl, rfl, (HFwg5.out.drop i0).drop i0, HMX, HL2, HM2⟩
            case measure => simp [intOf]; omega
        · obtain ⟨n, hn⟩ : ∃ n, c.coins.length = n := ⟨_, rfl⟩
          obtain rfl : k = n := by omega
          have HN := Lib.hid hn
          obtain ⟨D, hD⟩ : ∃ D : Nat, c.rules.depth = (D : Int) := ⟨c.rules.depth.toNat, by have := HSM.out; omega⟩
          have HD : Hid (c.rules.depth = (D : Int) ∧ 1 ≤ D ∧ D ≤ 6) := ⟨hD, by have := HSM.out; omega⟩
          have HN8 : Hid (k ≤ 8) := by show _ ≤ _; rw [← hn]; exact HSM.out.1
          clear hk hn hD HFS
          obtain ⟨x0, x1⟩ := box_cells (HFK.out.box i6)
          go_wp2_with fail
          refine (root37_len _ al k cl ls HLN.out.1 (by have := HN8.out; omega) _ D HD.out.1 HD.out.2.2 wr (own_nums (HFK.out.get i0))).mono ?_
          rintro e w2 ⟨rfl, hb2⟩
          obtain ⟨an, han⟩ : ∃ x, nodeT ls D 0 = x := ⟨_, rfl⟩
          rw [han]
          have HAN := Lib.hid han
          have HF2 := Lib.hid (HFK.out.keepB hb2)
          have HF3 : Hid (Fr (SuL w c x Q p m ls ns [] [] an k 0 0 al aN none none cl cN 0 0) (fun _ => False) w (w2.setCell ⟨Q, 0, none⟩ (.int .u64 an))) := HF2.out.set i4 0 _
          clear x0 x1 hb2 han HFK hlt
          obtain ⟨x0, x1⟩ := box_cells (HF2.out.box i4)
          go_upto_region 19 with (fail)
          generalize w2.setCell ⟨Q, 0, none⟩ (.int .u64 an) = w3 at *
          clear x0 x1 HF2
          obtain ⟨x0, x1⟩ := box_cells (HF3.out.box i6)
          go_wp2_with fail
          clear x0 x1
          go_loopw [101] (fun vi wr => ∃ (i : Nat) (is : List SpentM) (ai : Option Addr) (ci : Nat), i ≤ c.spend.length ∧ vi = .int .i64 i ∧ Hid (Fr (SuL w c x Q p m ls ns is [] an k i 0 al aN ai none cl cN ci 0) (fun _ => False) w wr) ∧ Hid (is.length = i)) (fun vi _ => c.spend.length - (intOf vi).toNat)
          case atStart => exact ⟨0, [], none, 0, Nat.zero_le _, rfl, HF3, rfl⟩
          case round =>
            clear HF3
            obtain ⟨i, is, ai, ci, hi, rfl, HFK, HIL⟩ := hrel
            by_cases hlt : i < c.spend.length
            · have HAR := Lib.hid (HA.out.keep (HFK.out.kept.mono fun _ _ _ h => h))
              have har := HAR.out.spend
              obtain ⟨b, off, hsa, hbl, -, e0, e1, ce⟩ := bytes_at har i hlt
              obtain ⟨v, hv⟩ : ∃ x, c.spend[i] = x := ⟨_, rfl⟩
              rw [hv] at e0 e1 ce
              obtain ⟨j, rfl⟩ : ∃ j : Nat, v = (j : Int) := ⟨v.toNat, by omega⟩
              have HLQ := Lib.hid hlt
              have wj : wrap64 (j : Int) = (j : Int) := by unfold wrap64; omega
              have wk : IntKind.i64.wrap (j : Int) = (j : Int) := by rw [IntKind.wrap_i64]; omega
              have HWJ := Lib.hid (And.intro wj wk)
              have HSL : Hid (i < 5) := by have := HSM.out; show _ < _; omega
              clear hv har hi
              go_upto_region 22 with (fail)
              clear e0 e1 ce hbl hsa hlt
              by_cases hge : k ≤ j
              · go_upto_region 23 with (fail)
                clear hge
                have HFwg00 := Lib.hid (HFK.out.drew)
                have hS0 : Hid ((Held [(Q, rqC an c.dep c.wd c.fee (accOf c) c.nonce (secOf c) c.seed c.exp ai none i ci 0 0, 39)] []) wr.drew) := Held.keepB (⟨⟨HFK.out.box i4, trivial⟩, trivial⟩) (Below.refl _ _).drew
                refine wp_region_held_drew (S := (Held [(Q, rqC an c.dep c.wd c.fee (accOf c) c.nonce (secOf c) c.seed c.exp ai none i ci 0 0, 39)] [])) (by kernel_rfl) hS0.out (fun hHeld => ?_)
                obtain ⟨wg0, hwd⟩ : ∃ x, wr.drew = x := ⟨_, rfl⟩
                rw [hwd] at hHeld HFwg00 ⊢
                have HFwg0 := HFwg00
                clear hwd HFwg00 hS0
                go_simp
                refine tkY 0 rfl (yieldsIf_load_mid (by rfl) _ _ rfl (Q) 0 rfl [.int .u64 an, .slice ai i ci, .slice none 0 0, .int .u64 c.dep, .int .u64 c.wd, .int .u64 c.fee, .int .u64 (accOf c), .int .u64 c.nonce, .int .u64 (secOf c), .int .i64 c.exp, .int .u64 c.seed] _ (fun wz hSz => range_box hSz.b.1) Tryz.underlying39 rfl (by kernel_rfl)) ?_
                go_simp
                refine tkV 1 rfl (fun wz hSz => by go_simp; all_goals with_reducible rfl) ?_
                go_simp
                refine rd1 2 rfl (fun K hK => ?_)
                refine step_store_row rfl _ _ _ rfl ((w.heap.size + 1)) _ rfl rfl _ _ (HFwg0.out.box i7) (by kernel_rfl) rfl (by kernel_rfl) ?_
                have hfa := HFwg0.out.setRow i7 #[.int .u64 an, .slice ai i ci, .slice none 0 0, .int .u64 c.dep, .int .u64 c.wd, .int .u64 c.fee, .int .u64 (accOf c), .int .u64 c.nonce, .int .u64 (secOf c), .int .i64 c.exp, .int .u64 c.seed]
                change K _ (wg0.setRow ((w.heap.size + 1)) #[.int .u64 an, .slice ai i ci, .slice none 0 0, .int .u64 c.dep, .int .u64 c.wd, .int .u64 c.fee, .int .u64 (accOf c), .int .u64 c.nonce, .int .u64 (secOf c), .int .i64 c.exp, .int .u64 c.seed])
                obtain ⟨wg1, hw⟩ : ∃ x, wg0.setRow ((w.heap.size + 1)) #[.int .u64 an, .slice ai i ci, .slice none 0 0, .int .u64 c.dep, .int .u64 c.wd, .int .u64 c.fee, .int .u64 (accOf c), .int .u64 c.nonce, .int .u64 (secOf c), .int .i64 c.exp, .int .u64 c.seed] = x := ⟨_, rfl⟩
                rw [hw] at hfa ⊢
                have HFwg1 := Lib.hid hfa
                clear hHeld hfa hw
                refine hK.out _ _ (⟨⟨HFwg1.out.box i4, trivial⟩, trivial⟩) (fun hHeld => ?_)
                clear hK K
                go_simp
                refine tkV 3 rfl (fun wz hSz => by go_simp; all_goals with_reducible rfl) ?_
                go_simp
                clear hHeld
                refine wpAnyH_done (by kernel_rfl) ?_ _
                go_wp2_with fail
                (try simp only [Exit.inBlock, Exit.then])
                exact bodyPost_ret (ret_tct Tryz.results7 rfl (HFwg1.out.box i7) Tryz.underlying39 rfl (by kernel_rfl)) rfl ⟨HFwg1.out.below, .inl ⟨an, c.dep, c.wd, c.fee, accOf c, c.nonce, secOf c, c.seed, c.exp, ai, none, i, ci, 0, 0, fun h => by have := HLQ.out; rw [h] at this; simp at this, rfl⟩⟩
              · have hjk : j < c.coins.length := by rw [HN.out]; omega
                have har := HAR.out.coins
                obtain ⟨b, off, hca, hbl, hok, c0, c1, c2, c3, c4⟩ := coins_at har j hjk
                obtain ⟨y, hy⟩ : ∃ x, c.coins[j] = x := ⟨_, rfl⟩
                rw [hy] at hok c0 c1 c2 c3 c4
                have HOK := Lib.hid hok
                have hjn : j < ns.length := by rw [HLN.out.2]; omega
                obtain ⟨nt, hnt⟩ : ∃ x, ns[j]? = some x := ⟨_, List.getElem?_eq_getElem hjn⟩
                have HNT := Lib.hid hnt
                have HJ : Hid (j < k) := by show _ < _; omega
                clear hy hok har hnt hjn
                obtain ⟨x0, x1⟩ := box_cells (HFK.out.box i6)
                go_upto_region 25 with (fail)
                clear hge hca hbl c0 c1 c2 c3 c4
                have hfa := HFK.out.alloc (cnC y) 74
                obtain ⟨bc, hbc⟩ : ∃ x, wr.heap.size = x := ⟨_, rfl⟩
                rw [hbc] at hfa
                try rw [hbc]
                obtain ⟨wq, hwq⟩ : ∃ x, wr.alloc (.cells (cnC y) 74) = x := ⟨_, rfl⟩
                rw [hwq] at hfa ⊢
                have HFwq := Lib.hid hfa
                obtain ⟨bb, off, rfl⟩ : ∃ bb off, aN = some ⟨bb, off, none⟩ := by
                  obtain ⟨bb, off, -, he, -⟩ := sliceR.at (HFK.out.get i1).slice j (by rw [HLN.out.2]; exact HJ.out)
                  exact ⟨bb, off, he⟩
                have HNO := Lib.hid (note_range (HFK.out.get i1) j HNT.out).2
                clear hfa hbc hwq x0 x1 HAR HFK
                have wj := HWJ.out.1
                have wk := HWJ.out.2
                have hjk2 := HJ.out
                have HJI : Hid (okI (j : Int)) := okI_of (by have := HN8.out; omega) (by have := HN8.out; omega)
                have HFwg00 := Lib.hid (HFwq.out.drew)
                have hS0 : Hid ((Held [(bc, cnC y, 74), (w.heap.size, caC c x, 32)] [(bb, off + j * 4, [.int .u64 nt.value, .int .u64 nt.owner, .int .u64 nt.rho, .int .u64 nt.blind])]) wq.drew) := Held.keepB (⟨⟨HFwq.out.box i0, HFwq.out.box i7, trivial⟩, (note_range (HFwq.out.get i2) j HNT.out).1, trivial⟩) (Below.refl _ _).drew
                refine wp_region_last 24 (S := (Held [(bc, cnC y, 74), (w.heap.size, caC c x, 32)] [(bb, off + j * 4, [.int .u64 nt.value, .int .u64 nt.owner, .int .u64 nt.rho, .int .u64 nt.blind])])) (by kernel_rfl) hS0.out (fun hHeld => ?_)
                obtain ⟨wg0, hwd⟩ : ∃ x, wq.drew = x := ⟨_, rfl⟩
                rw [hwd] at hHeld HFwg00 ⊢
                have HFwg0 := HFwg00
                clear hwd HFwg00 hS0
                go_simp
                refine tkVL 0 rfl (fun wz hSz => by go_simp; all_goals with_reducible rfl) ?_
                go_simp
                refine tkVL 2 rfl (fun wz hSz => by go_simp; all_goals with_reducible rfl) ?_
                go_simp
                refine tkVL 3 rfl (fun wz hSz => by go_simp; all_goals with_reducible rfl) ?_
                go_simp
                refine tkVL 4 rfl (fun wz hSz => by go_simp; all_goals with_reducible rfl) ?_
                go_simp
                refine tkYL 5 rfl (yieldsIf_load_mid (by rfl) _ _ rfl (bb) (off + j * 4) rfl [.int .u64 nt.value, .int .u64 nt.owner, .int .u64 nt.rho, .int .u64 nt.blind] _ (fun wz hSz => hSz.r.1) Tryz.underlying56 rfl (by kernel_rfl)) ?_
                go_simp
                refine tkVL 6 rfl (fun wz hSz => by go_simp; all_goals with_reducible rfl) ?_
                go_simp
                refine tkVL 7 rfl (fun wz hSz => by have cx := (box_cells hSz.b.1).1; go_simp; all_goals with_reducible rfl) ?_
                go_simp
                refine tkVL 9 rfl (fun wz hSz => by go_simp; all_goals with_reducible rfl) ?_
                go_simp
                refine tkVL 10 rfl (fun wz hSz => by have cx := (box_cells hSz.b.1).1; go_simp; all_goals with_reducible rfl) ?_
                go_simp
                refine tkVL 11 rfl (fun wz hSz => by go_simp; all_goals with_reducible rfl) ?_
                go_simp
                refine tkVL 12 rfl (fun wz hSz => by go_simp; all_goals with_reducible rfl) ?_
                go_simp
                refine tkVL 13 rfl (fun wz hSz => by go_simp; all_goals with_reducible rfl) ?_
                go_simp
                refine tkVL 14 rfl (fun wz hSz => by go_simp; all_goals with_reducible rfl) ?_
                go_simp
                refine tkVL 15 rfl (fun wz hSz => by have cx := (box_cells hSz.b.2.1).1; go_simp; all_goals with_reducible rfl) ?_
                go_simp
                refine tkVL 16 rfl (fun wz hSz => by go_simp; all_goals with_reducible rfl) ?_
                go_simp
                refine tkVL 17 rfl (fun wz hSz => by go_simp; all_goals with_reducible rfl) ?_
                go_simp
                refine tkVL 18 rfl (fun wz hSz => by go_simp; all_goals with_reducible rfl) ?_
                go_simp
                refine rd2L 1 8 rfl rfl (fun K hK => ?_) (fun K hK => ?_)
                · skip
                  have cx0 := (box_cells (HFwg0.out.box i5)).1
                  go_simp
                  have hS2 := Lib.hid hHeld
                  clear hHeld cx0
                  refine hK.out _ _ hS2.out (fun hHeld => ?_)
                  clear hK K hS2
                  go_simp
                  refine rd1L 8 rfl (fun K hK => ?_)
                  go_simp
                  refine (spend_any _ y.seed HOK.out.seed).mono ?_
                  rintro E wg2 ⟨rfl, hb⟩
                  have HFwg2 := Lib.hid (HFwg0.out.keepB hb)
                  clear hHeld hb
                  refine hK.out _ _ (⟨⟨HFwg2.out.box i0, HFwg2.out.box i7, trivial⟩, (note_range (HFwg2.out.get i2) j HNT.out).1, trivial⟩) (fun hHeld => ?_)
                  clear hK K
                  go_simp
                  refine rd1L 19 rfl (fun K hK => ?_)
                  go_simp
                  refine (path37_len _ al k cl ls HLN.out.1 (by have := HN8.out; omega) _ D HD.out.1 HD.out.2.2 j (by have := HJ.out; have := HN8.out; omega) _ (own_nums (HFwg2.out.get i1))).mono ?_
                  rintro E wg3 ⟨⟨pth, pa, pc, hpl, rfl, hpr⟩, hb⟩
                  have HFwg3 := Lib.hid (HFwg2.out.new (A := repA numsR [.slice pa D pc] pth) hb hpr)
                  have HPL : Hid ((SpentM.path ⟨nt, hashS 8 [y.seed], y.number, j, pth, false⟩).length = D) := hpl
                  have HSO : Hid (SpentOk ⟨nt, hashS 8 [y.seed], y.number, j, pth, false⟩) := ⟨HNO.out, hashS_ok _ _, HOK.out.number, HJI.out⟩
                  clear hHeld hb hpl hpr
                  refine hK.out _ _ (⟨⟨HFwg3.out.box i1, HFwg3.out.box i8, trivial⟩, (note_range (HFwg3.out.get i3) j HNT.out).1, trivial⟩) (fun hHeld => ?_)
                  clear hK K
                  go_simp
                  refine tkVL 20 rfl (fun wz hSz => by go_simp; all_goals with_reducible rfl) ?_
                  go_simp
                  refine rd1L 21 rfl (fun K hK => ?_)
                  go_simp
                  have hfa := (HFwg3.out.map i0 (A' := repA spentR [.int .u64 nt.value, .int .u64 nt.owner, .int .u64 nt.rho, .int .u64 nt.blind, .int .u64 (hashS 8 [y.seed]), .int .i64 y.number, .int .i64 j, .slice pa D pc, .bool false] ⟨nt, hashS 8 [y.seed], y.number, j, pth, false⟩) (fun _ h => spentR_mk' HSO.out HPL.out h)).keepB (bnew (Below.refl _ _) (.cells #[.int .u64 nt.value, .int .u64 nt.owner, .int .u64 nt.rho, .int .u64 nt.blind, .int .u64 (hashS 8 [y.seed]), .int .i64 y.number, .int .i64 j, .slice pa D pc, .bool false] 58))
                  have hcu : CellsAt (wg3.alloc (.cells #[.int .u64 nt.value, .int .u64 nt.owner, .int .u64 nt.rho, .int .u64 nt.blind, .int .u64 (hashS 8 [y.seed]), .int .i64 y.number, .int .i64 j, .slice pa D pc, .bool false] 58)) wg3.heap.size 0 [.int .u64 nt.value, .int .u64 nt.owner, .int .u64 nt.rho, .int .u64 nt.blind, .int .u64 (hashS 8 [y.seed]), .int .i64 y.number, .int .i64 j, .slice pa D pc, .bool false] := CellsAt.new _ [.int .u64 nt.value, .int .u64 nt.owner, .int .u64 nt.rho, .int .u64 nt.blind, .int .u64 (hashS 8 [y.seed]), .int .i64 y.number, .int .i64 j, .slice pa D pc, .bool false] 58
                  obtain ⟨bu, hbu⟩ : ∃ x, wg3.heap.size = x := ⟨_, rfl⟩
                  rw [hbu] at hcu
                  try rw [hbu]
                  obtain ⟨wg4, hw⟩ : ∃ x, wg3.alloc (.cells #[.int .u64 nt.value, .int .u64 nt.owner, .int .u64 nt.rho, .int .u64 nt.blind, .int .u64 (hashS 8 [y.seed]), .int .i64 y.number, .int .i64 j, .slice pa D pc, .bool false] 58) = x := ⟨_, rfl⟩
                  rw [hw] at hfa hcu ⊢
                  have HFwg4 := Lib.hid hfa
                  have HCUwg4 := Lib.hid hcu
                  clear hHeld hfa hcu hw hbu
                  refine hK.out _ _ (⟨⟨HFwg4.out.box i1, HFwg4.out.box i8, trivial⟩, (note_range (HFwg4.out.get i3) j HNT.out).1, trivial⟩) (fun hHeld => ?_)
                  clear hK K
                  go_simp
                  refine rd1L 22 rfl (fun K hK => ?_)
                  refine step_appF rfl _ _ rfl Tryz.etySpent HFwg4.out i3 HCUwg4.out rfl rfl (HIL.out) (by have := HSL.out; unfold maxLen; omega) (by have := HSL.out; omega) (Nat.zero_le _) ?_
                  intro awg5 cwg5 wg5 hfa
                  have HFwg5 := Lib.hid hfa
                  clear hHeld hfa
                  refine hK.out _ _ (⟨⟨HFwg5.out.box i0, HFwg5.out.box i7, trivial⟩, (note_range (HFwg5.out.get i2) j HNT.out).1, trivial⟩) (fun hHeld => ?_)
                  clear hK K
                  go_simp
                  refine tkVL 23 rfl (fun wz hSz => by go_simp; all_goals with_reducible rfl) ?_
                  go_simp
                  refine rdL rfl (fun K hK => ?_)
                  obtain ⟨cx0, cx1⟩ := box_cells (HFwg5.out.box i5)
                  go_simp
                  have hfa := HFwg5.out.set i5 1 (.slice awg5 (i + 1) cwg5)
                  obtain ⟨wg6, hw⟩ : ∃ x, wg5.setCell ⟨Q, 1, none⟩ (.slice awg5 (i + 1) cwg5) = x := ⟨_, rfl⟩
                  rw [hw] at hfa ⊢
                  have HFwg6 := Lib.hid hfa
                  clear hfa hw cx0 cx1
                  refine hK.out _ _ ?_
                  clear hK K
                  go_simp
                  clear hHeld
                  refine wpAnyL_done (by kernel_rfl) ?_ _
                  have HL2 : Hid ((is ++ [(⟨nt, hashS 8 [y.seed], y.number, j, pth, false⟩ : SpentM)]).length = i + 1) := by show _ = _; rw [List.length_append, HIL.out]; rfl
                  have hq1 := HSL.out
                  have hq2 := HLQ.out
                  have hq3 := HSM.out.2.1
                  go_wp2_with fail
                  go_roundw
                  case rel => exact ⟨i + 1, is ++ [(⟨nt, hashS 8 [y.seed], y.number, j, pth, false⟩ : SpentM)], _, _, HLQ.out, by go_num, HFwg6.out.drop i0, HL2⟩
                  case measure => simp [intOf]; omega
                · skip
                  go_simp
                  refine (spend_any _ y.seed HOK.out.seed).mono ?_
                  rintro E wg7 ⟨rfl, hb⟩
                  have HFwg7 := Lib.hid (HFwg0.out.keepB hb)
                  clear hHeld hb
                  refine hK.out _ _ (⟨⟨HFwg7.out.box i0, HFwg7.out.box i7, trivial⟩, (note_range (HFwg7.out.get i2) j HNT.out).1, trivial⟩) (fun hHeld => ?_)
                  clear hK K
                  go_simp
                  refine rd2L 1 19 rfl rfl (fun K hK => ?_) (fun K hK => ?_)
                  · skip
                    have cx0 := (box_cells (HFwg7.out.box i5)).1
                    go_simp
                    have hS2 := Lib.hid hHeld
                    clear hHeld cx0
                    refine hK.out _ _ hS2.out (fun hHeld => ?_)
                    clear hK K hS2
                    go_simp
                    refine rd1L 19 rfl (fun K hK => ?_)
                    go_simp
                    refine (path37_len _ al k cl ls HLN.out.1 (by have := HN8.out; omega) _ D HD.out.1 HD.out.2.2 j (by have := HJ.out; have := HN8.out; omega) _ (own_nums (HFwg7.out.get i1))).mono ?_
                    rintro E wg9 ⟨⟨pth, pa, pc, hpl, rfl, hpr⟩, hb⟩
                    have HFwg9 := Lib.hid (HFwg7.out.new (A := repA numsR [.slice pa D pc] pth) hb hpr)
                    have HPL : Hid ((SpentM.path ⟨nt, hashS 8 [y.seed], y.number, j, pth, false⟩).length = D) := hpl
                    have HSO : Hid (SpentOk ⟨nt, hashS 8 [y.seed], y.number, j, pth, false⟩) := ⟨HNO.out, hashS_ok _ _, HOK.out.number, HJI.out⟩
                    clear hHeld hb hpl hpr
                    refine hK.out _ _ (⟨⟨HFwg9.out.box i1, HFwg9.out.box i8, trivial⟩, (note_range (HFwg9.out.get i3) j HNT.out).1, trivial⟩) (fun hHeld => ?_)
                    clear hK K
                    go_simp
                    refine tkVL 20 rfl (fun wz hSz => by go_simp; all_goals with_reducible rfl) ?_
                    go_simp
                    refine rd1L 21 rfl (fun K hK => ?_)
                    go_simp
                    have hfa := (HFwg9.out.map i0 (A' := repA spentR [.int .u64 nt.value, .int .u64 nt.owner, .int .u64 nt.rho, .int .u64 nt.blind, .int .u64 (hashS 8 [y.seed]), .int .i64 y.number, .int .i64 j, .slice pa D pc, .bool false] ⟨nt, hashS 8 [y.seed], y.number, j, pth, false⟩) (fun _ h => spentR_mk' HSO.out HPL.out h)).keepB (bnew (Below.refl _ _) (.cells #[.int .u64 nt.value, .int .u64 nt.owner, .int .u64 nt.rho, .int .u64 nt.blind, .int .u64 (hashS 8 [y.seed]), .int .i64 y.number, .int .i64 j, .slice pa D pc, .bool false] 58))
                    have hcu : CellsAt (wg9.alloc (.cells #[.int .u64 nt.value, .int .u64 nt.owner, .int .u64 nt.rho, .int .u64 nt.blind, .int .u64 (hashS 8 [y.seed]), .int .i64 y.number, .int .i64 j, .slice pa D pc, .bool false] 58)) wg9.heap.size 0 [.int .u64 nt.value, .int .u64 nt.owner, .int .u64 nt.rho, .int .u64 nt.blind, .int .u64 (hashS 8 [y.seed]), .int .i64 y.number, .int .i64 j, .slice pa D pc, .bool false] := CellsAt.new _ [.int .u64 nt.value, .int .u64 nt.owner, .int .u64 nt.rho, .int .u64 nt.blind, .int .u64 (hashS 8 [y.seed]), .int .i64 y.number, .int .i64 j, .slice pa D pc, .bool false] 58
                    obtain ⟨bu, hbu⟩ : ∃ x, wg9.heap.size = x := ⟨_, rfl⟩
                    rw [hbu] at hcu
                    try rw [hbu]
                    obtain ⟨wg10, hw⟩ : ∃ x, wg9.alloc (.cells #[.int .u64 nt.value, .int .u64 nt.owner, .int .u64 nt.rho, .int .u64 nt.blind, .int .u64 (hashS 8 [y.seed]), .int .i64 y.number, .int .i64 j, .slice pa D pc, .bool false] 58) = x := ⟨_, rfl⟩
                    rw [hw] at hfa hcu ⊢
                    have HFwg10 := Lib.hid hfa
                    have HCUwg10 := Lib.hid hcu
                    clear hHeld hfa hcu hw hbu
                    refine hK.out _ _ (⟨⟨HFwg10.out.box i1, HFwg10.out.box i8, trivial⟩, (note_range (HFwg10.out.get i3) j HNT.out).1, trivial⟩) (fun hHeld => ?_)
                    clear hK K
                    go_simp
                    refine rd1L 22 rfl (fun K hK => ?_)
                    refine step_appF rfl _ _ rfl Tryz.etySpent HFwg10.out i3 HCUwg10.out rfl rfl (HIL.out) (by have := HSL.out; unfold maxLen; omega) (by have := HSL.out; omega) (Nat.zero_le _) ?_
                    intro awg11 cwg11 wg11 hfa
                    have HFwg11 := Lib.hid hfa
                    clear hHeld hfa
                    refine hK.out _ _ (⟨⟨HFwg11.out.box i0, HFwg11.out.box i7, trivial⟩, (note_range (HFwg11.out.get i2) j HNT.out).1, trivial⟩) (fun hHeld => ?_)
                    clear hK K
                    go_simp
                    refine tkVL 23 rfl (fun wz hSz => by go_simp; all_goals with_reducible rfl) ?_
                    go_simp
                    refine rdL rfl (fun K hK => ?_)
                    obtain ⟨cx0, cx1⟩ := box_cells (HFwg11.out.box i5)
                    go_simp
                    have hfa := HFwg11.out.set i5 1 (.slice awg11 (i + 1) cwg11)
                    obtain ⟨wg12, hw⟩ : ∃ x, wg11.setCell ⟨Q, 1, none⟩ (.slice awg11 (i + 1) cwg11) = x := ⟨_, rfl⟩
                    rw [hw] at hfa ⊢
                    have HFwg12 := Lib.hid hfa
                    clear hfa hw cx0 cx1
                    refine hK.out _ _ ?_
                    clear hK K
                    go_simp
                    clear hHeld
                    refine wpAnyL_done (by kernel_rfl) ?_ _
                    have HL2 : Hid ((is ++ [(⟨nt, hashS 8 [y.seed], y.number, j, pth, false⟩ : SpentM)]).length = i + 1) := by show _ = _; rw [List.length_append, HIL.out]; rfl
                    have hq1 := HSL.out
                    have hq2 := HLQ.out
                    have hq3 := HSM.out.2.1
                    go_wp2_with fail
                    go_roundw
                    case rel => exact ⟨i + 1, is ++ [(⟨nt, hashS 8 [y.seed], y.number, j, pth, false⟩ : SpentM)], _, _, HLQ.out, by go_num, HFwg12.out.drop i0, HL2⟩
                    case measure => simp [intOf]; omega
                  · skip
                    go_simp
                    refine (path37_len _ al k cl ls HLN.out.1 (by have := HN8.out; omega) _ D HD.out.1 HD.out.2.2 j (by have := HJ.out; have := HN8.out; omega) _ (own_nums (HFwg7.out.get i1))).mono ?_
                    rintro E wg13 ⟨⟨pth, pa, pc, hpl, rfl, hpr⟩, hb⟩
                    have HFwg13 := Lib.hid (HFwg7.out.new (A := repA numsR [.slice pa D pc] pth) hb hpr)
                    have HPL : Hid ((SpentM.path ⟨nt, hashS 8 [y.seed], y.number, j, pth, false⟩).length = D) := hpl
                    have HSO : Hid (SpentOk ⟨nt, hashS 8 [y.seed], y.number, j, pth, false⟩) := ⟨HNO.out, hashS_ok _ _, HOK.out.number, HJI.out⟩
                    clear hHeld hb hpl hpr
                    refine hK.out _ _ (⟨⟨HFwg13.out.box i1, HFwg13.out.box i8, trivial⟩, (note_range (HFwg13.out.get i3) j HNT.out).1, trivial⟩) (fun hHeld => ?_)
                    clear hK K
                    go_simp
                    refine tkVL 20 rfl (fun wz hSz => by go_simp; all_goals with_reducible rfl) ?_
                    go_simp
                    refine rd2L 1 21 rfl rfl (fun K hK => ?_) (fun K hK => ?_)
                    · skip
                      have cx0 := (box_cells (HFwg13.out.box i6)).1
                      go_simp
                      have hS2 := Lib.hid hHeld
                      clear hHeld cx0
                      refine hK.out _ _ hS2.out (fun hHeld => ?_)
                      clear hK K hS2
                      go_simp
                      refine rd1L 21 rfl (fun K hK => ?_)
                      go_simp
                      have hfa := (HFwg13.out.map i0 (A' := repA spentR [.int .u64 nt.value, .int .u64 nt.owner, .int .u64 nt.rho, .int .u64 nt.blind, .int .u64 (hashS 8 [y.seed]), .int .i64 y.number, .int .i64 j, .slice pa D pc, .bool false] ⟨nt, hashS 8 [y.seed], y.number, j, pth, false⟩) (fun _ h => spentR_mk' HSO.out HPL.out h)).keepB (bnew (Below.refl _ _) (.cells #[.int .u64 nt.value, .int .u64 nt.owner, .int .u64 nt.rho, .int .u64 nt.blind, .int .u64 (hashS 8 [y.seed]), .int .i64 y.number, .int .i64 j, .slice pa D pc, .bool false] 58))
                      have hcu : CellsAt (wg13.alloc (.cells #[.int .u64 nt.value, .int .u64 nt.owner, .int .u64 nt.rho, .int .u64 nt.blind, .int .u64 (hashS 8 [y.seed]), .int .i64 y.number, .int .i64 j, .slice pa D pc, .bool false] 58)) wg13.heap.size 0 [.int .u64 nt.value, .int .u64 nt.owner, .int .u64 nt.rho, .int .u64 nt.blind, .int .u64 (hashS 8 [y.seed]), .int .i64 y.number, .int .i64 j, .slice pa D pc, .bool false] := CellsAt.new _ [.int .u64 nt.value, .int .u64 nt.owner, .int .u64 nt.rho, .int .u64 nt.blind, .int .u64 (hashS 8 [y.seed]), .int .i64 y.number, .int .i64 j, .slice pa D pc, .bool false] 58
                      obtain ⟨bu, hbu⟩ : ∃ x, wg13.heap.size = x := ⟨_, rfl⟩
                      rw [hbu] at hcu
                      try rw [hbu]
                      obtain ⟨wg15, hw⟩ : ∃ x, wg13.alloc (.cells #[.int .u64 nt.value, .int .u64 nt.owner, .int .u64 nt.rho, .int .u64 nt.blind, .int .u64 (hashS 8 [y.seed]), .int .i64 y.number, .int .i64 j, .slice pa D pc, .bool false] 58) = x := ⟨_, rfl⟩
                      rw [hw] at hfa hcu ⊢
                      have HFwg15 := Lib.hid hfa
                      have HCUwg15 := Lib.hid hcu
                      clear hHeld hfa hcu hw hbu
                      refine hK.out _ _ (⟨⟨HFwg15.out.box i1, HFwg15.out.box i8, trivial⟩, (note_range (HFwg15.out.get i3) j HNT.out).1, trivial⟩) (fun hHeld => ?_)
                      clear hK K
                      go_simp
                      refine rd1L 22 rfl (fun K hK => ?_)
                      refine step_appF rfl _ _ rfl Tryz.etySpent HFwg15.out i3 HCUwg15.out rfl rfl (HIL.out) (by have := HSL.out; unfold maxLen; omega) (by have := HSL.out; omega) (Nat.zero_le _) ?_
                      intro awg16 cwg16 wg16 hfa
                      have HFwg16 := Lib.hid hfa
                      clear hHeld hfa
                      refine hK.out _ _ (⟨⟨HFwg16.out.box i0, HFwg16.out.box i7, trivial⟩, (note_range (HFwg16.out.get i2) j HNT.out).1, trivial⟩) (fun hHeld => ?_)
                      clear hK K
                      go_simp
                      refine tkVL 23 rfl (fun wz hSz => by go_simp; all_goals with_reducible rfl) ?_
                      go_simp
                      refine rdL rfl (fun K hK => ?_)
                      obtain ⟨cx0, cx1⟩ := box_cells (HFwg16.out.box i5)
                      go_simp
                      have hfa := HFwg16.out.set i5 1 (.slice awg16 (i + 1) cwg16)
                      obtain ⟨wg17, hw⟩ : ∃ x, wg16.setCell ⟨Q, 1, none⟩ (.slice awg16 (i + 1) cwg16) = x := ⟨_, rfl⟩
                      rw [hw] at hfa ⊢
                      have HFwg17 := Lib.hid hfa
                      clear hfa hw cx0 cx1
                      refine hK.out _ _ ?_
                      clear hK K
                      go_simp
                      clear hHeld
                      refine wpAnyL_done (by kernel_rfl) ?_ _
                      have HL2 : Hid ((is ++ [(⟨nt, hashS 8 [y.seed], y.number, j, pth, false⟩ : SpentM)]).length = i + 1) := by show _ = _; rw [List.length_append, HIL.out]; rfl
                      have hq1 := HSL.out
                      have hq2 := HLQ.out
                      have hq3 := HSM.out.2.1
                      go_wp2_with fail
                      go_roundw
                      case rel => exact ⟨i + 1, is ++ [(⟨nt, hashS 8 [y.seed], y.number, j, pth, false⟩ : SpentM)], _, _, HLQ.out, by go_num, HFwg17.out.drop i0, HL2⟩
                      case measure => simp [intOf]; omega
                    · skip
                      go_simp
                      have hfa := (HFwg13.out.map i0 (A' := repA spentR [.int .u64 nt.value, .int .u64 nt.owner, .int .u64 nt.rho, .int .u64 nt.blind, .int .u64 (hashS 8 [y.seed]), .int .i64 y.number, .int .i64 j, .slice pa D pc, .bool false] ⟨nt, hashS 8 [y.seed], y.number, j, pth, false⟩) (fun _ h => spentR_mk' HSO.out HPL.out h)).keepB (bnew (Below.refl _ _) (.cells #[.int .u64 nt.value, .int .u64 nt.owner, .int .u64 nt.rho, .int .u64 nt.blind, .int .u64 (hashS 8 [y.seed]), .int .i64 y.number, .int .i64 j, .slice pa D pc, .bool false] 58))
                      have hcu : CellsAt (wg13.alloc (.cells #[.int .u64 nt.value, .int .u64 nt.owner, .int .u64 nt.rho, .int .u64 nt.blind, .int .u64 (hashS 8 [y.seed]), .int .i64 y.number, .int .i64 j, .slice pa D pc, .bool false] 58)) wg13.heap.size 0 [.int .u64 nt.value, .int .u64 nt.owner, .int .u64 nt.rho, .int .u64 nt.blind, .int .u64 (hashS 8 [y.seed]), .int .i64 y.number, .int .i64 j, .slice pa D pc, .bool false] := CellsAt.new _ [.int .u64 nt.value, .int .u64 nt.owner, .int .u64 nt.rho, .int .u64 nt.blind, .int .u64 (hashS 8 [y.seed]), .int .i64 y.number, .int .i64 j, .slice pa D pc, .bool false] 58
                      obtain ⟨bu, hbu⟩ : ∃ x, wg13.heap.size = x := ⟨_, rfl⟩
                      rw [hbu] at hcu
                      try rw [hbu]
                      obtain ⟨wg18, hw⟩ : ∃ x, wg13.alloc (.cells #[.int .u64 nt.value, .int .u64 nt.owner, .int .u64 nt.rho, .int .u64 nt.blind, .int .u64 (hashS 8 [y.seed]), .int .i64 y.number, .int .i64 j, .slice pa D pc, .bool false] 58) = x := ⟨_, rfl⟩
                      rw [hw] at hfa hcu ⊢
                      have HFwg18 := Lib.hid hfa
                      have HCUwg18 := Lib.hid hcu
                      clear hHeld hfa hcu hw hbu
                      refine hK.out _ _ (⟨⟨HFwg18.out.box i1, HFwg18.out.box i8, trivial⟩, (note_range (HFwg18.out.get i3) j HNT.out).1, trivial⟩) (fun hHeld => ?_)
                      clear hK K
                      go_simp
                      refine rd1L 1 rfl (fun K hK => ?_)
                      have cx0 := (box_cells (HFwg18.out.box i6)).1
                      go_simp
                      have hS2 := Lib.hid hHeld
                      clear hHeld cx0
                      refine hK.out _ _ hS2.out (fun hHeld => ?_)
                      clear hK K hS2
                      go_simp
                      refine rd1L 22 rfl (fun K hK => ?_)
                      refine step_appF rfl _ _ rfl Tryz.etySpent HFwg18.out i3 HCUwg18.out rfl rfl (HIL.out) (by have := HSL.out; unfold maxLen; omega) (by have := HSL.out; omega) (Nat.zero_le _) ?_
                      intro awg20 cwg20 wg20 hfa
                      have HFwg20 := Lib.hid hfa
                      clear hHeld hfa
                      refine hK.out _ _ (⟨⟨HFwg20.out.box i0, HFwg20.out.box i7, trivial⟩, (note_range (HFwg20.out.get i2) j HNT.out).1, trivial⟩) (fun hHeld => ?_)
                      clear hK K
                      go_simp
                      refine tkVL 23 rfl (fun wz hSz => by go_simp; all_goals with_reducible rfl) ?_
                      go_simp
                      refine rdL rfl (fun K hK => ?_)
                      obtain ⟨cx0, cx1⟩ := box_cells (HFwg20.out.box i5)
                      go_simp
                      have hfa := HFwg20.out.set i5 1 (.slice awg20 (i + 1) cwg20)
                      obtain ⟨wg21, hw⟩ : ∃ x, wg20.setCell ⟨Q, 1, none⟩ (.slice awg20 (i + 1) cwg20) = x := ⟨_, rfl⟩
                      rw [hw] at hfa ⊢
                      have HFwg21 := Lib.hid hfa
                      clear hfa hw cx0 cx1
                      refine hK.out _ _ ?_
                      clear hK K
                      go_simp
                      clear hHeld
                      refine wpAnyL_done (by kernel_rfl) ?_ _
                      have HL2 : Hid ((is ++ [(⟨nt, hashS 8 [y.seed], y.number, j, pth, false⟩ : SpentM)]).length = i + 1) := by show _ = _; rw [List.length_append, HIL.out]; rfl
                      have hq1 := HSL.out
                      have hq2 := HLQ.out
                      have hq3 := HSM.out.2.1
                      go_wp2_with fail
                      go_roundw
                      case rel => exact ⟨i + 1, is ++ [(⟨nt, hashS 8 [y.seed], y.number, j, pth, false⟩ : SpentM)], _, _, HLQ.out, by go_num, HFwg21.out.drop i0, HL2⟩
                      case measure => simp [intOf]; omega
            · obtain ⟨s, hs⟩ : ∃ s, c.spend.length = s := ⟨_, rfl⟩
              have hge : i = s := by omega
              subst hge
              have HS := Lib.hid hs
              clear hi hs
              obtain ⟨x0, x1⟩ := box_cells (HFK.out.box i6)
              go_wp2_with fail
              clear x0 x1 hlt
              go_loopw [144] (fun vi wr => ∃ (k2 ni : Nat) (is : List SpentM) (ai : Option Addr) (ci : Nat), k2 ≤ c.dums.length ∧ vi = .int .i64 k2 ∧ Hid (Fr (SuL w c x Q p m ls ns is [] an k ni 0 al aN ai none cl cN ci 0) (fun _ => False) w wr) ∧ Hid (is.length = ni ∧ ni = i + k2)) (fun vi _ => c.dums.length - (intOf vi).toNat)
              case atStart => exact ⟨0, i, is, ai, ci, Nat.zero_le _, rfl, HFK, HIL.out, rfl⟩
              case round =>
                clear HFK HIL
                obtain ⟨k2, ni, is, ai, ci, hk2, rfl, HFK, HIL⟩ := hrel
                by_cases hlt : k2 < c.dums.length
                · have HAR := Lib.hid (HA.out.keep (HFK.out.kept.mono fun _ _ _ h => h))
                  have har := HAR.out.dums
                  obtain ⟨b, off, hda, hbl, e0, e1, ce⟩ := nums_at har k2 hlt
                  obtain ⟨v, hv⟩ : ∃ x, c.dums[k2] = x := ⟨_, rfl⟩
                  rw [hv] at e0 e1 ce
                  have HV : Hid (okU v) := okU_of e0 e1
                  have HLQ := Lib.hid hlt
                  have HN2 : Hid (ni < 10 ∧ k2 < 5) := by have h1 := HIL.out.2; have h2 := HSM.out; have h3 := HS.out; show _ ∧ _; omega
                  clear hv har hk2
                  go_upto_region 30 with (fail)
                  clear e0 e1 ce hbl hda hlt HAR
                  have hq0 := HN2.out
                  have HFwg00 := Lib.hid (HFK.out.drew)
                  have hS0 : Hid ((Held [(w.heap.size, caC c x, 32)] []) wr.drew) := Held.keepB (⟨⟨HFK.out.box i6, trivial⟩, trivial⟩) (Below.refl _ _).drew
                  refine wp_region_last 10 (S := (Held [(w.heap.size, caC c x, 32)] [])) (by kernel_rfl) hS0.out (fun hHeld => ?_)
                  obtain ⟨wg0, hwd⟩ : ∃ x, wr.drew = x := ⟨_, rfl⟩
                  rw [hwd] at hHeld HFwg00 ⊢
                  have HFwg0 := HFwg00
                  clear hwd HFwg00 hS0
                  go_simp
                  refine tkVL 0 rfl (fun wz hSz => by go_simp; all_goals with_reducible rfl) ?_
                  go_simp
                  refine tkVL 2 rfl (fun wz hSz => by go_simp; all_goals with_reducible rfl) ?_
                  go_simp
                  refine tkVL 3 rfl (fun wz hSz => by go_simp; all_goals with_reducible rfl) ?_
                  go_simp
                  refine tkVL 4 rfl (fun wz hSz => by go_simp; all_goals with_reducible rfl) ?_
                  go_simp
                  refine tkVL 5 rfl (fun wz hSz => by have cx := (box_cells hSz.b.1).1; go_simp; all_goals with_reducible rfl) ?_
                  go_simp
                  refine rd2L 1 6 rfl rfl (fun K hK => ?_) (fun K hK => ?_)
                  · skip
                    have cx0 := (box_cells (HFwg0.out.box i4)).1
                    go_simp
                    have hS2 := Lib.hid hHeld
                    clear hHeld cx0
                    refine hK.out _ _ hS2.out (fun hHeld => ?_)
                    clear hK K hS2
                    go_simp
                    refine rd1L 6 rfl (fun K hK => ?_)
                    go_simp
                    refine (dummy_lit _ v HV.out _ D HD.out.1 HD.out.2.1 (by have := HD.out.2.2; omega)).mono ?_
                    rintro E wg2 ⟨⟨da, dc, rfl, hpr⟩, hb⟩
                    have HFwg2 := Lib.hid (HFwg0.out.new (A := repA numsR [.slice da D dc] (List.replicate D 0)) hb hpr)
                    clear hHeld hb hpr
                    refine hK.out _ _ (⟨⟨HFwg2.out.box i7, trivial⟩, trivial⟩) (fun hHeld => ?_)
                    clear hK K
                    go_simp
                    refine rd1L 7 rfl (fun K hK => ?_)
                    go_simp
                    have hfa := (HFwg2.out.map i0 (A' := repA spentR [.int .u64 0, .int .u64 (ownerS (hashS 22 [v, 0]) 0), .int .u64 (hashS 22 [v, 1]), .int .u64 (hashS 22 [v, 2]), .int .u64 (hashS 22 [v, 0]), .int .i64 0, .int .i64 0, .slice da D dc, .bool true] (dumS v D)) (fun _ h => spentR_mk' (dumS_ok v D) (List.length_replicate ..) h)).keepB (bnew (Below.refl _ _) (.cells #[.int .u64 0, .int .u64 (ownerS (hashS 22 [v, 0]) 0), .int .u64 (hashS 22 [v, 1]), .int .u64 (hashS 22 [v, 2]), .int .u64 (hashS 22 [v, 0]), .int .i64 0, .int .i64 0, .slice da D dc, .bool true] 58))
                    have hcu : CellsAt (wg2.alloc (.cells #[.int .u64 0, .int .u64 (ownerS (hashS 22 [v, 0]) 0), .int .u64 (hashS 22 [v, 1]), .int .u64 (hashS 22 [v, 2]), .int .u64 (hashS 22 [v, 0]), .int .i64 0, .int .i64 0, .slice da D dc, .bool true] 58)) wg2.heap.size 0 [.int .u64 0, .int .u64 (ownerS (hashS 22 [v, 0]) 0), .int .u64 (hashS 22 [v, 1]), .int .u64 (hashS 22 [v, 2]), .int .u64 (hashS 22 [v, 0]), .int .i64 0, .int .i64 0, .slice da D dc, .bool true] := CellsAt.new _ [.int .u64 0, .int .u64 (ownerS (hashS 22 [v, 0]) 0), .int .u64 (hashS 22 [v, 1]), .int .u64 (hashS 22 [v, 2]), .int .u64 (hashS 22 [v, 0]), .int .i64 0, .int .i64 0, .slice da D dc, .bool true] 58
                    obtain ⟨bu, hbu⟩ : ∃ x, wg2.heap.size = x := ⟨_, rfl⟩
                    rw [hbu] at hcu
                    try rw [hbu]
                    obtain ⟨wg3, hw⟩ : ∃ x, wg2.alloc (.cells #[.int .u64 0, .int .u64 (ownerS (hashS 22 [v, 0]) 0), .int .u64 (hashS 22 [v, 1]), .int .u64 (hashS 22 [v, 2]), .int .u64 (hashS 22 [v, 0]), .int .i64 0, .int .i64 0, .slice da D dc, .bool true] 58) = x := ⟨_, rfl⟩
                    rw [hw] at hfa hcu ⊢
                    have HFwg3 := Lib.hid hfa
                    have HCUwg3 := Lib.hid hcu
                    clear hHeld hfa hcu hw hbu
                    refine hK.out _ _ (⟨⟨HFwg3.out.box i7, trivial⟩, trivial⟩) (fun hHeld => ?_)
                    clear hK K
                    go_simp
                    refine rd1L 8 rfl (fun K hK => ?_)
                    refine step_appF rfl _ _ rfl Tryz.etySpent HFwg3.out i2 HCUwg3.out rfl rfl (HIL.out.1) (by have := HN2.out; unfold maxLen; omega) (by have := HN2.out; omega) (Nat.zero_le _) ?_
                    intro awg4 cwg4 wg4 hfa
                    have HFwg4 := Lib.hid hfa
                    clear hHeld hfa
                    refine hK.out _ _ (⟨⟨HFwg4.out.box i6, trivial⟩, trivial⟩) (fun hHeld => ?_)
                    clear hK K
                    go_simp
                    refine tkVL 9 rfl (fun wz hSz => by go_simp; all_goals with_reducible rfl) ?_
                    go_simp
                    refine rdL rfl (fun K hK => ?_)
                    obtain ⟨cx0, cx1⟩ := box_cells (HFwg4.out.box i4)
                    go_simp
                    have hfa := HFwg4.out.set i4 1 (.slice awg4 (ni + 1) cwg4)
                    obtain ⟨wg5, hw⟩ : ∃ x, wg4.setCell ⟨Q, 1, none⟩ (.slice awg4 (ni + 1) cwg4) = x := ⟨_, rfl⟩
                    rw [hw] at hfa ⊢
                    have HFwg5 := Lib.hid hfa
                    clear hfa hw cx0 cx1
                    refine hK.out _ _ ?_
                    clear hK K
                    go_simp
                    clear hHeld
                    refine wpAnyL_done (by kernel_rfl) ?_ _
                    have HL2 : Hid ((is ++ [(dumS v D)]).length = ni + 1 ∧ ni + 1 = i + (k2 + 1)) := ⟨by rw [List.length_append, HIL.out.1]; rfl, by rw [HIL.out.2]; rfl⟩
                    have hq2 := HLQ.out
                    have hq3 := HSM.out.2.2.1
                    go_wp2_with fail
                    go_roundw
                    case rel => exact ⟨k2 + 1, ni + 1, is ++ [(dumS v D)], _, _, HLQ.out, by go_num, HFwg5, HL2⟩
                    case measure => simp [intOf]; omega
                  · skip
                    go_simp
                    refine (dummy_lit _ v HV.out _ D HD.out.1 HD.out.2.1 (by have := HD.out.2.2; omega)).mono ?_
                    rintro E wg6 ⟨⟨da, dc, rfl, hpr⟩, hb⟩
                    have HFwg6 := Lib.hid (HFwg0.out.new (A := repA numsR [.slice da D dc] (List.replicate D 0)) hb hpr)
                    clear hHeld hb hpr
                    refine hK.out _ _ (⟨⟨HFwg6.out.box i7, trivial⟩, trivial⟩) (fun hHeld => ?_)
                    clear hK K
                    go_simp
                    refine rd2L 1 7 rfl rfl (fun K hK => ?_) (fun K hK => ?_)
                    · skip
                      have cx0 := (box_cells (HFwg6.out.box i5)).1
                      go_simp
                      have hS2 := Lib.hid hHeld
                      clear hHeld cx0
                      refine hK.out _ _ hS2.out (fun hHeld => ?_)
                      clear hK K hS2
                      go_simp
                      refine rd1L 7 rfl (fun K hK => ?_)
                      go_simp
                      have hfa := (HFwg6.out.map i0 (A' := repA spentR [.int .u64 0, .int .u64 (ownerS (hashS 22 [v, 0]) 0), .int .u64 (hashS 22 [v, 1]), .int .u64 (hashS 22 [v, 2]), .int .u64 (hashS 22 [v, 0]), .int .i64 0, .int .i64 0, .slice da D dc, .bool true] (dumS v D)) (fun _ h => spentR_mk' (dumS_ok v D) (List.length_replicate ..) h)).keepB (bnew (Below.refl _ _) (.cells #[.int .u64 0, .int .u64 (ownerS (hashS 22 [v, 0]) 0), .int .u64 (hashS 22 [v, 1]), .int .u64 (hashS 22 [v, 2]), .int .u64 (hashS 22 [v, 0]), .int .i64 0, .int .i64 0, .slice da D dc, .bool true] 58))
                      have hcu : CellsAt (wg6.alloc (.cells #[.int .u64 0, .int .u64 (ownerS (hashS 22 [v, 0]) 0), .int .u64 (hashS 22 [v, 1]), .int .u64 (hashS 22 [v, 2]), .int .u64 (hashS 22 [v, 0]), .int .i64 0, .int .i64 0, .slice da D dc, .bool true] 58)) wg6.heap.size 0 [.int .u64 0, .int .u64 (ownerS (hashS 22 [v, 0]) 0), .int .u64 (hashS 22 [v, 1]), .int .u64 (hashS 22 [v, 2]), .int .u64 (hashS 22 [v, 0]), .int .i64 0, .int .i64 0, .slice da D dc, .bool true] := CellsAt.new _ [.int .u64 0, .int .u64 (ownerS (hashS 22 [v, 0]) 0), .int .u64 (hashS 22 [v, 1]), .int .u64 (hashS 22 [v, 2]), .int .u64 (hashS 22 [v, 0]), .int .i64 0, .int .i64 0, .slice da D dc, .bool true] 58
                      obtain ⟨bu, hbu⟩ : ∃ x, wg6.heap.size = x := ⟨_, rfl⟩
                      rw [hbu] at hcu
                      try rw [hbu]
                      obtain ⟨wg8, hw⟩ : ∃ x, wg6.alloc (.cells #[.int .u64 0, .int .u64 (ownerS (hashS 22 [v, 0]) 0), .int .u64 (hashS 22 [v, 1]), .int .u64 (hashS 22 [v, 2]), .int .u64 (hashS 22 [v, 0]), .int .i64 0, .int .i64 0, .slice da D dc, .bool true] 58) = x := ⟨_, rfl⟩
                      rw [hw] at hfa hcu ⊢
                      have HFwg8 := Lib.hid hfa
                      have HCUwg8 := Lib.hid hcu
                      clear hHeld hfa hcu hw hbu
                      refine hK.out _ _ (⟨⟨HFwg8.out.box i7, trivial⟩, trivial⟩) (fun hHeld => ?_)
                      clear hK K
                      go_simp
                      refine rd1L 8 rfl (fun K hK => ?_)
                      refine step_appF rfl _ _ rfl Tryz.etySpent HFwg8.out i2 HCUwg8.out rfl rfl (HIL.out.1) (by have := HN2.out; unfold maxLen; omega) (by have := HN2.out; omega) (Nat.zero_le _) ?_
                      intro awg9 cwg9 wg9 hfa
                      have HFwg9 := Lib.hid hfa
                      clear hHeld hfa
                      refine hK.out _ _ (⟨⟨HFwg9.out.box i6, trivial⟩, trivial⟩) (fun hHeld => ?_)
                      clear hK K
                      go_simp
                      refine tkVL 9 rfl (fun wz hSz => by go_simp; all_goals with_reducible rfl) ?_
                      go_simp
                      refine rdL rfl (fun K hK => ?_)
                      obtain ⟨cx0, cx1⟩ := box_cells (HFwg9.out.box i4)
                      go_simp
                      have hfa := HFwg9.out.set i4 1 (.slice awg9 (ni + 1) cwg9)
                      obtain ⟨wg10, hw⟩ : ∃ x, wg9.setCell ⟨Q, 1, none⟩ (.slice awg9 (ni + 1) cwg9) = x := ⟨_, rfl⟩
                      rw [hw] at hfa ⊢
                      have HFwg10 := Lib.hid hfa
                      clear hfa hw cx0 cx1
                      refine hK.out _ _ ?_
                      clear hK K
                      go_simp
                      clear hHeld
                      refine wpAnyL_done (by kernel_rfl) ?_ _
                      have HL2 : Hid ((is ++ [(dumS v D)]).length = ni + 1 ∧ ni + 1 = i + (k2 + 1)) := ⟨by rw [List.length_append, HIL.out.1]; rfl, by rw [HIL.out.2]; rfl⟩
                      have hq2 := HLQ.out
                      have hq3 := HSM.out.2.2.1
                      go_wp2_with fail
                      go_roundw
                      case rel => exact ⟨k2 + 1, ni + 1, is ++ [(dumS v D)], _, _, HLQ.out, by go_num, HFwg10, HL2⟩
                      case measure => simp [intOf]; omega
                    · skip
                      go_simp
                      have hfa := (HFwg6.out.map i0 (A' := repA spentR [.int .u64 0, .int .u64 (ownerS (hashS 22 [v, 0]) 0), .int .u64 (hashS 22 [v, 1]), .int .u64 (hashS 22 [v, 2]), .int .u64 (hashS 22 [v, 0]), .int .i64 0, .int .i64 0, .slice da D dc, .bool true] (dumS v D)) (fun _ h => spentR_mk' (dumS_ok v D) (List.length_replicate ..) h)).keepB (bnew (Below.refl _ _) (.cells #[.int .u64 0, .int .u64 (ownerS (hashS 22 [v, 0]) 0), .int .u64 (hashS 22 [v, 1]), .int .u64 (hashS 22 [v, 2]), .int .u64 (hashS 22 [v, 0]), .int .i64 0, .int .i64 0, .slice da D dc, .bool true] 58))
                      have hcu : CellsAt (wg6.alloc (.cells #[.int .u64 0, .int .u64 (ownerS (hashS 22 [v, 0]) 0), .int .u64 (hashS 22 [v, 1]), .int .u64 (hashS 22 [v, 2]), .int .u64 (hashS 22 [v, 0]), .int .i64 0, .int .i64 0, .slice da D dc, .bool true] 58)) wg6.heap.size 0 [.int .u64 0, .int .u64 (ownerS (hashS 22 [v, 0]) 0), .int .u64 (hashS 22 [v, 1]), .int .u64 (hashS 22 [v, 2]), .int .u64 (hashS 22 [v, 0]), .int .i64 0, .int .i64 0, .slice da D dc, .bool true] := CellsAt.new _ [.int .u64 0, .int .u64 (ownerS (hashS 22 [v, 0]) 0), .int .u64 (hashS 22 [v, 1]), .int .u64 (hashS 22 [v, 2]), .int .u64 (hashS 22 [v, 0]), .int .i64 0, .int .i64 0, .slice da D dc, .bool true] 58
                      obtain ⟨bu, hbu⟩ : ∃ x, wg6.heap.size = x := ⟨_, rfl⟩
                      rw [hbu] at hcu
                      try rw [hbu]
                      obtain ⟨wg11, hw⟩ : ∃ x, wg6.alloc (.cells #[.int .u64 0, .int .u64 (ownerS (hashS 22 [v, 0]) 0), .int .u64 (hashS 22 [v, 1]), .int .u64 (hashS 22 [v, 2]), .int .u64 (hashS 22 [v, 0]), .int .i64 0, .int .i64 0, .slice da D dc, .bool true] 58) = x := ⟨_, rfl⟩
                      rw [hw] at hfa hcu ⊢
                      have HFwg11 := Lib.hid hfa
                      have HCUwg11 := Lib.hid hcu
                      clear hHeld hfa hcu hw hbu
                      refine hK.out _ _ (⟨⟨HFwg11.out.box i7, trivial⟩, trivial⟩) (fun hHeld => ?_)
                      clear hK K
                      go_simp
                      refine rd1L 1 rfl (fun K hK => ?_)
                      have cx0 := (box_cells (HFwg11.out.box i5)).1
                      go_simp
                      have hS2 := Lib.hid hHeld
                      clear hHeld cx0
                      refine hK.out _ _ hS2.out (fun hHeld => ?_)
                      clear hK K hS2
                      go_simp
                      refine rd1L 8 rfl (fun K hK => ?_)
                      refine step_appF rfl _ _ rfl Tryz.etySpent HFwg11.out i2 HCUwg11.out rfl rfl (HIL.out.1) (by have := HN2.out; unfold maxLen; omega) (by have := HN2.out; omega) (Nat.zero_le _) ?_
                      intro awg13 cwg13 wg13 hfa
                      have HFwg13 := Lib.hid hfa
                      clear hHeld hfa
                      refine hK.out _ _ (⟨⟨HFwg13.out.box i6, trivial⟩, trivial⟩) (fun hHeld => ?_)
                      clear hK K
                      go_simp
                      refine tkVL 9 rfl (fun wz hSz => by go_simp; all_goals with_reducible rfl) ?_
                      go_simp
                      refine rdL rfl (fun K hK => ?_)
                      obtain ⟨cx0, cx1⟩ := box_cells (HFwg13.out.box i4)
                      go_simp
                      have hfa := HFwg13.out.set i4 1 (.slice awg13 (ni + 1) cwg13)
                      obtain ⟨wg14, hw⟩ : ∃ x, wg13.setCell ⟨Q, 1, none⟩ (.slice awg13 (ni + 1) cwg13) = x := ⟨_, rfl⟩
                      rw [hw] at hfa ⊢
                      have HFwg14 := Lib.hid hfa
                      clear hfa hw cx0 cx1
                      refine hK.out _ _ ?_
                      clear hK K
                      go_simp
                      clear hHeld
                      refine wpAnyL_done (by kernel_rfl) ?_ _
                      have HL2 : Hid ((is ++ [(dumS v D)]).length = ni + 1 ∧ ni + 1 = i + (k2 + 1)) := ⟨by rw [List.length_append, HIL.out.1]; rfl, by rw [HIL.out.2]; rfl⟩
                      have hq2 := HLQ.out
                      have hq3 := HSM.out.2.2.1
                      go_wp2_with fail
                      go_roundw
                      case rel => exact ⟨k2 + 1, ni + 1, is ++ [(dumS v D)], _, _, HLQ.out, by go_num, HFwg14, HL2⟩
                      case measure => simp [intOf]; omega
                · obtain ⟨d, hd⟩ : ∃ d, c.dums.length = d := ⟨_, rfl⟩
                  have hge : k2 = d := by omega
                  subst hge
                  have HDM := Lib.hid hd
                  clear hk2 hd
                  obtain ⟨x0, x1⟩ := box_cells (HFK.out.box i6)
                  go_wp2_with fail
                  clear x0 x1 hlt
                  go_loopw [162] (fun vi wr => ∃ (k3 : Nat) (os : List PayM) (ao : Option Addr) (co : Nat), k3 ≤ c.outs.length ∧ vi = .int .i64 k3 ∧ Hid (Fr (SuL w c x Q p m ls ns is os an k ni k3 al aN ai ao cl cN ci co) (fun _ => False) w wr) ∧ Hid (os = (c.outs.take k3).map payO)) (fun vi _ => c.outs.length - (intOf vi).toNat)
                  case atStart => exact ⟨0, [], none, 0, Nat.zero_le _, rfl, HFK, rfl⟩
                  case round =>
                    clear HFK
                    obtain ⟨k3, os, ao, co, hk3, rfl, HFK, HOL⟩ := hrel
                    have HOLN : Hid (os.length = k3) := by show _ = _; rw [HOL.out, List.length_map, List.length_take]; omega
                    by_cases hlt : k3 < c.outs.length
                    · have HAR := Lib.hid (HA.out.keep (HFK.out.kept.mono fun _ _ _ h => h))
                      have har := HAR.out.outs
                      obtain ⟨b, off, hoa, hbl, hok, c0, c1, c2⟩ := paysS_at har k3 hlt
                      have HTK : Hid ((c.outs.take (k3 + 1)).map payO = (c.outs.take k3).map payO ++ [payO c.outs[k3]]) := by show _ = _; rw [List.take_succ_eq_append_getElem hlt, List.map_append]; rfl
                      obtain ⟨y, hy⟩ : ∃ x, c.outs[k3] = x := ⟨_, rfl⟩
                      rw [hy] at hok c0 c1 c2 HTK
                      have HOK := Lib.hid hok
                      have HLQ := Lib.hid hlt
                      have HK3 : Hid (k3 < 5) := by have h2 := HSM.out; show _ < _; omega
                      clear hy har hk3 hok
                      obtain ⟨x0, x1⟩ := box_cells (HFK.out.box i6)
                      go_upto_region 35 with (fail)
                      have hfa := HFK.out.alloc (pyC y) 69
                      obtain ⟨bp, hbp⟩ : ∃ x, wr.heap.size = x := ⟨_, rfl⟩
                      rw [hbp] at hfa
                      try rw [hbp]
                      obtain ⟨wq, hwq⟩ : ∃ x, wr.alloc (.cells (pyC y) 69) = x := ⟨_, rfl⟩
                      rw [hwq] at hfa ⊢
                      have HFwq := Lib.hid hfa
                      clear hfa hbp hwq x0 x1 c0 c1 c2 HAR hbl hoa hlt HFK
                      obtain ⟨x0, x1⟩ := box_cells (HFwq.out.box i0)
                      go_wp2_with fail
                      refine (address_payO _ y HOK.out).mono ?_
                      rintro e w2 ⟨⟨er, rfl⟩, hb2⟩
                      have HPO := Lib.hid (payO_ok HOK.out)
                      have HPV : Hid (payO y = ⟨(payO y).adr, y.value⟩) := rfl
                      obtain ⟨ad, had⟩ : ∃ x, (payO y).adr = x := ⟨_, rfl⟩
                      rw [had] at HPV ⊢
                      rw [HPV.out] at HPO
                      have HF2 := Lib.hid (HFwq.out.keepB hb2)
                      clear hb2 had x0 x1 HFwq
                      obtain ⟨x0, x1⟩ := box_cells (HF2.out.box i0)
                      go_upto_region 36 with (fail)
                      have hfa := HF2.out.alloc (adC ad) 80
                      obtain ⟨bq, hbq⟩ : ∃ x, w2.heap.size = x := ⟨_, rfl⟩
                      rw [hbq] at hfa
                      try rw [hbq]
                      obtain ⟨wq3, hwq⟩ : ∃ x, w2.alloc (.cells (adC ad) 80) = x := ⟨_, rfl⟩
                      rw [hwq] at hfa ⊢
                      have HF3 := Lib.hid hfa
                      clear hfa hbq hwq x0 x1 HF2
                      obtain ⟨x0, x1⟩ := box_cells (HF3.out.box i0)
                      obtain ⟨y0, y1⟩ := box_cells (HF3.out.box i1)
                      obtain ⟨z0, z1⟩ := box_cells (HF3.out.box i6)
                      have HF4 := Lib.hid ((HF3.out.new (A := repA payR [.int .i64 ad.num, .int .u64 ad.own, .int .u64 ad.p0, .int .u64 ad.p1, .int .u64 y.value] ⟨ad, y.value⟩) (Below.refl _ _) (payR.mk HPO.out)).keepB (bnew (Below.refl _ _) (.cells #[.int .i64 ad.num, .int .u64 ad.own, .int .u64 ad.p0, .int .u64 ad.p1, .int .u64 y.value] 84)))
                      have HCU : Hid (CellsAt (wq3.alloc (.cells #[.int .i64 ad.num, .int .u64 ad.own, .int .u64 ad.p0, .int .u64 ad.p1, .int .u64 y.value] 84)) wq3.heap.size 0 [.int .i64 ad.num, .int .u64 ad.own, .int .u64 ad.p0, .int .u64 ad.p1, .int .u64 y.value]) := CellsAt.new _ [.int .i64 ad.num, .int .u64 ad.own, .int .u64 ad.p0, .int .u64 ad.p1, .int .u64 y.value] 84
                      go_wp2_with (at_builtin; refine wpList_appF (va := ao) (n := k3) (vc := co) rfl _ _ rfl Tryz.etyPay HF4.out i5 HCU.out rfl rfl HOLN.out (by have := HK3.out; unfold maxLen; omega) (by have := HK3.out; omega) (Nat.zero_le _) ?_)
                      intro a5 c5 w5 hfa
                      have HF5 := Lib.hid hfa
                      clear hfa x0 x1 y0 y1 z0 z1 HF4 HCU
                      obtain ⟨z0, z1⟩ := box_cells (HF5.out.box i6)
                      have HF6 := Lib.hid (HF5.out.set i6 2 (.slice a5 (k3 + 1) c5))
                      go_upto_region 37 with (fail)
                      generalize w5.setCell ⟨Q, 2, none⟩ (.slice a5 (k3 + 1) c5) = w6 at *
                      clear z0 z1 HF5
                      have HO2 : Hid (os ++ [(⟨ad, y.value⟩ : PayM)] = (c.outs.take (k3 + 1)).map payO) := by show _ = _; rw [HTK.out, HOL.out, HPV.out]
                      have hq2 := HLQ.out
                      have hq3 := HSM.out.2.2.2.1
                      go_wp2_with fail
                      go_roundw
                      case rel => exact ⟨k3 + 1, _, _, _, HLQ.out, by go_num, (HF6.out.drop i0).drop i0, HO2⟩
                      case measure => simp [intOf]; omega
                    · have hos : os.length = c.outs.length := by rw [HOL.out, List.length_map, List.length_take]; omega
                      have hoe : os = c.outs.map payO := by have h := HOL.out; rwa [List.take_of_length_le (by omega)] at h
                      obtain rfl : k3 = os.length := by rw [hos]; omega
                      obtain ⟨hil, hie⟩ := HIL.out
                      subst hil
                      have HOE := Lib.hid hoe
                      have HOS := Lib.hid hos
                      have HIE := Lib.hid hie
                      have HLI : Hid (is.length ≤ 10) := by have h1 := HSM.out; have h2 := HS.out; have h3 := HDM.out; show _ ≤ _; omega
                      have HLO : Hid (os.length ≤ 5) := by have h1 := HSM.out; show _ ≤ _; omega
                      clear hk3 hos hoe hie HOL HOLN HIL
                      obtain ⟨x0, x1⟩ := box_cells (HFK.out.box i6)
                      go_wp2_with fail
                      refine (spoil_none wr Q an c.dep c.wd c.fee (accOf c) c.nonce (secOf c) c.seed c.exp c.by_ c.spoil HSP.out ai ao is.length ci os.length co (own_at (HFK.out.get i2) rfl) (by have := HLI.out; omega) (own_at (HFK.out.get i3) rfl) (by have := HLO.out; omega) (HFK.out.box i4)).mono ?_
                      rintro e w5 ⟨rfl, hb5⟩
                      have HF5 := Lib.hid (HFK.out.keepB hb5)
                      clear hb5 x0 x1 hlt HFK
                      go_upto_region 39 with (fail)
                      have HFwg00 := Lib.hid (HF5.out.drew)
                      have hS0 : Hid ((Held [(Q, rqC an c.dep c.wd c.fee (accOf c) c.nonce (secOf c) c.seed c.exp ai ao is.length ci os.length co, 39)] []) w5.drew) := Held.keepB (⟨⟨HF5.out.box i4, trivial⟩, trivial⟩) (Below.refl _ _).drew
                      refine wp_region_held_drew (S := (Held [(Q, rqC an c.dep c.wd c.fee (accOf c) c.nonce (secOf c) c.seed c.exp ai ao is.length ci os.length co, 39)] [])) (by kernel_rfl) hS0.out (fun hHeld => ?_)
                      obtain ⟨wg0, hwd⟩ : ∃ x, w5.drew = x := ⟨_, rfl⟩
                      rw [hwd] at hHeld HFwg00 ⊢
                      have HFwg0 := HFwg00
                      clear hwd HFwg00 hS0
                      go_simp
                      refine tkV 0 rfl (fun wz hSz => by go_simp; all_goals with_reducible rfl) ?_
                      go_simp
                      refine tkY 1 rfl (yieldsIf_load_mid (by rfl) _ _ rfl (Q) 0 rfl [.int .u64 an, .slice ai is.length ci, .slice ao os.length co, .int .u64 c.dep, .int .u64 c.wd, .int .u64 c.fee, .int .u64 (accOf c), .int .u64 c.nonce, .int .u64 (secOf c), .int .i64 c.exp, .int .u64 c.seed] _ (fun wz hSz => range_box hSz.b.1) Tryz.underlying39 rfl (by kernel_rfl)) ?_
                      go_simp
                      refine tkV 2 rfl (fun wz hSz => by go_simp; all_goals with_reducible rfl) ?_
                      go_simp
                      refine rd1 3 rfl (fun K hK => ?_)
                      refine step_store_row rfl _ _ _ rfl ((w.heap.size + 1)) _ rfl rfl _ _ (HFwg0.out.box i7) (by kernel_rfl) rfl (by kernel_rfl) ?_
                      have hfa := HFwg0.out.setRow i7 #[.int .u64 an, .slice ai is.length ci, .slice ao os.length co, .int .u64 c.dep, .int .u64 c.wd, .int .u64 c.fee, .int .u64 (accOf c), .int .u64 c.nonce, .int .u64 (secOf c), .int .i64 c.exp, .int .u64 c.seed]
                      change K _ (wg0.setRow ((w.heap.size + 1)) #[.int .u64 an, .slice ai is.length ci, .slice ao os.length co, .int .u64 c.dep, .int .u64 c.wd, .int .u64 c.fee, .int .u64 (accOf c), .int .u64 c.nonce, .int .u64 (secOf c), .int .i64 c.exp, .int .u64 c.seed])
                      obtain ⟨wg1, hw⟩ : ∃ x, wg0.setRow ((w.heap.size + 1)) #[.int .u64 an, .slice ai is.length ci, .slice ao os.length co, .int .u64 c.dep, .int .u64 c.wd, .int .u64 c.fee, .int .u64 (accOf c), .int .u64 c.nonce, .int .u64 (secOf c), .int .i64 c.exp, .int .u64 c.seed] = x := ⟨_, rfl⟩
                      rw [hw] at hfa ⊢
                      have HFwg1 := Lib.hid hfa
                      clear hHeld hfa hw
                      refine hK.out _ _ (⟨⟨HFwg1.out.box i4, trivial⟩, trivial⟩) (fun hHeld => ?_)
                      clear hK K
                      go_simp
                      refine tkV 4 rfl (fun wz hSz => by go_simp; all_goals with_reducible rfl) ?_
                      go_simp
                      clear hHeld
                      refine wpAnyH_done (by kernel_rfl) ?_ _
                      go_wp2_with fail
                      (try simp only [Exit.inBlock, Exit.then])
                      exact bodyPost_ret (ret_tct Tryz.results7 rfl (HFwg1.out.box i7) Tryz.underlying39 rfl (by kernel_rfl)) rfl ⟨HFwg1.out.below, .inr (setup_end HC.out HFwg1.out HAN.out (by rw [HIE.out, HS.out, HDM.out]) HOE.out (by rw [HN.out]; exact HCL.out) (by rw [HN.out]; exact HLK.out) HD.out.1)⟩

end Go.Proofs.YtdjcdejapkkcmaaGreatDoor
