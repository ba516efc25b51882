/- The builder: Build. -/
import Derived.Test.YtdjcdejapkkcmaaGreatDoorM21
import Derived.Test.YtdjcdejapkkcmaaGreatDoorM05
namespace Go.Proofs.YtdjcdejapkkcmaaGreatDoor
open Go.ChangeShapes Go.WideShapes Go.ChangeAt Go.RowKit Go.Sort

theorem Tryz.etyOutB : ElemTy Tryz.prog 43 98 4 48 := ElemTy.of Tryz.underlying43 (z := .agg #[.int .u64 0, .int .u64 0, .int .u64 0, .slice none 0 0]) (by kernel_rfl) rfl (by omega)
theorem outR_mkB {S : Nat → Prop} {w : World} {o : OutM} {a : Option Addr} {c : Nat} (h1 : okU o.commit) (h2 : okU o.p0) (h3 : okU o.p1) (h4 : numsR.rel S w [.slice a o.cipher.length c] o.cipher) : outR.rel S w [.int .u64 o.commit, .int .u64 o.p0, .int .u64 o.p1, .slice a o.cipher.length c] o :=
  ⟨[_], _, rfl, ⟨rfl, h1⟩, [_, _], [_], rfl, ⟨[_], [_], rfl, ⟨rfl, h2⟩, ⟨rfl, h3⟩⟩, h4⟩
theorem examE_parts {m : OrM} {se : Int} {D : Nat} {q : ReqM} (h : examE m se D q = 0) : partsB D q = true := by
  unfold examE at h
  split at h
  · split at h
    · assumption
    · cases h
  · exact absurd h (by assumption)
theorem examE_se {m : OrM} {se : Int} {D : Nat} {q : ReqM} (h : examE m se D q = 0) : se = 0 := by
  unfold examE at h
  split at h
  · assumption
  · exact h
theorem partsB_ins {D : Nat} {q : ReqM} (h : partsB D q = true) : insOk D q.ins = true := by
  unfold partsB at h
  simp only [Bool.and_eq_true] at h
  exact h.2.1
theorem partsB_lens {D : Nat} {q : ReqM} (h : partsB D q = true) : q.ins.length ≤ 4 ∧ q.outs.length ≤ 4 := by
  unfold partsB reqB at h
  simp only [Bool.and_eq_true, decide_eq_true_eq] at h
  obtain ⟨⟨-, h1⟩, -⟩ := h
  omega
/-- What Build gives. -/
def BuildTo (F : Nat → Prop) (p : Nat) (g : Int × TxM × WitM × OrM) (w : World) (e : Ending) (w' : World) : Prop :=
  ∃ (ma oa pa ia na : Option Addr) (mc oc pc ic nc : Nat) (G : Nat → Prop), e = .returned (.tuple #[.agg (txC g.2.1 ma oa pa mc oc pc), .agg (witC g.2.2.1 ia ic na nc), .int .i64 g.1]) ∧
    TxIn (fun k => w.heap.size ≤ k ∧ ¬ G k) w' g.2.1 ma oa pa mc oc pc ∧ WtIn (fun k => w.heap.size ≤ k ∧ ¬ G k) w' g.2.2.1 ia na ic nc ∧ OrG G p w' g.2.2.2 ∧ (∀ k, G k → (F k ∨ w.heap.size ≤ k) ∧ k < w'.heap.size) ∧ Kept (fun k => ¬ F k) w w'
theorem tx0_in {S : Nat → Prop} {w : World} : TxIn S w tx0 none none none 0 0 0 := ⟨okU_of (by decide) (by decide), okU_of (by decide) (by decide), okU_of (by decide) (by decide), okU_of (by decide) (by decide), okU_of (by decide) (by decide), okU_of (by decide) (by decide), by decide, sliceR.nil, sliceR.nil, sliceR.nil⟩
theorem wit0_in {S : Nat → Prop} {w : World} : WtIn S w wit0 none none 0 0 := ⟨sliceR.nil, sliceR.nil, okU_of (by decide) (by decide)⟩
/-- Build refuses: zero results. -/
theorem build_no {F G : Nat → Prop} {w wx w' : World} {p : Nat} {m : OrM} {ev : Int} (hk : Kept (fun k => ¬ F k) w wx) (ho : OrG G p wx m) (hG : ∀ k, G k → (F k ∨ w.heap.size + 1 + 1 + 1 + 1 ≤ k) ∧ k < wx.heap.size) (hF : ∀ k, F k → k < w.heap.size)
    (hw : w' = (wx.setRow (w.heap.size + 1 + 1) #[.int .u64 0, .slice none 0 0, .slice none 0 0, .int .u64 0, .int .u64 0, .int .u64 0, .int .u64 0, .int .u64 0, .int .i64 0, .slice none 0 0]).setRow (w.heap.size + 1 + 1 + 1) #[.slice none 0 0, .slice none 0 0, .int .u64 0]) : BuildTo F p (ev, tx0, wit0, m) w (.returned (.tuple #[.agg #[.int .u64 0, .slice none 0 0, .slice none 0 0, .int .u64 0, .int .u64 0, .int .u64 0, .int .u64 0, .int .u64 0, .int .i64 0, .slice none 0 0], .agg #[.slice none 0 0, .slice none 0 0, .int .u64 0], .int .i64 ev])) w' := by
  have hk2 : Kept (fun k => k ≠ w.heap.size + 1 + 1 ∧ k ≠ w.heap.size + 1 + 1 + 1) wx w' := by
    rw [hw]
    exact ((kept_setRow wx (w.heap.size + 1 + 1) #[.int .u64 0, .slice none 0 0, .slice none 0 0, .int .u64 0, .int .u64 0, .int .u64 0, .int .u64 0, .int .u64 0, .int .i64 0, .slice none 0 0]).mono (S' := fun k => k ≠ w.heap.size + 1 + 1 ∧ k ≠ w.heap.size + 1 + 1 + 1) fun _ _ h => h.1).trans (kept_setRow _ (w.heap.size + 1 + 1 + 1) #[.slice none 0 0, .slice none 0 0, .int .u64 0]) fun _ _ h => h.2
  exact ⟨none, none, none, none, none, 0, 0, 0, 0, 0, G, rfl, tx0_in, wit0_in, ho.keep (hk2.mono fun k _ hg => by rcases (hG k hg).1 with h | h; have := hF k h; omega; omega), fun k hg => ⟨(hG k hg).1.imp id fun h => by omega, Nat.lt_of_lt_of_le (hG k hg).2 hk2.size⟩, hk.trans hk2 fun k hk _ => by omega⟩
theorem origin_okL {S : Nat → Prop} {w : World} {a : Option Addr} {c : Nat} {l : List Int} (h : numsR.rel S w [.slice a l.length c] l) {acc nonce : Int} : okU (originS l acc nonce) := by
  unfold originS
  have h0 : okU 0 := okU_of (by omega) (by omega)
  split
  · split
    · exact hashS_ok _ _
    · exact h0
  · rename_i hl
    split
    · have hp : 0 < l.length := by omega
      obtain ⟨b, off, -, -, n0, n1, -⟩ := nums_at h 0 hp
      rw [getD_at l 0 0 hp]
      exact okU_of n0 n1
    · exact h0
theorem BuAt.gone {F S : Nat → Prop} {w : World} {p : Nat} {r : RuM} {q : ReqM} {ia oa : Option Addr} {ic oc : Nat} {T : Nat} {P : Nat → Nat → Prop} {m1 : OrM} {ms : List Int} {is : List SpentM} {os : List OutM} {ns : List NoteM} {am ai ao an : Option Addr} {cm ci co cn : Nat} {wr : World} (h : BuAt F S w p r q ia oa ic oc T P m1 ms is os ns am ai ao an cm ci co cn wr) : ∀ k, P 1 k → (F k ∨ w.heap.size + 1 + 1 + 1 + 1 ≤ k) ∧ k < wr.heap.size := fun k hk => ⟨by
  rcases h.cols.low 1 k hk with h1 | ⟨-, h1⟩
  · have := h.lay; exact .inr (by omega)
  · exact .inl h1, h.cols.lt 1 k hk⟩
theorem outN_ok {y : PayM} (h : PayOk y) (og sd : Int) (k : Nat) : NoteOk (outN y og sd k) := ⟨h.value, h.own, rhoS_ok og k, hashS_ok _ _⟩
/-- Free blocks of some kind. -/
theorem BuAt.recol2 {F S : Nat → Prop} {w : World} {p : Nat} {r : RuM} {q : ReqM} {ia oa : Option Addr} {ic oc : Nat} {T : Nat} {P : Nat → Nat → Prop} {m1 : OrM} {ms : List Int} {is : List SpentM} {os : List OutM} {ns : List NoteM} {am ai ao an : Option Addr} {cm ci co cn : Nat} {wr : World} (h : BuAt F S w p r q ia oa ic oc T P m1 ms is os ns am ai ao an cm ci co cn wr) (i0 : Nat) (R : Nat → Prop) (hR : ∀ k, R k → k < wr.heap.size ∧ T + 1 + 1 ≤ k ∧ ∀ j, ¬ P j k) : BuAt F S w p r q ia oa ic oc T (colAdd P i0 R) m1 ms is os ns am ai ao an cm ci co cn wr := by
  refine ⟨h.hF, h.hS, h.lay, h.rules, h.req, h.rt, h.rw, h.tx, h.wit, ⟨fun i k hp => ?_, fun i j k hp hq => ?_, fun i k hp => ?_⟩, h.orc.mono fun _ _ h => .inl h, h.rin, h.marks.mono fun _ _ h => .inl h, h.ins.mono fun _ _ h => .inl h, h.outs.mono fun _ _ h => .inl h, h.notes.mono fun _ _ h => .inl h, h.kept⟩
  · rcases hp with hp | ⟨-, hp⟩
    · exact h.cols.lt i k hp
    · exact (hR k hp).1
  · rcases hp with hp | ⟨rfl, hp⟩ <;> rcases hq with hq | ⟨rfl, hq⟩
    · exact h.cols.one i j k hp hq
    · exact absurd hp ((hR k hq).2.2 i)
    · exact absurd hq ((hR k hp).2.2 j)
    · rfl
  · rcases hp with hp | ⟨-, hp⟩
    · exact h.cols.low i k hp
    · exact .inl (hR k hp).2.1
/-- Build gives a transaction. -/
theorem build_yes {F S : Nat → Prop} {w : World} {p : Nat} {r : RuM} {q : ReqM} {ia oa : Option Addr} {ic oc : Nat} {T : Nat} {P : Nat → Nat → Prop} {m1 : OrM} {ms : List Int} {is : List SpentM} {os : List OutM} {ns : List NoteM} {am ai ao an : Option Addr} {cm ci co cn : Nat} {wr : World} {ys : List Int} {pa : Option Addr} {pc : Nat} {w' : World} (h : BuAt F S w p r q ia oa ic oc T P m1 ms is os ns am ai ao an cm ci co cn wr) (hq : ReqOk q) (hy : bytesR.rel (P 6) wr [.slice pa ys.length pc] ys) (hk : Kept (fun k => k ≠ T ∧ k ≠ w.heap.size + 1 + 1 ∧ k ≠ w.heap.size + 1 + 1 + 1) wr w') :
    BuildTo F p (0, { BuAt.txm q ms os with proof := ys }, ⟨is, ns, q.secret⟩, m1) w (.returned (.tuple #[.agg #[.int .u64 q.anchor, .slice am ms.length cm, .slice ao os.length co, .int .u64 q.dep, .int .u64 q.wd, .int .u64 q.fee, .int .u64 q.acc, .int .u64 q.nonce, .int .i64 q.exp, .slice pa ys.length pc], .agg #[.slice ai is.length ci, .slice an ns.length cn, .int .u64 q.secret], .int .i64 0])) w' := by
  have hl := h.lay
  have hK : ∀ i k, P i k → k ≠ T ∧ k ≠ w.heap.size + 1 + 1 ∧ k ≠ w.heap.size + 1 + 1 + 1 := fun i k hp => by
    rcases h.cols.low i k hp with h1 | ⟨-, h1⟩
    · omega
    · have := h.hF k h1; omega
  have hS : ∀ i k, 2 ≤ i → P i k → w.heap.size ≤ k ∧ ¬ P 1 k := fun i k hi hp => ⟨by
    rcases h.cols.low i k hp with h1 | ⟨h1, -⟩ <;> omega, fun h1 => by have := h.cols.one i 1 k hp h1; omega⟩
  refine ⟨am, ao, pa, ai, an, cm, co, pc, ci, cn, P 1, rfl,
    ⟨hq.anchor, hq.dep, hq.wd, hq.fee, hq.acc, hq.nonce, hq.exp, numsR.mono (numsR.keep h.marks.slice (hk.mono fun k _ hp => hK 2 k hp)) fun k _ hp => hS 2 k (by omega) hp, outsR.mono (outsR.keep h.outs.slice (hk.mono fun k _ hp => hK 4 k hp)) fun k _ hp => hS 4 k (by omega) hp, bytesR.mono (bytesR.keep hy (hk.mono fun k _ hp => hK 6 k hp)) fun k _ hp => hS 6 k (by omega) hp⟩,
    ⟨spentsR.mono (spentsR.keep h.ins.slice (hk.mono fun k _ hp => hK 3 k hp)) fun k _ hp => hS 3 k (by omega) hp, notesR.mono (notesR.keep h.notes.slice (hk.mono fun k _ hp => hK 5 k hp)) fun k _ hp => hS 5 k (by omega) hp, hq.secret⟩,
    h.orc.keep (hk.mono fun k _ hp => hK 1 k hp), fun k hp => ⟨(h.gone k hp).1.imp id fun h => by omega, Nat.lt_of_lt_of_le (h.gone k hp).2 hk.size⟩, h.kept.trans hk fun k h1 h2 => by omega⟩
set_option maxRecDepth 100000 in
set_option maxHeartbeats 8000000 in
theorem build_gen (F S : Nat → Prop) (w : World) (htab : TabAt w) (p : Nat) (m : OrM) (ho : OrG F p w m) (hF : ∀ k, F k → k < w.heap.size) (r : RuM) (hr : r.mode ≠ 1) (q : ReqM) (hq : ReqOk q) (ia oa : Option Addr) (ic oc : Nat) (h : ReqAt S w q ia ic oa oc) (hS : ∀ k, S k → ¬ F k) (hlim : m.n + m.qs.length + 300 ≤ 100000) :
    Calls Tryz.prog 9 #[.pointer (some ⟨p, 0, none⟩), .agg (ruC r), .agg (reqC q ia ic oa oc)] w (BuildTo F p (buildG m r r.depth.toNat q) w) := by
  obtain ⟨q3, q2, q1, q0⟩ := four_bx w (.cells (ruC r) 26) (.cells (reqC q ia ic oa oc) 39) (.cells #[.int .u64 0, .slice none 0 0, .slice none 0 0, .int .u64 0, .int .u64 0, .int .u64 0, .int .u64 0, .int .u64 0, .int .i64 0, .slice none 0 0] 45) (.cells #[.slice none 0 0, .slice none 0 0, .int .u64 0] 48)
  have hb := bnew (bnew (bnew (bnew (Below.refl w.heap.size w) (.cells (ruC r) 26)) (.cells (reqC q ia ic oa oc) 39)) (.cells #[.int .u64 0, .slice none 0 0, .slice none 0 0, .int .u64 0, .int .u64 0, .int .u64 0, .int .u64 0, .int .u64 0, .int .i64 0, .slice none 0 0] 45)) (.cells #[.slice none 0 0, .slice none 0 0, .int .u64 0] 48)
  have hsp : ReqAt (fun k => S k ∧ k < w.heap.size) w q ia ic oa oc := ⟨spentsR.bound h.ins, paysR.bound h.outs⟩
  have HO := Lib.hid (ho.keepB hb)
  have HFB := Lib.hid hF
  have HSF : Hid (∀ k, (S k ∧ k < w.heap.size) → k < w.heap.size ∧ ¬ F k) := fun k h => ⟨h.2, hS k h.1⟩
  have HT := Lib.hid (htab.keepB hb)
  have HR := Lib.hid hr
  have HRQ := Lib.hid hq
  have H := Lib.hid (hsp.keepB hb)
  have HLI := Lib.hid hlim
  have HB := Lib.hid hb
  have HQ0 := Lib.hid q0
  have HQ1 := Lib.hid q1
  have HQ2 := Lib.hid q2
  have HQ3 := Lib.hid q3
  obtain ⟨D, hD⟩ : ∃ D, r.depth.toNat = D := ⟨_, rfl⟩
  obtain ⟨se, hse⟩ : ∃ x, settE m.ideal r.mode r.depth r.bl r.bu r.qu r.rew r.win r.fin r.work = x := ⟨_, rfl⟩
  have HDE := Lib.hid hD
  have HSE := Lib.hid hse
  rw [hD]
  clear q0 q1 q2 q3 hb ho hF htab hr hq h hsp hS hlim hD hse
  go_enter Tryz.func9, Tryz.ntmps9
  go_upto_region 1 with (fail)
  generalize ((((w.alloc (.cells (ruC r) 26)).alloc (.cells (reqC q ia ic oa oc) 39)).alloc (.cells #[.int .u64 0, .slice none 0 0, .slice none 0 0, .int .u64 0, .int .u64 0, .int .u64 0, .int .u64 0, .int .u64 0, .int .i64 0, .slice none 0 0] 45)).alloc (.cells #[.slice none 0 0, .slice none 0 0, .int .u64 0] 48)) = W at *
  obtain ⟨x0, x1⟩ := box_cells HQ0.out
  obtain ⟨y0, y1⟩ := box_cells HQ1.out
  go_wp2_with fail
  refine (examine_gen F _ W HT.out p m HO.out r HR.out q HRQ.out ia oa ic oc H.out).mono ?_
  rw [HSE.out, HDE.out]
  rintro e w1 ⟨rfl, hb1⟩
  have HB1 := Lib.hid hb1
  have HX2 := Lib.hid (box_after hb1 HQ2.out)
  have HX3 := Lib.hid (box_after hb1 HQ3.out)
  clear x0 x1 y0 y1 hb1
  by_cases hex : examE m se D q = 0
  · rw [hex]
    have HEX := Lib.hid hex
    have HDB : Hid (D ≤ 12) := by
      have h0 := examE_se hex
      rw [← HSE.out] at h0
      have := (settE_modes h0 HR.out).2
      rw [← HDE.out]
      show _ ≤ _
      omega
    have HA1 : Hid (ReqAt (fun k => S k ∧ k < w.heap.size) w1 q ia ic oa oc) := H.out.keepB HB1.out
    have HO1 := Lib.hid (HO.out.keepB HB1.out)
    have HX0 := Lib.hid (box_after HB1.out HQ0.out)
    have HX1 := Lib.hid (box_after HB1.out HQ1.out)
    have HBW := Lib.hid (bnext HB.out HB1.out)
    have hlen := partsB_lens (examE_parts HEX.out)
    have HLE := Lib.hid hlen
    have HLT : Hid (w.heap.size + 1 + 1 + 1 < w1.heap.size) := box_lt HX3.out
    have hba := bnew (Below.refl w1.heap.size w1) (.cells #[.int .u64 q.anchor, .slice none 0 0, .slice none 0 0, .int .u64 q.dep, .int .u64 q.wd, .int .u64 q.fee, .int .u64 q.acc, .int .u64 q.nonce, .int .i64 q.exp, .slice none 0 0] 45)
    have HBA := Lib.hid hba
    have HT0 := Lib.hid (box_new w1 (.cells #[.int .u64 q.anchor, .slice none 0 0, .slice none 0 0, .int .u64 q.dep, .int .u64 q.wd, .int .u64 q.fee, .int .u64 q.acc, .int .u64 q.nonce, .int .i64 q.exp, .slice none 0 0] 45))
    have HSA : Hid ((w1.alloc (.cells #[.int .u64 q.anchor, .slice none 0 0, .slice none 0 0, .int .u64 q.dep, .int .u64 q.wd, .int .u64 q.fee, .int .u64 q.acc, .int .u64 q.nonce, .int .i64 q.exp, .slice none 0 0] 45)).heap.size = w1.heap.size + 1) := World.size_alloc ..
    obtain ⟨x0, x1⟩ := box_cells HX1.out
    clear hex hba hlen
    go_upto_region 5 with (fail)
    obtain ⟨T, hT⟩ : ∃ x, w1.heap.size = x := ⟨_, rfl⟩
    rw [hT] at HT0 HLT HSA
    have HTT := Lib.hid hT
    try rw [hT]
    generalize w1.alloc (.cells #[.int .u64 q.anchor, .slice none 0 0, .slice none 0 0, .int .u64 q.dep, .int .u64 q.wd, .int .u64 q.fee, .int .u64 q.acc, .int .u64 q.nonce, .int .i64 q.exp, .slice none 0 0] 45) = Wa at *
    clear x0 x1 hT
    obtain ⟨x0, x1⟩ := box_cells (box_after HBA.out HX1.out)
    have hbb := bnew (Below.refl Wa.heap.size Wa) (.cells #[.slice none 0 0, .slice none 0 0, .int .u64 q.secret] 48)
    have HBT := Lib.hid (bnext HBA.out hbb)
    have HT1 := Lib.hid (box_after hbb HT0.out)
    have hq2 := box_new Wa (.cells #[.slice none 0 0, .slice none 0 0, .int .u64 q.secret] 48)
    rw [HSA.out] at hq2
    have HT2 := Lib.hid hq2
    clear hbb hq2
    go_upto_region 6 with (fail)
    rw [HSA.out]
    generalize Wa.alloc (.cells #[.slice none 0 0, .slice none 0 0, .int .u64 q.secret] 48) = W2 at *
    have HBU : Hid (BuAt F (fun k => S k ∧ k < w.heap.size) w p r q ia oa ic oc T (fun i k => i = 1 ∧ F k) m [] [] [] [] none none none none 0 0 0 0 W2) :=
      ⟨HFB.out, HSF.out, HLT.out, box_after HBT.out HX0.out, box_after HBT.out HX1.out, box_after HBT.out HX2.out, box_after HBT.out HX3.out, HT1.out, HT2.out,
       ⟨fun i k h => Nat.lt_of_lt_of_le (HFB.out k h.2) (bnext HBW.out HBT.out).size, fun i j k h1 h2 => h1.1.trans h2.1.symm, fun i k h => .inr h⟩, (HO1.out.keepB HBT.out).mono fun _ _ h => ⟨rfl, h⟩, HA1.out.keepB HBT.out, Own.nil _ _ _ _ _, Own.nil _ _ _ _ _, Own.nil _ _ _ _ _, Own.nil _ _ _ _ _, Kept.of_below (bnext HBW.out HBT.out)⟩
    clear x0 x1 HT0 HBA HSA HTT HT1 HT2 HX0 HX1 HX2 HX3 HQ0 HQ1 HQ2 HQ3 HBT HA1 HO1 H HO HT HB HB1
    obtain ⟨x0, x1⟩ := box_cells HBU.out.req
    go_wp2_with fail
    clear x0 x1
    go_loopw [12, 53] (fun vd vi wr => ∃ (k : Nat) (P : Nat → Nat → Prop) (m1 : OrM) (ms : List Int) (is : List SpentM) (d : Bool) (am ai : Option Addr) (cm ci : Nat), k ≤ q.ins.length ∧ vi = .int .i64 k ∧ vd = .bool d ∧ Hid (BuAt F (fun k => S k ∧ k < w.heap.size) w p r q ia oa ic oc T P m1 ms is [] [] am ai none none cm ci 0 0 wr) ∧ Hid (is = q.ins.take k) ∧ Hid (markL m q.ins k = (ms, d, m1)) ∧ Hid (ms.length = k) ∧ Hid (m1.n + m1.qs.length ≤ m.n + m.qs.length + 2 * k)) (fun _ vi _ => q.ins.length - (intOf vi).toNat)
    case atStart => exact ⟨0, _, m, [], [], true, none, none, 0, 0, Nat.zero_le _, rfl, rfl, HBU.out, rfl, rfl, rfl, Nat.le_refl _⟩
    case round =>
      obtain ⟨k, P, m1, ms, is, d, am, ai, cm, ci, hk, rfl, rfl, HBK, HIS, HMK, HML, HLK⟩ := hrel
      by_cases hlt : k < q.ins.length
      · obtain ⟨b, off, pa, pc, rfl, hbl, hok, hpa, c0, c1, c2, c3, c4, c5, c6, c7, c8⟩ := spents_at HBK.out.rin.ins k hlt
        have HTK : Hid (q.ins.take (k + 1) = q.ins.take k ++ [q.ins[k]]) := List.take_succ_eq_append_getElem hlt
        have HST : Hid (∀ v m2, m1.mark q.ins[k].key q.ins[k].note.rho = (v, m2) → markL m q.ins (k + 1) = (ms ++ [v], d && !hasB ms v, m2)) := fun v m2 h => markL_step HMK.out hlt h
        obtain ⟨i, hi⟩ : ∃ x, q.ins[k] = x := ⟨_, rfl⟩
        rw [hi] at hok hpa c0 c1 c2 c3 c4 c5 c6 c7 c8 HTK HST
        have hil := (sliceR.lens HBK.out.rin.ins).2
        unfold maxLen at hil
        have hbn := bnew (Below.refl wr.heap.size wr) (.cells (spC i pa pc) 58)
        have HIN := Lib.hid (box_new wr (.cells (spC i pa pc) 58))
        have HPA := Lib.hid (numsR.keepB hpa hbn)
        have HBN := Lib.hid (HBK.out.keepB hbn)
        have HOK := Lib.hid hok
        have HBZ := Lib.hid hbn
        have HLQ := Lib.hid hlt
        have HPLN : Hid (i.path.length ≤ 12) := by have h := insOk_at (partsB_ins (examE_parts HEX.out)) k hlt; rw [hi] at h; exact (inB_facts h HDB.out).1
        clear hi hok hpa hbn
        go_upto_region 10 with (fail)
        obtain ⟨bx, hbx⟩ : ∃ x, wr.heap.size = x := ⟨_, rfl⟩
        have HXP : Hid (∀ j, ¬ P j bx) := fun j hp => by have := HBK.out.cols.lt j bx hp; omega
        have HXL : Hid (T + 1 < bx) := by rw [← hbx]; exact HBK.out.sizeT
        rw [hbx] at HIN
        try rw [hbx]
        generalize wr.alloc (.cells (spC i pa pc) 58) = wn at *
        clear c0 c1 c2 c3 c4 c5 c6 c7 c8 hbx
        obtain ⟨x0, x1⟩ := box_cells HIN.out
        go_wp2_with fail
        refine (mark_any (P 1) wn p m1 HBN.out.orc (fun k h => HBN.out.cols.lt 1 k h) i.key i.note.rho HOK.out.key HOK.out.note.rho (by have := HLI.out; have := HLK.out; have := HLE.out; omega)).mono ?_
        rintro e w2 ⟨v, m2, rfl, hmx, hvr, -, -, hml2, ho2, hk2⟩
        have HB2 := Lib.hid (HBN.out.ask hk2 ho2 fun k _ h => h)
        have HIN2 := Lib.hid (box_kept hk2 HIN.out (HXP.out 1))
        have HPA2 : Hid (numsR.rel (fun k => S k ∧ k < w.heap.size) w2 [.slice pa i.path.length pc] i.path) := numsR.keep HPA.out (hk2.mono fun j _ hs hp => by
          rcases HBN.out.cols.low 1 j hp with h4 | ⟨-, h4⟩
          · have := HXL.out; have := HBN.out.lay; omega
          · exact (HSF.out j hs).2 h4)
        have HMX := Lib.hid (HST.out v m2 hmx)
        have HVO : Hid (okU v) := okU_of hvr.1 (Int.lt_trans hvr.2 (by omega))
        have HW2 : Hid (wn.heap.size ≤ w2.heap.size) := hk2.size
        have HM2 : Hid (m2.n + m2.qs.length ≤ m.n + m.qs.length + 2 * (k + 1)) := by have := HLK.out; show _ ≤ _; omega
        clear hmx hvr hml2 ho2 hk2 x0 x1
        go_upto_region 11 with (fail)
        go_cut [12] from 64 to 71 (fun v12 wc => v12 = .bool (d && !hasB ms v) ∧ Hid (Below w2.heap.size w2 wc))
        case first =>
          obtain ⟨x0, x1⟩ := box_cells HB2.out.tx
          cases d with
          | false =>
            go_wp2_with fail
            go_meet
            case rel => exact ⟨rfl, Below.refl _ _⟩
          | true =>
            go_wp2_with fail
            refine (contains_any _ w2 am cm ms ms.length rfl HB2.out.marks.slice v).mono ?_
            rintro e w3 ⟨rfl, hb3⟩
            have HB3 := Lib.hid hb3
            clear hb3
            go_wp2_with fail
            go_meet
            case rel => exact ⟨rfl, HB3.out⟩
        case rest =>
          obtain ⟨rfl, HBC⟩ := hcut
          have HB3 := Lib.hid (HB2.out.keepB HBC.out)
          have HWC : Hid (w2.heap.size ≤ wc.heap.size) := HBC.out.size
          have HIN3 := Lib.hid (box_after HBC.out HIN2.out)
          have HPA3 := Lib.hid (numsR.keepB HPA2.out HBC.out)
          obtain ⟨wd, hwd⟩ : ∃ x, x = wc := ⟨_, rfl⟩
          subst hwd
          clear HB2 HIN2 HPA2 HBC
          obtain ⟨x0, x1⟩ := box_cells HB3.out.tx
          have hb4 := bnew (Below.refl wd.heap.size wd) (.cells #[.int .u64 v] 24)
          have HB4 := Lib.hid (HB3.out.keepB hb4)
          have HIN4 := Lib.hid (box_after hb4 HIN3.out)
          have HPA4 := Lib.hid (numsR.keepB HPA3.out hb4)
          have HSR : Hid (Src u64R (fun _ => False) (wd.alloc (.cells #[.int .u64 v] 24)) (.slice (some ⟨wd.heap.size, 0, none⟩) 1 1) [v]) := Src.one ⟨rfl, HVO.out⟩ (CellsAt.new wd [.int .u64 v] 24)
          have HMS : Hid (ms.length ≤ 4) := by have := HML.out; have := HLQ.out; have := HLE.out; show _ ≤ _; omega
          clear hb4
          go_upto_region 12 with (fail)
          go_wp2_with (at_builtin; refine wpList_append_rel (r := u64R) (base := T + 1 + 1) (v := .slice am ms.length cm) (u := .slice (some ⟨wd.heap.size, 0, none⟩) 1 1) rfl _ _ rfl Tryz.etyNums rfl rfl HB4.out.marks HSR.out (fun _ _ h => h.elim) (fun _ _ h => h) (by have := HMS.out; unfold maxLen; simp; omega) (by have := HMS.out; simp; omega) HB4.out.sizeT ?_)
          intro v5 w5 ho5 hk5 _
          obtain ⟨a5, c5, rfl, -, -⟩ := sliceR.form ho5.slice
          have hfr : ∀ k, (Value.slice am ms.length cm).ownBlock = some k → k ≠ bx ∧ k ≠ T ∧ T + 1 + 1 ≤ k := fun k e => by
            have hp := own_free HB4.out.marks e
            have hl := HB4.out.cols.low 2 k hp
            refine ⟨fun e2 => ?_, by omega, by omega⟩
            subst e2
            rcases hp with hp | ⟨hp, -⟩
            · exact HXP.out 2 hp
            · omega
          have HWN : Hid (wn.heap.size ≤ wd.heap.size ∧ wd.heap.size ≤ w5.heap.size ∧ w5.heap.size ≤ (w5.setCell ⟨T, 1, none⟩ (.slice a5 (ms.length + 1) c5)).heap.size) := ⟨Nat.le_trans HW2.out HWC.out, by have := hk5.size; rw [World.size_alloc] at this; omega, by rw [World.size_setCell]; exact Nat.le_refl _⟩
          have HT5 := Lib.hid (box_kept hk5 HB4.out.tx fun e => (hfr _ e).2.1 rfl)
          have HB6 := Lib.hid (HB4.out.push_marks (ho5.mono fun k _ h => h.imp id fun h => by rw [World.size_alloc]; exact h) hk5)
          have hk6 : Kept (fun k => (Value.slice am ms.length cm).ownBlock ≠ some k ∧ k ≠ T) (wd.alloc (.cells #[.int .u64 v] 24)) (w5.setCell ⟨T, 1, none⟩ (.slice a5 (ms ++ [v]).length c5)) := (hk5.mono fun _ _ h => h.1).trans ((Kept.refl (fun k => (Value.slice am ms.length cm).ownBlock ≠ some k ∧ k ≠ T) _).setCell (fun _ h => h.2 rfl) _) fun _ _ h => h
          have HIN6 := Lib.hid (box_kept hk6 HIN4.out ⟨fun e => (hfr _ e).1 rfl, by have := HXL.out; omega⟩)
          have HPA6 : Hid (numsR.rel (fun k => S k ∧ k < w.heap.size) (w5.setCell ⟨T, 1, none⟩ (.slice a5 (ms ++ [v]).length c5)) [.slice pa i.path.length pc] i.path) := numsR.keep HPA4.out (hk6.mono fun j _ hs => ⟨fun e => by have := (hfr j e).2.2; have := hs.2; have := HB4.out.lay; omega, by have := hs.2; have := HB4.out.lay; omega⟩)
          have hln : (ms ++ [v]).length = ms.length + 1 := by simp
          rw [hln] at HB6 HIN6 HPA6
          clear ho5 hk5 hfr hk6 x0 x1 hln
          obtain ⟨x0, x1⟩ := box_cells HT5.out
          go_upto_region 13 with (fail)
          generalize w5.setCell ⟨T, 1, none⟩ (.slice a5 (ms.length + 1) c5) = w6 at *
          clear x0 x1 HB3 HB4 HIN3 HIN4 HPA3 HPA4 HSR HT5
          have HNO : Hid (∀ k2, (Value.slice ai is.length ci).ownBlock = some k2 → k2 < w6.heap.size) := fun k2 e => HB6.out.cols.lt 3 k2 (own_free HB6.out.ins e)
          obtain ⟨x0, x1⟩ := box_cells HIN6.out
          unfold spC at x0
          go_wp2_with fail
          refine (clone_any _ w6 pa pc i.path HPA6.out (by have := HPLN.out; omega)).mono ?_
          rintro e w7 ⟨ya, yc, rfl, hy, hb7⟩
          have hx7 := box_after hb7 HIN6.out
          have hp7 := HB6.out.recol (HB6.out.keepB hb7) hb7.size 3 (fun k => w6.heap.size ≤ k ∧ k < w7.heap.size) (fun k h => h)
          have hnb : ∀ j, ¬ colAdd (colAdd (colAdd P 1 (fun k => (P 1 k ∨ wn.heap.size ≤ k) ∧ wn.heap.size ≤ k ∧ k < w2.heap.size)) 2 (fun k => (wd.alloc (.cells #[.int .u64 v] 24)).heap.size ≤ k ∧ k < w5.heap.size)) 3 (fun k => w6.heap.size ≤ k ∧ k < w7.heap.size) j bx := fun j hp => by
            have h1 := box_lt HIN.out
            have h2 := HWN.out
            rcases hp with ((hp | ⟨-, hp⟩) | ⟨-, hp⟩) | ⟨-, hp⟩
            · exact HXP.out j hp
            · omega
            · rw [World.size_alloc] at hp; omega
            · omega
          have hk8 : Kept (fun k => k ≠ bx) w7 (w7.setCell ⟨bx, 7, none⟩ (.slice ya i.path.length yc)) := (Kept.refl _ _).setCell (fun _ h => h rfl) _
          have HB8 := Lib.hid (hp7.move hk8 (fun k _ h => by have := HXL.out; omega) (fun k h _ => by have := HXL.out; have := hp7.lay; omega) (fun j k _ h e => hnb j (e ▸ h)) (hp7.orc.keep (hk8.mono fun k _ h e => hnb 1 (e ▸ h))))
          have HIN8 : Hid ((w7.setCell ⟨bx, 7, none⟩ (.slice ya i.path.length yc)).heap[bx]? = some (.cells (spC i ya yc) 58 (0, 0))) := box_set hx7
          have HPY8 : Hid (numsR.rel (fun k => w6.heap.size ≤ k ∧ k < w7.heap.size) (w7.setCell ⟨bx, 7, none⟩ (.slice ya i.path.length yc)) [.slice ya i.path.length yc] i.path) := (numsR.keep (numsR.bound hy) (hk8.mono fun k _ hk e => by have h1 := box_lt HIN6.out; have h2 := hk.1; omega))
          clear x0 x1
          obtain ⟨x0, x1⟩ := box_cells hx7
          unfold spC at x0
          clear hy hb7 hx7 hp7 hnb hk8
          go_upto_region 14 with (fail)
          generalize w7.setCell ⟨bx, 7, none⟩ (.slice ya i.path.length yc) = w8 at *
          obtain ⟨P2, HC8, HCR⟩ : ∃ P2, Hid (BuAt F (fun k => S k ∧ k < w.heap.size) w p r q (some ⟨b, off, none⟩) oa ic oc T P2 m2 (ms ++ [v]) is [] [] a5 ai none none c5 ci 0 0 w8) ∧ Hid (∀ j, (w6.heap.size ≤ j ∧ j < w7.heap.size) → P2 3 j) := ⟨_, HB8, fun j h => .inr ⟨rfl, h⟩⟩
          clear HB8
          have HB8 := HC8
          clear HC8
          clear x0 x1 HB6 HIN6 HPA6
          obtain ⟨x0, x1⟩ := box_cells HIN8.out
          obtain ⟨y0, y1⟩ := box_cells HB8.out.wit
          unfold spC at x0
          have hb9 := bnew (Below.refl w8.heap.size w8) (.cells (spC i ya yc) 58)
          have HB9 := Lib.hid (HB8.out.keepB hb9)
          have HSR : Hid (Src spentR (fun k => w6.heap.size ≤ k ∧ k < w7.heap.size) (w8.alloc (.cells (spC i ya yc) 58)) (.slice (some ⟨w8.heap.size, 0, none⟩) 1 1) [i]) := Src.one (spentR.mk HOK.out (numsR.keepB HPY8.out hb9)) (CellsAt.new w8 (spentCells i ya yc) 58)
          have HKL : Hid (is.length ≤ 4) := by have := HLE.out; show _ ≤ _; rw [HIS.out, List.length_take]; omega
          clear hb9
          go_wp2_with (at_builtin; refine wpList_append_rel (r := spentR) (base := T + 1 + 1) (v := .slice ai is.length ci) (u := .slice (some ⟨w8.heap.size, 0, none⟩) 1 1) rfl _ _ rfl Tryz.etySpent rfl rfl HB9.out.ins HSR.out (fun j _ h => HCR.out j h) (fun k2 e h => by have := HNO.out k2 e; omega) (by have := HKL.out; unfold maxLen; simp; omega) (by have := HKL.out; simp; omega) HB9.out.sizeT ?_)
          intro v10 w10 ho10 hk10 _
          obtain ⟨a10, c10, rfl, -, -⟩ := sliceR.form ho10.slice
          have HB10 := Lib.hid (HB9.out.push_ins (ho10.mono fun k _ h => h.imp id fun h => by rw [World.size_alloc]; exact h) hk10)
          have hw10 := box_kept hk10 HB9.out.wit fun e => by
            rcases HB9.out.cols.low 3 _ (own_free HB9.out.ins e) with h4 | ⟨h4, -⟩ <;> omega
          have hln : (is ++ [i]).length = is.length + 1 := by simp
          have HI2 : Hid (is ++ [i] = q.ins.take (k + 1)) := by show _ = _; rw [HTK.out, HIS.out]
          have HML2 : Hid ((ms ++ [v]).length = k + 1) := by show _ = _; rw [List.length_append, HML.out]; rfl
          rw [hln] at HB10
          clear ho10 hk10 x0 x1 y0 y1 hln
          obtain ⟨x0, x1⟩ := box_cells hw10
          go_upto_region 15 with (fail)
          generalize w10.setCell ⟨T + 1, 0, none⟩ (.slice a10 (is.length + 1) c10) = w11 at *
          clear x0 x1 hw10
          go_wp2_with fail
          go_roundw
          case rel => exact ⟨k + 1, _, m2, ms ++ [v], is ++ [i], _, a5, a10, c5, c10, hlt, by go_num, rfl, HB10, HI2, HMX, HML2, HM2⟩
          case measure => simp [intOf]; omega
      · obtain rfl : k = q.ins.length := by omega
        have hie : is = q.ins := by have h := HIS.out; rwa [List.take_length] at h
        subst hie
        clear HIS hk hlt
        cases d with
        | false =>
          have HG : Hid (buildG m r D q = (1, tx0, wit0, m1)) := by
            show _ = _
            simp only [buildG, HSE.out, HEX.out, HMK.out, ↓reduceIte, Bool.false_eq_true]
          have HZ4 : Hid ((wr.setRow (w.heap.size + 1 + 1) #[.int .u64 0, .slice none 0 0, .slice none 0 0, .int .u64 0, .int .u64 0, .int .u64 0, .int .u64 0, .int .u64 0, .int .i64 0, .slice none 0 0]).heap[w.heap.size + 1 + 1 + 1]? = some (.cells #[.slice none 0 0, .slice none 0 0, .int .u64 0] 48 (0, 0))) := by show _ = _; rw [setRow_other _ _ _ _ (by omega)]; exact HBK.out.rw
          have HZ1 : Hid (((wr.setRow (w.heap.size + 1 + 1) #[.int .u64 0, .slice none 0 0, .slice none 0 0, .int .u64 0, .int .u64 0, .int .u64 0, .int .u64 0, .int .u64 0, .int .i64 0, .slice none 0 0]).setRow (w.heap.size + 1 + 1 + 1) #[.slice none 0 0, .slice none 0 0, .int .u64 0]).heap[w.heap.size + 1 + 1]? = some (.cells #[.int .u64 0, .slice none 0 0, .slice none 0 0, .int .u64 0, .int .u64 0, .int .u64 0, .int .u64 0, .int .u64 0, .int .i64 0, .slice none 0 0] 45 (0, 0))) := by show _ = _; rw [setRow_other _ _ _ _ (by omega)]; exact setRow_heap _ _ _ _ _ _ HBK.out.rt
          have HZ2 : Hid (((wr.setRow (w.heap.size + 1 + 1) #[.int .u64 0, .slice none 0 0, .slice none 0 0, .int .u64 0, .int .u64 0, .int .u64 0, .int .u64 0, .int .u64 0, .int .i64 0, .slice none 0 0]).setRow (w.heap.size + 1 + 1 + 1) #[.slice none 0 0, .slice none 0 0, .int .u64 0]).heap[w.heap.size + 1 + 1 + 1]? = some (.cells #[.slice none 0 0, .slice none 0 0, .int .u64 0] 48 (0, 0))) := setRow_heap _ _ _ _ _ _ HZ4.out
          go_wp2_with (first
            | refine wpList_store_row rfl _ _ _ rfl (w.heap.size + 1 + 1) _ rfl rfl _ _ HBK.out.rt (by kernel_rfl) rfl (by kernel_rfl) ?_
            | refine wpList_store_row rfl _ _ _ rfl (w.heap.size + 1 + 1 + 1) _ rfl rfl _ _ HZ4.out (by kernel_rfl) rfl (by kernel_rfl) ?_)
          (try simp only [Exit.inBlock, Exit.then])
          refine bodyPost_ret (ret_cct Tryz.results9 rfl HZ1.out Tryz.underlying45 rfl (by kernel_rfl) rfl HZ2.out Tryz.underlying48 rfl (by kernel_rfl)) rfl ?_
          rw [HG.out]
          exact build_no HBK.out.kept HBK.out.orc (HBK.out.gone) HFB.out rfl
        | true =>
          have HG0 : Hid (∀ g, (let b := outL m1 (originS ms q.acc q.nonce) q.seed q.outs q.outs.length
            let t : TxM := ⟨q.anchor, ms, b.1, q.dep, q.wd, q.fee, q.acc, q.nonce, q.exp, []⟩
            let x : WitM := ⟨q.ins, b.2.1, q.secret⟩
            if validE t = 0 then
              let g := proveG b.2.2 r.mode D (stOf D t (bindS t)) x
              if g.1 = 0 then (0, { t with proof := g.2.1 }, x, g.2.2) else (g.1, tx0, wit0, g.2.2)
            else (1, tx0, wit0, b.2.2)) = g → buildG m r D q = g) := fun g h => by
            rw [← h]
            simp only [buildG, HSE.out, HEX.out, HMK.out, ↓reduceIte]
          obtain ⟨x0, x1⟩ := box_cells HBK.out.tx
          obtain ⟨y0, y1⟩ := box_cells HBK.out.req
          go_wp2_with fail
          refine (origin_any _ wr am cm ms HBK.out.marks.slice q.acc q.nonce HRQ.out.acc HRQ.out.nonce).mono ?_
          rintro e w2 ⟨rfl, hb2⟩
          have hog := origin_okL HBK.out.marks.slice (acc := q.acc) (nonce := q.nonce)
          obtain ⟨og, hogd⟩ : ∃ x, originS ms q.acc q.nonce = x := ⟨_, rfl⟩
          rw [hogd] at hog HG0 ⊢
          have HOG := Lib.hid hog
          have HI1 : Hid (m1.ideal = m.ideal) := by have h := markL_ideal m q.ins q.ins.length; rw [HMK.out] at h; exact h
          have HB2 := Lib.hid (HBK.out.keepB hb2)
          clear hb2 hogd hog x0 x1 y0 y1
          obtain ⟨y0, y1⟩ := box_cells HB2.out.req
          go_wp2_with fail
          clear y0 y1
          go_loopw [103] (fun vi wr => ∃ (k : Nat) (P : Nat → Nat → Prop) (m2 : OrM) (os : List OutM) (ns : List NoteM) (ao an : Option Addr) (co cn : Nat), k ≤ q.outs.length ∧ vi = .int .i64 k ∧ Hid (BuAt F (fun k => S k ∧ k < w.heap.size) w p r q ia oa ic oc T P m2 ms q.ins os ns am ai ao an cm ci co cn wr) ∧ Hid (outL m1 og q.seed q.outs k = (os, ns, m2)) ∧ Hid (os.length = k) ∧ Hid (ns.length = k) ∧ Hid (m2.n + m2.qs.length ≤ m.n + m.qs.length + 8 + 6 * k)) (fun vi _ => q.outs.length - (intOf vi).toNat)
          case atStart => exact ⟨0, _, m1, [], [], none, none, 0, 0, Nat.zero_le _, rfl, HB2.out, rfl, rfl, rfl, by have h1 := HLK.out; have h2 := HLE.out; show _ ≤ _; omega⟩
          case round =>
            clear HBK HB2 HBU HLK HML HMK
            obtain ⟨k, P, m2, os, ns, ao, an, co, cn, hk, rfl, HBK, HOL, HLO, HLN, HLK⟩ := hrel
            by_cases hlt : k < q.outs.length
            · obtain ⟨b, off, rfl, hbl, hok, c0, c1, c2, c3, c4⟩ := pays_at HBK.out.rin.outs k hlt
              have HST : Hid (∀ o m3, m2.make q.outs[k] og q.seed k = (o, m3) → outL m1 og q.seed q.outs (k + 1) = (os ++ [o], ns ++ [outN q.outs[k] og q.seed k], m3)) := fun o m3 h => outL_step HOL.out hlt h
              obtain ⟨y, hy⟩ : ∃ x, q.outs[k] = x := ⟨_, rfl⟩
              rw [hy] at hok c0 c1 c2 c3 c4 HST
              have hil := (sliceR.lens HBK.out.rin.outs).2
              unfold maxLen at hil
              have hbn := bnew (Below.refl wr.heap.size wr) (.cells (payC y) 84)
              have HIN := Lib.hid (box_new wr (.cells (payC y) 84))
              have HBN := Lib.hid (HBK.out.keepB hbn)
              have HOK := Lib.hid hok
              have HLQ := Lib.hid hlt
              clear hy hok hbn
              go_upto_region 22 with (fail)
              obtain ⟨bx, hbx⟩ : ∃ x, wr.heap.size = x := ⟨_, rfl⟩
              rw [hbx] at HIN
              try rw [hbx]
              generalize wr.alloc (.cells (payC y) 84) = wn at *
              clear c0 c1 c2 c3 c4 hbx
              obtain ⟨x0, x1⟩ := box_cells HIN.out
              obtain ⟨y0, y1⟩ := box_cells HBN.out.req
              unfold payC at x0
              go_wp2_with fail
              refine (makeOut_any (P 1) wn p m2 HBN.out.orc (fun k h => HBN.out.cols.lt 1 k h) y HOK.out og q.seed HOG.out HRQ.out.seed k (by have := HLE.out; have := HLQ.out; omega) (by have := HLI.out; have := HLK.out; have := HLE.out; have := HLQ.out; omega)).mono ?_
              rintro e w2 ⟨o, ca, cc, m3, G, rfl, hmk, ⟨o1, o2, o3⟩, hci, -, -, hml, ho2, hG, hk2⟩
              have ha := HBN.out.ask hk2 ho2 fun k _ hg => (hG k hg).1
              have hr4 : ∀ k, (wn.heap.size ≤ k ∧ ¬ G k ∧ k < w2.heap.size) → k < w2.heap.size ∧ T + 1 + 1 ≤ k ∧ ∀ j, ¬ colAdd P 1 (fun k => G k ∧ wn.heap.size ≤ k ∧ k < w2.heap.size) j k := fun k h => ⟨h.2.2, Nat.le_trans HBN.out.sizeT h.1, fun j hp => by
                rcases hp with hp | ⟨-, hp⟩
                · have := HBN.out.cols.lt j k hp; omega
                · exact h.2.1 hp.1⟩
              obtain ⟨P2, S2, HB2, HCI, HCR⟩ : ∃ P2 S2, Hid (BuAt F (fun k => S k ∧ k < w.heap.size) w p r q ia (some ⟨b, off, none⟩) ic oc T P2 m3 ms q.ins os ns am ai ao an cm ci co cn w2) ∧ Hid (numsR.rel S2 w2 [.slice ca o.cipher.length cc] o.cipher) ∧ Hid (∀ j, S2 j → P2 4 j ∧ wn.heap.size ≤ j) := ⟨_, fun k => wn.heap.size ≤ k ∧ ¬ G k ∧ k < w2.heap.size, ha.recol2 4 _ hr4, numsR.mono (numsR.bound hci.out) fun k _ h => ⟨h.1.1, h.1.2, h.2⟩, fun j h => ⟨.inr ⟨rfl, h⟩, h.1⟩⟩
              have HNO : Hid (∀ k2, (Value.slice ao os.length co).ownBlock = some k2 → k2 < wn.heap.size ∧ T + 1 + 1 ≤ k2) := fun k2 e => ⟨HBN.out.cols.lt 4 k2 (own_free HBN.out.outs e), by have h1 := HBN.out.cols.low 4 k2 (own_free HBN.out.outs e); omega⟩
              have HW2 : Hid (wn.heap.size ≤ w2.heap.size) := hk2.size
              have HTN : Hid (T + 1 + 1 ≤ wn.heap.size) := HBN.out.sizeT
              have HMX := Lib.hid (HST.out o m3 hmk)
              have HO3 : Hid (okU o.commit ∧ okU o.p0 ∧ okU o.p1) := ⟨o1, o2, o3⟩
              have HM2 : Hid (m3.n + m3.qs.length ≤ m.n + m.qs.length + 8 + 6 * (k + 1)) := by have := HLK.out; show _ ≤ _; omega
              obtain ⟨nt, hnt⟩ : ∃ x, outN y og q.seed k = x := ⟨_, rfl⟩
              rw [hnt] at HMX ⊢
              have HNT : Hid (NoteOk nt) := by rw [← hnt]; exact outN_ok HOK.out og q.seed k
              unfold noteC
              clear hmk o1 o2 o3 hci hml ho2 hG hk2 ha hr4 x0 x1 y0 y1 HST hnt
              go_upto_region 23 with (fail)
              have hbo := bnew (Below.refl w2.heap.size w2) (.cells #[.int .u64 o.commit, .int .u64 o.p0, .int .u64 o.p1, .slice ca o.cipher.length cc] 98)
              have hbq := bnew (Below.refl (w2.alloc (.cells #[.int .u64 o.commit, .int .u64 o.p0, .int .u64 o.p1, .slice ca o.cipher.length cc] 98)).heap.size (w2.alloc (.cells #[.int .u64 o.commit, .int .u64 o.p0, .int .u64 o.p1, .slice ca o.cipher.length cc] 98))) (.cells #[.int .u64 nt.value, .int .u64 nt.owner, .int .u64 nt.rho, .int .u64 nt.blind] 56)
              have hx1 := box_after hbq (box_new w2 (.cells #[.int .u64 o.commit, .int .u64 o.p0, .int .u64 o.p1, .slice ca o.cipher.length cc] 98))
              have hx2 := box_new (w2.alloc (.cells #[.int .u64 o.commit, .int .u64 o.p0, .int .u64 o.p1, .slice ca o.cipher.length cc] 98)) (.cells #[.int .u64 nt.value, .int .u64 nt.owner, .int .u64 nt.rho, .int .u64 nt.blind] 56)
              rw [World.size_alloc] at hx2
              have HX1 := Lib.hid hx1
              have HX2 := Lib.hid hx2
              have HB3 := Lib.hid ((HB2.out.keepB hbo).keepB hbq)
              have HC3 := Lib.hid (numsR.keepB (numsR.keepB HCI.out hbo) hbq)
              have HW3 : Hid (((w2.alloc (.cells #[.int .u64 o.commit, .int .u64 o.p0, .int .u64 o.p1, .slice ca o.cipher.length cc] 98)).alloc (.cells #[.int .u64 nt.value, .int .u64 nt.owner, .int .u64 nt.rho, .int .u64 nt.blind] 56)).heap.size = w2.heap.size + 1 + 1) := by show _ = _; rw [World.size_alloc, World.size_alloc]
              generalize (w2.alloc (.cells #[.int .u64 o.commit, .int .u64 o.p0, .int .u64 o.p1, .slice ca o.cipher.length cc] 98)).alloc (.cells #[.int .u64 nt.value, .int .u64 nt.owner, .int .u64 nt.rho, .int .u64 nt.blind] 56) = w3 at *
              clear hbo hbq hx1 hx2 HB2 HCI
              obtain ⟨x0, x1⟩ := box_cells HX1.out
              obtain ⟨y0, y1⟩ := box_cells HB3.out.tx
              have hb4 := bnew (Below.refl w3.heap.size w3) (.cells #[.int .u64 o.commit, .int .u64 o.p0, .int .u64 o.p1, .slice ca o.cipher.length cc] 98)
              have HB4 := Lib.hid (HB3.out.keepB hb4)
              have HX4 := Lib.hid (box_after hb4 HX2.out)
              have HSR : Hid (Src outR S2 (w3.alloc (.cells #[.int .u64 o.commit, .int .u64 o.p0, .int .u64 o.p1, .slice ca o.cipher.length cc] 98)) (.slice (some ⟨w3.heap.size, 0, none⟩) 1 1) [o]) := Src.one (outR_mkB HO3.out.1 HO3.out.2.1 HO3.out.2.2 (numsR.keepB HC3.out hb4)) (CellsAt.new w3 [.int .u64 o.commit, .int .u64 o.p0, .int .u64 o.p1, .slice ca o.cipher.length cc] 98)
              have HOL4 : Hid (os.length ≤ 4) := by have := HLO.out; have := HLQ.out; have := HLE.out; show _ ≤ _; omega
              have HNL4 : Hid (ns.length ≤ 4) := by have := HLN.out; have := HLQ.out; have := HLE.out; show _ ≤ _; omega
              clear hb4
              go_wp2_with (at_builtin; refine wpList_append_rel (r := outR) (base := T + 1 + 1) (v := .slice ao os.length co) (u := .slice (some ⟨w3.heap.size, 0, none⟩) 1 1) rfl _ _ rfl Tryz.etyOutB rfl rfl HB4.out.outs HSR.out (fun j _ h => (HCR.out j h).1) (fun k2 e h => by have h1 := HNO.out k2 e; have h2 := HCR.out k2 h; omega) (by have := HOL4.out; unfold maxLen; simp; omega) (by have := HOL4.out; simp; omega) HB4.out.sizeT ?_)
              intro v5 w5 ho5 hk5 _
              obtain ⟨a5, c5, rfl, -, -⟩ := sliceR.form ho5.slice
              have HT5 := Lib.hid (box_kept hk5 HB4.out.tx fun e => by have := HNO.out _ e; omega)
              have HB6 := Lib.hid (HB4.out.push_outs (ho5.mono fun k _ h => h.imp id fun h => by rw [World.size_alloc]; exact h) hk5)
              have hk6 : Kept (fun k => (Value.slice ao os.length co).ownBlock ≠ some k ∧ k ≠ T) (w3.alloc (.cells #[.int .u64 o.commit, .int .u64 o.p0, .int .u64 o.p1, .slice ca o.cipher.length cc] 98)) (w5.setCell ⟨T, 2, none⟩ (.slice a5 (os ++ [o]).length c5)) := (hk5.mono fun _ _ h => h.1).trans ((Kept.refl (fun k => (Value.slice ao os.length co).ownBlock ≠ some k ∧ k ≠ T) _).setCell (fun _ h => h.2 rfl) _) fun _ _ h => h
              have HX6 := Lib.hid (box_kept hk6 HX4.out ⟨fun e => by have := HNO.out _ e; have := HW2.out; omega, by have := HTN.out; have := HW2.out; omega⟩)
              have hln : (os ++ [o]).length = os.length + 1 := by simp
              rw [hln] at HB6 HX6
              clear ho5 hk5 hk6 x0 x1 y0 y1 hln
              obtain ⟨x0, x1⟩ := box_cells HT5.out
              go_upto_region 24 with (fail)
              generalize w5.setCell ⟨T, 2, none⟩ (.slice a5 (os.length + 1) c5) = w6 at *
              obtain ⟨P3, HC6⟩ : ∃ P3, Hid (BuAt F (fun k => S k ∧ k < w.heap.size) w p r q ia (some ⟨b, off, none⟩) ic oc T P3 m3 ms q.ins (os ++ [o]) ns am ai a5 an cm ci c5 cn w6) := ⟨_, HB6⟩
              clear x0 x1 HT5 HB4 HSR HX4 HB6
              have HB6 := HC6
              clear HC6
              obtain ⟨x0, x1⟩ := box_cells HX6.out
              obtain ⟨y0, y1⟩ := box_cells HB6.out.wit
              have hb7 := bnew (Below.refl w6.heap.size w6) (.cells #[.int .u64 nt.value, .int .u64 nt.owner, .int .u64 nt.rho, .int .u64 nt.blind] 56)
              have HB7 := Lib.hid (HB6.out.keepB hb7)
              have HSR : Hid (Src noteR (fun _ => False) (w6.alloc (.cells #[.int .u64 nt.value, .int .u64 nt.owner, .int .u64 nt.rho, .int .u64 nt.blind] 56)) (.slice (some ⟨w6.heap.size, 0, none⟩) 1 1) [nt]) := Src.one (noteR.mk HNT.out) (CellsAt.new w6 [.int .u64 nt.value, .int .u64 nt.owner, .int .u64 nt.rho, .int .u64 nt.blind] 56)
              clear hb7
              go_wp2_with (at_builtin; refine wpList_append_rel (r := noteR) (base := T + 1 + 1) (v := .slice an ns.length cn) (u := .slice (some ⟨w6.heap.size, 0, none⟩) 1 1) rfl _ _ rfl Tryz.etyNote rfl rfl HB7.out.notes HSR.out (fun _ _ h => h.elim) (fun _ _ h => h) (by have := HNL4.out; unfold maxLen; simp; omega) (by have := HNL4.out; simp; omega) HB7.out.sizeT ?_)
              intro v8 w8 ho8 hk8 _
              obtain ⟨a8, c8, rfl, -, -⟩ := sliceR.form ho8.slice
              have HT8 := Lib.hid (box_kept hk8 HB7.out.wit fun e => by
                rcases HB7.out.cols.low 5 _ (own_free HB7.out.notes e) with h4 | ⟨h4, -⟩ <;> omega)
              have HB9 := Lib.hid (HB7.out.push_notes (ho8.mono fun k _ h => h.imp id fun h => by rw [World.size_alloc]; exact h) hk8)
              have hln : (ns ++ [nt]).length = ns.length + 1 := by simp
              rw [hln] at HB9
              have HLO2 : Hid ((os ++ [o]).length = k + 1) := by show _ = _; rw [List.length_append, HLO.out]; rfl
              have HLN2 : Hid ((ns ++ [nt]).length = k + 1) := by show _ = _; rw [List.length_append, HLN.out]; rfl
              clear ho8 hk8 x0 x1 y0 y1 hln
              obtain ⟨x0, x1⟩ := box_cells HT8.out
              go_upto_region 25 with (fail)
              generalize w8.setCell ⟨T + 1, 1, none⟩ (.slice a8 (ns.length + 1) c8) = w9 at *
              clear x0 x1 HT8
              go_wp2_with fail
              go_roundw
              case rel => exact ⟨k + 1, _, m3, os ++ [o], ns ++ [nt], a5, a8, c5, c8, hlt, by go_num, HB9, HMX, HLO2, HLN2, HM2⟩
              case measure => simp [intOf]; omega
            · obtain rfl : k = q.outs.length := by omega
              have HPI : Hid (m2.ideal = m.ideal) := by
                have h := outL_ideal m1 og q.seed q.outs q.outs.length
                rw [HOL.out] at h
                exact h.trans HI1.out
              have HPV : Hid (∀ g, pvG m2 r.mode D (BuAt.txm q ms os) ⟨q.ins, ns, q.secret⟩ = g → buildG m r D q = if g.1 = 0 then (0, { BuAt.txm q ms os with proof := g.2.1 }, ⟨q.ins, ns, q.secret⟩, g.2.2) else (g.1, tx0, wit0, g.2.2)) := fun g h => HG0.out _ (by
                rw [← h]
                simp only [HOL.out]
                exact pvG_build)
              have HRD : Hid (r.depth = D) := by
                have h0 := examE_se HEX.out
                rw [← HSE.out] at h0
                have := (settE_modes h0 HR.out).2
                rw [← HDE.out]
                show _ = _
                omega
              have HSM : Hid (settE m2.ideal r.mode r.depth r.bl r.bu r.qu r.rew r.win r.fin r.work = 0) := by
                show _ = _
                rw [HPI.out, HSE.out]
                exact examE_se HEX.out
              have HLF : Hid (m2.n + m2.qs.length + 100 ≤ 100000) := by have := HLI.out; have := HLK.out; have := HLE.out; show _ ≤ _; omega
              clear HG0 hk hlt HI1 HLO HLN HOL
              go_upto_region 26 with (fail)
              have HBA0 := Lib.hid (HBK.out.keepB (Below.refl wr.heap.size wr).drew)
              have HSa0 := Lib.hid HBA0.out.loads
              refine wp_region_held_drew (S := BuS w T [.int .i64 r.mode, .int .i64 r.depth, .int .i64 r.bl, .int .i64 r.bu, .int .i64 r.qu, .int .u64 r.rew, .int .i64 r.win, .int .i64 r.fin, .int .u64 r.work] [.int .u64 q.anchor, .slice ia q.ins.length ic, .slice oa q.outs.length oc, .int .u64 q.dep, .int .u64 q.wd, .int .u64 q.fee, .int .u64 q.acc, .int .u64 q.nonce, .int .u64 q.secret, .int .i64 q.exp, .int .u64 q.seed] [.int .u64 q.anchor, .slice am ms.length cm, .slice ao os.length co, .int .u64 q.dep, .int .u64 q.wd, .int .u64 q.fee, .int .u64 q.acc, .int .u64 q.nonce, .int .i64 q.exp, .slice none 0 0] [.slice ai q.ins.length ci, .slice an ns.length cn, .int .u64 q.secret]) (by kernel_rfl) HSa0.out (fun hHeld => ?_)
              obtain ⟨wa, hwa⟩ : ∃ x, wr.drew = x := ⟨_, rfl⟩
              rw [hwa] at hHeld HBA0 HSa0 ⊢
              have HBA := HBA0
              have HSa := HSa0
              clear hwa HBA0 HSa0 HBK
              go_simp
              refine tkV 0 rfl (fun wz hSz => by go_simp; all_goals with_reducible rfl) ?_
              go_simp
              refine tkY 1 rfl (yieldsIf_load_mid (by rfl) _ _ rfl (w.heap.size) (0) rfl [.int .i64 r.mode, .int .i64 r.depth, .int .i64 r.bl, .int .i64 r.bu, .int .i64 r.qu, .int .u64 r.rew, .int .i64 r.win, .int .i64 r.fin, .int .u64 r.work] _ (fun wz hSz => range_box hSz.rules) Tryz.underlying26 rfl (by kernel_rfl)) ?_
              go_simp
              refine tkY 2 rfl (yieldsIf_load_mid (by rfl) _ _ rfl T (0) rfl [.int .u64 q.anchor, .slice am ms.length cm, .slice ao os.length co, .int .u64 q.dep, .int .u64 q.wd, .int .u64 q.fee, .int .u64 q.acc, .int .u64 q.nonce, .int .i64 q.exp, .slice none 0 0] _ (fun wz hSz => range_box hSz.tx) Tryz.underlying45 rfl (by kernel_rfl)) ?_
              go_simp
              refine tkV 3 rfl (fun wz hSz => by go_simp; all_goals with_reducible rfl) ?_
              go_simp
              refine tkV 4 rfl (fun wz hSz => by have cx := (box_cells hSz.rules).1; go_simp; all_goals with_reducible rfl) ?_
              go_simp
              refine tkY 6 rfl (yieldsIf_load_mid (by rfl) _ _ rfl (T + 1) (0) rfl [.slice ai q.ins.length ci, .slice an ns.length cn, .int .u64 q.secret] _ (fun wz hSz => range_box hSz.wit) Tryz.underlying48 rfl (by kernel_rfl)) ?_
              go_simp
              refine tkV 7 rfl (fun wz hSz => by go_simp; all_goals with_reducible rfl) ?_
              go_simp
              refine tkV 8 rfl (fun wz hSz => by have cx := (box_cells hSz.req).1; go_simp; all_goals with_reducible rfl) ?_
              go_simp
              refine rd1 5 rfl (fun K hK => ?_)
              go_simp
              have hst := stat_any _ wa (BuAt.txm q ms os) am ao none cm co 0 (HBA.out.txin HRQ.out) D HDB.out r HR.out HRD.out
              rw [← HRD.out] at hst
              refine hst.mono ?_
              clear hst
              rintro E w3 ⟨sC, rfl, hb3, hpv⟩
              have HB3 := Lib.hid (HBA.out.keepB hb3)
              have HPR := Lib.hid (hpv.out (P 1) (fun k => P 3 k ∨ P 5 k) p m2 ⟨q.ins, ns, q.secret⟩ ai an ci cn q.seed HB3.out.orc (fun k h => HB3.out.cols.lt 1 k h) HSM.out (HB3.out.wtin HRQ.out) HLF.out)
              clear hHeld hb3 hpv
              refine hK.out _ _ HB3.out.loads (fun hHeld => ?_)
              clear hK K HSa HBA
              go_simp
              refine rd1 9 rfl (fun K hK => ?_)
              go_simp
              refine (HPR.out).mono ?_
              rintro E w4 ⟨ys, pa, pc, hys, rfl, hby, hyl, ho4, hk4⟩
              obtain ⟨g, hg⟩ : ∃ x, pvG m2 r.mode D (BuAt.txm q ms os) ⟨q.ins, ns, q.secret⟩ = x := ⟨_, rfl⟩
              have HGG := Lib.hid (HPV.out g hg)
              rw [hg] at hys ho4 ⊢
              have hys2 := hys.out
              have ha := HB3.out.ask hk4 ho4 fun k _ h => .inl h
              have hr6 : ∀ k, (w3.heap.size ≤ k ∧ k < w4.heap.size) → k < w4.heap.size ∧ T + 1 + 1 ≤ k ∧ ∀ j, ¬ colAdd P 1 (fun k => P 1 k ∧ w3.heap.size ≤ k ∧ k < w4.heap.size) j k := fun k h => ⟨h.2, Nat.le_trans HB3.out.sizeT h.1, fun j hp => by
                rcases hp with hp | ⟨-, hp⟩
                · have := HB3.out.cols.lt j k hp; omega
                · have := HB3.out.cols.lt 1 k hp.1; omega⟩
              obtain ⟨P4, HB4, HBY⟩ : ∃ P4, Hid (BuAt F (fun k => S k ∧ k < w.heap.size) w p r q ia oa ic oc T P4 g.2.2 ms q.ins os ns am ai ao an cm ci co cn w4) ∧ Hid (bytesR.rel (P4 6) w4 [.slice pa ys.length pc] ys) := ⟨_, ha.recol2 6 _ hr6, bytesR.mono (bytesR.bound hby) fun k _ h => .inr ⟨rfl, h⟩⟩
              have HYL := Lib.hid hyl
              have HYS := Lib.hid hys2
              clear hHeld hys hys2 hby hyl ho4 hk4 ha hr6 HPV hg
              refine hK.out _ _ HB4.out.loads (fun hHeld => ?_)
              clear hK K HB3 HPR
              go_simp
              refine tkV 10 rfl (fun wz hSz => by go_simp; all_goals with_reducible rfl) ?_
              go_simp
              refine tkV 11 rfl (fun wz hSz => by go_simp; all_goals with_reducible rfl) ?_
              go_simp
              refine tkV 12 rfl (fun wz hSz => by go_simp; all_goals with_reducible rfl) ?_
              go_simp
              refine tkV 13 rfl (fun wz hSz => by go_simp; all_goals with_reducible rfl) ?_
              go_simp
              refine tkV 14 rfl (fun wz hSz => by go_simp; all_goals with_reducible rfl) ?_
              go_simp
              clear hHeld
              refine wpAnyH_done (by kernel_rfl) ?_ _
              by_cases hg1 : g.1 = 0
              · have HG : Hid (buildG m r D q = (0, { BuAt.txm q ms os with proof := ys }, ⟨q.ins, ns, q.secret⟩, g.2.2)) := by show _ = _; rw [HGG.out, if_pos hg1, HYS.out]
                rw [hg1]
                clear hg1 HGG HYS
                obtain ⟨x0, x1⟩ := box_cells HB4.out.tx
                go_upto_region 30 with (fail)
                have hk5 : Kept (fun k => k ≠ T) w4 (w4.setCell ⟨T, 9, none⟩ (.slice pa ys.length pc)) := (Kept.refl (fun k => k ≠ T) _).setCell (fun _ h => h rfl) _
                have HL4 : Hid (w.heap.size + 1 + 1 + 1 < T) := HB4.out.lay
                have HT5 : Hid ((w4.setCell ⟨T, 9, none⟩ (.slice pa ys.length pc)).heap[T]? = some (.cells [.int .u64 q.anchor, .slice am ms.length cm, .slice ao os.length co, .int .u64 q.dep, .int .u64 q.wd, .int .u64 q.fee, .int .u64 q.acc, .int .u64 q.nonce, .int .i64 q.exp, .slice pa ys.length pc].toArray 45 (0, 0))) := box_set HB4.out.tx
                have HW5 : Hid ((w4.setCell ⟨T, 9, none⟩ (.slice pa ys.length pc)).heap[T + 1]? = some (.cells [.slice ai q.ins.length ci, .slice an ns.length cn, .int .u64 q.secret].toArray 48 (0, 0))) := box_kept hk5 HB4.out.wit (by omega)
                have HR5 : Hid ((w4.setCell ⟨T, 9, none⟩ (.slice pa ys.length pc)).heap[w.heap.size + 1 + 1]? = some (.cells #[.int .u64 0, .slice none 0 0, .slice none 0 0, .int .u64 0, .int .u64 0, .int .u64 0, .int .u64 0, .int .u64 0, .int .i64 0, .slice none 0 0] 45 (0, 0))) := box_kept hk5 HB4.out.rt (by have := HL4.out; omega)
                have HS5 : Hid ((w4.setCell ⟨T, 9, none⟩ (.slice pa ys.length pc)).heap[w.heap.size + 1 + 1 + 1]? = some (.cells #[.slice none 0 0, .slice none 0 0, .int .u64 0] 48 (0, 0))) := box_kept hk5 HB4.out.rw (by have := HL4.out; omega)
                have HK5 := Lib.hid hk5
                generalize w4.setCell ⟨T, 9, none⟩ (.slice pa ys.length pc) = w5 at *
                clear x0 x1 hk5
                refine wp_region_held_drew (S := TwoB T [.int .u64 q.anchor, .slice am ms.length cm, .slice ao os.length co, .int .u64 q.dep, .int .u64 q.wd, .int .u64 q.fee, .int .u64 q.acc, .int .u64 q.nonce, .int .i64 q.exp, .slice pa ys.length pc] 45 (T + 1) [.slice ai q.ins.length ci, .slice an ns.length cn, .int .u64 q.secret] 48) (by kernel_rfl) (⟨HT5.out, HW5.out⟩) (fun hHeld => ?_)
                obtain ⟨w6, hw6⟩ : ∃ x, w5.drew = x := ⟨_, rfl⟩
                rw [hw6] at hHeld ⊢
                have HR6 : Hid (w6.heap[w.heap.size + 1 + 1]? = some (.cells #[.int .u64 0, .slice none 0 0, .slice none 0 0, .int .u64 0, .int .u64 0, .int .u64 0, .int .u64 0, .int .u64 0, .int .i64 0, .slice none 0 0] 45 (0, 0))) := by rw [← hw6]; exact HR5.out
                have HS6 : Hid (w6.heap[w.heap.size + 1 + 1 + 1]? = some (.cells #[.slice none 0 0, .slice none 0 0, .int .u64 0] 48 (0, 0))) := by rw [← hw6]; exact HS5.out
                have HK6 : Hid (Kept (fun k => k ≠ T) w4 w6) := by rw [← hw6]; exact HK5.out.trans (Kept.of_below (S := fun _ => True) (Below.refl _ _).drew) fun _ _ _ => trivial
                have HH6 := Lib.hid hHeld
                clear hw6 HT5 HW5 HR5 HS5 HK5
                go_simp
                refine tkY 0 rfl (yieldsIf_load_mid (by rfl) _ _ rfl T 0 rfl [.int .u64 q.anchor, .slice am ms.length cm, .slice ao os.length co, .int .u64 q.dep, .int .u64 q.wd, .int .u64 q.fee, .int .u64 q.acc, .int .u64 q.nonce, .int .i64 q.exp, .slice pa ys.length pc] _ (fun wz hSz => range_box hSz.one) Tryz.underlying45 rfl (by kernel_rfl)) ?_
                go_simp
                refine tkY 1 rfl (yieldsIf_load_mid (by rfl) _ _ rfl (T + 1) 0 rfl [.slice ai q.ins.length ci, .slice an ns.length cn, .int .u64 q.secret] _ (fun wz hSz => range_box hSz.two) Tryz.underlying48 rfl (by kernel_rfl)) ?_
                go_simp
                refine rd1 2 rfl (fun K hK => ?_)
                refine step_store_row rfl _ _ _ rfl (w.heap.size + 1 + 1) _ rfl rfl _ _ HR6.out (by kernel_rfl) rfl (by kernel_rfl) ?_
                clear hHeld
                refine hK.out _ _ (TwoB.setRow HH6.out (by have := HL4.out; omega) (by have := HL4.out; omega) _) (fun hHeld => ?_)
                clear hK K
                go_simp
                have HR7 : Hid ((w6.setRow (w.heap.size + 1 + 1) #[.int .u64 q.anchor, .slice am ms.length cm, .slice ao os.length co, .int .u64 q.dep, .int .u64 q.wd, .int .u64 q.fee, .int .u64 q.acc, .int .u64 q.nonce, .int .i64 q.exp, .slice pa ys.length pc]).heap[w.heap.size + 1 + 1]? = some (.cells #[.int .u64 q.anchor, .slice am ms.length cm, .slice ao os.length co, .int .u64 q.dep, .int .u64 q.wd, .int .u64 q.fee, .int .u64 q.acc, .int .u64 q.nonce, .int .i64 q.exp, .slice pa ys.length pc] 45 (0, 0))) := setRow_heap _ _ _ _ _ _ HR6.out
                have HS7 : Hid ((w6.setRow (w.heap.size + 1 + 1) #[.int .u64 q.anchor, .slice am ms.length cm, .slice ao os.length co, .int .u64 q.dep, .int .u64 q.wd, .int .u64 q.fee, .int .u64 q.acc, .int .u64 q.nonce, .int .i64 q.exp, .slice pa ys.length pc]).heap[w.heap.size + 1 + 1 + 1]? = some (.cells #[.slice none 0 0, .slice none 0 0, .int .u64 0] 48 (0, 0))) := by show _ = _; rw [setRow_other _ _ _ _ (by omega)]; exact HS6.out
                have HK7 := Lib.hid (kept_setRow w6 (w.heap.size + 1 + 1) #[.int .u64 q.anchor, .slice am ms.length cm, .slice ao os.length co, .int .u64 q.dep, .int .u64 q.wd, .int .u64 q.fee, .int .u64 q.acc, .int .u64 q.nonce, .int .i64 q.exp, .slice pa ys.length pc])
                have HH7 := Lib.hid hHeld
                generalize w6.setRow (w.heap.size + 1 + 1) #[.int .u64 q.anchor, .slice am ms.length cm, .slice ao os.length co, .int .u64 q.dep, .int .u64 q.wd, .int .u64 q.fee, .int .u64 q.acc, .int .u64 q.nonce, .int .i64 q.exp, .slice pa ys.length pc] = w7 at *
                refine rd1 3 rfl (fun K hK => ?_)
                refine step_store_row rfl _ _ _ rfl (w.heap.size + 1 + 1 + 1) _ rfl rfl _ _ HS7.out (by kernel_rfl) rfl (by kernel_rfl) ?_
                clear hHeld
                refine hK.out _ _ (TwoB.setRow HH7.out (by have := HL4.out; omega) (by have := HL4.out; omega) _) (fun hHeld => ?_)
                clear hK K
                go_simp
                refine tkV 4 rfl (fun wz hSz => by go_simp; all_goals with_reducible rfl) ?_
                clear hHeld
                refine wpAnyH_done (by kernel_rfl) ?_ _
                have HF1 : Hid ((w7.setRow (w.heap.size + 1 + 1 + 1) #[.slice ai q.ins.length ci, .slice an ns.length cn, .int .u64 q.secret]).heap[w.heap.size + 1 + 1]? = some (.cells #[.int .u64 q.anchor, .slice am ms.length cm, .slice ao os.length co, .int .u64 q.dep, .int .u64 q.wd, .int .u64 q.fee, .int .u64 q.acc, .int .u64 q.nonce, .int .i64 q.exp, .slice pa ys.length pc] 45 (0, 0))) := by show _ = _; rw [setRow_other _ _ _ _ (by omega)]; exact HR7.out
                have HF2 : Hid ((w7.setRow (w.heap.size + 1 + 1 + 1) #[.slice ai q.ins.length ci, .slice an ns.length cn, .int .u64 q.secret]).heap[w.heap.size + 1 + 1 + 1]? = some (.cells #[.slice ai q.ins.length ci, .slice an ns.length cn, .int .u64 q.secret] 48 (0, 0))) := setRow_heap _ _ _ _ _ _ HS7.out
                have hkf : Kept (fun k => k ≠ T ∧ k ≠ w.heap.size + 1 + 1 ∧ k ≠ w.heap.size + 1 + 1 + 1) w4 (w7.setRow (w.heap.size + 1 + 1 + 1) #[.slice ai q.ins.length ci, .slice an ns.length cn, .int .u64 q.secret]) :=
                  ((HK6.out.mono (S' := fun k => k ≠ T ∧ k ≠ w.heap.size + 1 + 1 ∧ k ≠ w.heap.size + 1 + 1 + 1) fun k _ h => h.1).trans HK7.out fun k _ h => h.2.1).trans (kept_setRow w7 (w.heap.size + 1 + 1 + 1) #[.slice ai q.ins.length ci, .slice an ns.length cn, .int .u64 q.secret]) fun k _ h => h.2.2
                have hfin := build_yes HB4.out HRQ.out HBY.out hkf
                rw [← HG.out] at hfin
                have HFIN := Lib.hid hfin
                clear hfin hkf
                generalize w7.setRow (w.heap.size + 1 + 1 + 1) #[.slice ai q.ins.length ci, .slice an ns.length cn, .int .u64 q.secret] = w8 at *
                go_wp2_with fail
                (try simp only [Exit.inBlock, Exit.then])
                exact bodyPost_ret (ret_cct Tryz.results9 rfl HF1.out Tryz.underlying45 rfl (by kernel_rfl) rfl HF2.out Tryz.underlying48 rfl (by kernel_rfl)) rfl HFIN.out
              · have HG : Hid (buildG m r D q = (g.1, tx0, wit0, g.2.2)) := by show _ = _; rw [HGG.out, if_neg hg1]
                have n1 : (g.1 == 0) = false := by rw [beq_eq_false_iff_ne]; exact hg1
                have n2 : (g.1 != 0) = true := by rw [bne_iff_ne]; exact hg1
                obtain ⟨ev, hev⟩ : ∃ x, g.1 = x := ⟨_, rfl⟩
                rw [hev] at HG n1 n2 ⊢
                clear hg1 hev HGG HYS
                have HZ4 : Hid ((w4.setRow (w.heap.size + 1 + 1) #[.int .u64 0, .slice none 0 0, .slice none 0 0, .int .u64 0, .int .u64 0, .int .u64 0, .int .u64 0, .int .u64 0, .int .i64 0, .slice none 0 0]).heap[w.heap.size + 1 + 1 + 1]? = some (.cells #[.slice none 0 0, .slice none 0 0, .int .u64 0] 48 (0, 0))) := by show _ = _; rw [setRow_other _ _ _ _ (by omega)]; exact HB4.out.rw
                have HZ1 : Hid (((w4.setRow (w.heap.size + 1 + 1) #[.int .u64 0, .slice none 0 0, .slice none 0 0, .int .u64 0, .int .u64 0, .int .u64 0, .int .u64 0, .int .u64 0, .int .i64 0, .slice none 0 0]).setRow (w.heap.size + 1 + 1 + 1) #[.slice none 0 0, .slice none 0 0, .int .u64 0]).heap[w.heap.size + 1 + 1]? = some (.cells #[.int .u64 0, .slice none 0 0, .slice none 0 0, .int .u64 0, .int .u64 0, .int .u64 0, .int .u64 0, .int .u64 0, .int .i64 0, .slice none 0 0] 45 (0, 0))) := by show _ = _; rw [setRow_other _ _ _ _ (by omega)]; exact setRow_heap _ _ _ _ _ _ HB4.out.rt
                have HZ2 : Hid (((w4.setRow (w.heap.size + 1 + 1) #[.int .u64 0, .slice none 0 0, .slice none 0 0, .int .u64 0, .int .u64 0, .int .u64 0, .int .u64 0, .int .u64 0, .int .i64 0, .slice none 0 0]).setRow (w.heap.size + 1 + 1 + 1) #[.slice none 0 0, .slice none 0 0, .int .u64 0]).heap[w.heap.size + 1 + 1 + 1]? = some (.cells #[.slice none 0 0, .slice none 0 0, .int .u64 0] 48 (0, 0))) := setRow_heap _ _ _ _ _ _ HZ4.out
                go_wp2_with (first
                  | refine wpList_store_row rfl _ _ _ rfl (w.heap.size + 1 + 1) _ rfl rfl _ _ HB4.out.rt (by kernel_rfl) rfl (by kernel_rfl) ?_
                  | refine wpList_store_row rfl _ _ _ rfl (w.heap.size + 1 + 1 + 1) _ rfl rfl _ _ HZ4.out (by kernel_rfl) rfl (by kernel_rfl) ?_)
                (try simp only [Exit.inBlock, Exit.then])
                refine bodyPost_ret (ret_cct Tryz.results9 rfl HZ1.out Tryz.underlying45 rfl (by kernel_rfl) rfl HZ2.out Tryz.underlying48 rfl (by kernel_rfl)) rfl ?_
                rw [HG.out]
                exact build_no HB4.out.kept HB4.out.orc (HB4.out.gone) HFB.out rfl
  · have HG : Hid (buildG m r D q = (examE m se D q, tx0, wit0, m)) := by
      show _ = _
      unfold buildG
      rw [HSE.out, if_neg hex]
    have n1 : (examE m se D q == 0) = false := by rw [beq_eq_false_iff_ne]; exact hex
    have n2 : (examE m se D q != 0) = true := by rw [bne_iff_ne]; exact hex
    obtain ⟨ev, hev⟩ : ∃ x, examE m se D q = x := ⟨_, rfl⟩
    rw [hev] at HG n1 n2 ⊢
    clear hex hev
    have HZ4 : Hid ((w1.setRow (w.heap.size + 1 + 1) #[.int .u64 0, .slice none 0 0, .slice none 0 0, .int .u64 0, .int .u64 0, .int .u64 0, .int .u64 0, .int .u64 0, .int .i64 0, .slice none 0 0]).heap[w.heap.size + 1 + 1 + 1]? = some (.cells #[.slice none 0 0, .slice none 0 0, .int .u64 0] 48 (0, 0))) := by show _ = _; rw [setRow_other _ _ _ _ (by omega)]; exact HX3.out
    have HZ1 : Hid (((w1.setRow (w.heap.size + 1 + 1) #[.int .u64 0, .slice none 0 0, .slice none 0 0, .int .u64 0, .int .u64 0, .int .u64 0, .int .u64 0, .int .u64 0, .int .i64 0, .slice none 0 0]).setRow (w.heap.size + 1 + 1 + 1) #[.slice none 0 0, .slice none 0 0, .int .u64 0]).heap[w.heap.size + 1 + 1]? = some (.cells #[.int .u64 0, .slice none 0 0, .slice none 0 0, .int .u64 0, .int .u64 0, .int .u64 0, .int .u64 0, .int .u64 0, .int .i64 0, .slice none 0 0] 45 (0, 0))) := by show _ = _; rw [setRow_other _ _ _ _ (by omega)]; exact setRow_heap _ _ _ _ _ _ HX2.out
    have HZ2 : Hid (((w1.setRow (w.heap.size + 1 + 1) #[.int .u64 0, .slice none 0 0, .slice none 0 0, .int .u64 0, .int .u64 0, .int .u64 0, .int .u64 0, .int .u64 0, .int .i64 0, .slice none 0 0]).setRow (w.heap.size + 1 + 1 + 1) #[.slice none 0 0, .slice none 0 0, .int .u64 0]).heap[w.heap.size + 1 + 1 + 1]? = some (.cells #[.slice none 0 0, .slice none 0 0, .int .u64 0] 48 (0, 0))) := setRow_heap _ _ _ _ _ _ HZ4.out
    go_wp2_with (first
      | refine wpList_store_row rfl _ _ _ rfl (w.heap.size + 1 + 1) _ rfl rfl _ _ HX2.out (by kernel_rfl) rfl (by kernel_rfl) ?_
      | refine wpList_store_row rfl _ _ _ rfl (w.heap.size + 1 + 1 + 1) _ rfl rfl _ _ HZ4.out (by kernel_rfl) rfl (by kernel_rfl) ?_)
    (try simp only [Exit.inBlock, Exit.then])
    refine bodyPost_ret (ret_cct Tryz.results9 rfl HZ1.out Tryz.underlying45 rfl (by kernel_rfl) rfl HZ2.out Tryz.underlying48 rfl (by kernel_rfl)) rfl ?_
    rw [HG.out]
    exact build_no (Kept.of_below (bnext HB.out HB1.out)) ((HO.out.keepB HB1.out)) (fun k hk => ⟨.inl hk, Nat.lt_of_lt_of_le (HFB.out k hk) (bnext HB.out HB1.out).size⟩) HFB.out rfl
end Go.Proofs.YtdjcdejapkkcmaaGreatDoor
