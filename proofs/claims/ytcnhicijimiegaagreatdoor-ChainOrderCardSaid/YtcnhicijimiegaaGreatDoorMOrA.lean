/- Two chains apart in memory: a step of the one keeps the other. -/
import Derived.Test.YtcnhicijimiegaaGreatDoorMChA
import Derived.Test.YtcnhicijimiegaaGreatDoorMChB
import Derived.Test.YtcnhicijimiegaaGreatDoorMSrt
import Derived.Test.YtcnhicijimiegaaGreatDoorMLw
import Derived.Deep.MidRow
set_option maxRecDepth 100000
namespace Go.Proofs.YtcnhicijimiegaaGreatDoor
open Go.ChangeShapes Go.WideShapes Go.ChangeAt Go.RowKit Go.Sort
def Apart (c : Nat) (SB PI : Nat → Prop) (v : ChV) (c' : Nat) (SB' PI' : Nat → Prop) (v' : ChV) : Prop :=
 (∀ k, ChMut c v k → ¬ SB' k ∧ ¬ PI' k ∧ ¬ ChMut c' v' k) ∧ (∀ k, ChMut c' v' k → ¬ SB k ∧ ¬ PI k ∧ ¬ ChMut c v k)
theorem Apart.symm {c c' : Nat} {SB PI SB' PI' : Nat → Prop} {v v' : ChV} (h : Apart c SB PI v c' SB' PI' v') : Apart c' SB' PI' v' c SB PI v := ⟨h.2, h.1⟩
theorem Apart.step {c c' : Nat} {SB PI SB' PI' SB1 PI1 : Nat → Prop} {v v' v1 : ChV} {w w1 : World} {r : RuM} {m' : ChM} {bs' : List BlkM} (h : Apart c SB PI v c' SB' PI' v') (hat : ChAt c' SB' PI' w r m' bs' v') (hs : ChStp c SB PI v w SB1 PI1 v1 w1) :
   ChAt c' SB' PI' w1 r m' bs' v' ∧ Apart c SB1 PI1 v1 c' SB' PI' v' := by
 refine ⟨hat.keep hs.kept (fun k hk hm => (h.1 k hm).1 hk) (fun k hk hm => (h.1 k hm).2.1 hk) (fun k hk hm => (h.1 k hm).2.2 hk), fun k hk => ?_, fun k hk => ?_⟩
 · rcases hs.turn k hk with h1 | h1
   · exact h.1 k h1
   · refine ⟨fun h2 => ?_, fun h2 => ?_, fun h2 => ?_⟩
     · have := hat.lt k h2; omega
     · have := hat.state.lt k h2; omega
     · have := hat.mut_lt k h2; omega
 · have hlt := hat.mut_lt k hk
   obtain ⟨h1, h2, h3⟩ := h.2 k hk
   refine ⟨fun h4 => ?_, fun h4 => ?_, fun h4 => ?_⟩
   · rcases hs.sb' k h4 with h5 | h5
     · exact h1 h5
     · omega
   · rcases hs.pi' k h4 with h5 | h5 | h5
     · exact h2 h5
     · exact h3 h5
     · omega
   · rcases hs.turn k h4 with h5 | h5
     · exact h3 h5
     · omega
end Go.Proofs.YtcnhicijimiegaaGreatDoor
/- The chain of the program: Tips. -/
namespace Go.Proofs.YtcnhicijimiegaaGreatDoor
open Go.ChangeShapes Go.WideShapes Go.ChangeAt Go.RowKit Go.Sort Go.Maps
def isTip (m : ChM) (x : Int) : Prop := (∃ e, findS m.L x = some e) ∧ ∀ y e, findS m.L y = some e → ¬ (1 < e.b.height ∧ e.b.parent = x)
def TipOut (m : ChM) (w : World) (e : Ending) (w' : World) : Prop :=
 ∃ (a : Option Addr) (cap : Nat) (L : List Int), e = .returned (.slice a L.length cap) ∧ Own u64R w.heap.size 24 (fun k => w.heap.size ≤ k) w' (.slice a L.length cap) L ∧ L.Pairwise (· < ·) ∧ (∀ x, x ∈ L ↔ isTip m x) ∧ Below w.heap.size w w'
structure ParI (m : ChM) (left : Int → Bool) (pm : NMap) : Prop where
 val : ∀ x v, getM pm x = some v → v = .bool true ∧ ∃ y e, findS m.L y = some e ∧ 1 < e.b.height ∧ e.b.parent = x
 all : ∀ y e, findS m.L y = some e → left y = false → 1 < e.b.height → getM pm e.b.parent = some (.bool true)
theorem ParI.skip {m : ChM} {left : Int → Bool} {pm : NMap} (h : ParI m left pm) {x : Int} {e : StB} (hx : findS m.L x = some e) (hh : ¬ 1 < e.b.height) : ParI m (fun y => left y && !(y == x)) pm :=
 ⟨h.val, fun y e' hy hl h1 => by
   by_cases hyx : y = x
   · subst hyx
     rw [hx] at hy; obtain rfl := Option.some.inj hy
     exact absurd h1 hh
   · refine h.all y e' hy ?_ h1
     simpa [hyx] using hl⟩
theorem ParI.put {m : ChM} {left : Int → Bool} {pm : NMap} (h : ParI m left pm) {x : Int} {e : StB} (hx : findS m.L x = some e) (hh : 1 < e.b.height) : ParI m (fun y => left y && !(y == x)) (putM pm e.b.parent (.bool true)) :=
 ⟨fun z v hz => by
   by_cases hze : z = e.b.parent
   · subst hze
     rw [get_put_same] at hz
     exact ⟨(Option.some.inj hz).symm, x, e, hx, hh, rfl⟩
   · rw [get_put_other _ _ _ _ hze] at hz
     exact h.val z v hz,
  fun y e' hy hl h1 => by
   by_cases hp : e'.b.parent = e.b.parent
   · rw [hp, get_put_same]
   · rw [get_put_other _ _ _ _ hp]
     refine h.all y e' hy ?_ h1
     have hyx : y ≠ x := fun hyx => by
       subst hyx; rw [hx] at hy
       exact hp (by rw [Option.some.inj hy])
     simpa [hyx] using hl⟩
structure TipI (m : ChM) (pm : NMap) (left : Int → Bool) (L : List Int) : Prop where
 nd : L.Nodup
 mem : ∀ x, x ∈ L ↔ (∃ e, findS m.L x = some e) ∧ left x = false ∧ getM pm x = none
theorem TipI.start (m : ChM) (pm : NMap) {left : Int → Bool} (h : ∀ x, left x = (findS m.L x).isSome) : TipI m pm left [] :=
 ⟨List.nodup_nil, fun x => ⟨fun hx => by simp at hx, fun hx => by
   obtain ⟨⟨e, he⟩, hl, -⟩ := hx; rw [h, he] at hl
   simp at hl⟩⟩
theorem TipI.skip {m : ChM} {pm : NMap} {left : Int → Bool} {L : List Int} (h : TipI m pm left L) {x : Int} (hg : getM pm x ≠ none) : TipI m pm (fun y => left y && !(y == x)) L :=
 ⟨h.nd, fun y => by
   rw [h.mem y]
   by_cases hyx : y = x
   · subst hyx
     exact ⟨fun a => absurd a.2.2 hg, fun a => absurd a.2.2 hg⟩
   · simp [hyx]⟩
theorem TipI.put {m : ChM} {pm : NMap} {left : Int → Bool} {L : List Int} (h : TipI m pm left L) {x : Int} {e : StB} (hx : findS m.L x = some e) (hl : left x = true) (hg : getM pm x = none) : TipI m pm (fun y => left y && !(y == x)) (L ++ [x]) :=
 ⟨by
   rw [List.nodup_append]
   refine ⟨h.nd, by simp, fun a ha b hb => ?_⟩
   rw [List.mem_singleton] at hb; subst hb
   intro e
   subst e; have := ((h.mem a).1 ha).2.1; rw [hl] at this
   simp at this,
  fun y => by
   rw [List.mem_append, List.mem_singleton, h.mem y]
   by_cases hyx : y = x
   · subst hyx
     exact ⟨fun _ => ⟨⟨e, hx⟩, by simp, hg⟩, fun _ => .inr rfl⟩
   · simp [hyx]⟩
theorem tips_done {m : ChM} {pm : NMap} {left left' : Int → Bool} {L L' : List Int} (hp : ParI m left' pm) (hl' : ∀ x, left' x = false) (h : TipI m pm left L) (hl : ∀ x, left x = false) (hperm : L'.Perm L) (hs : L'.Pairwise (· ≤ ·)) : L'.Pairwise (· < ·) ∧ ∀ x, x ∈ L' ↔ isTip m x := by
 refine ⟨?_, fun x => ?_⟩
 · have hn : L'.Nodup := hperm.nodup_iff.2 h.nd
   have := hs.and hn
   exact this.imp fun ⟨h1, h2⟩ => by omega
 · rw [hperm.mem_iff, h.mem x]
   constructor
   · rintro ⟨h1, -, h3⟩
     refine ⟨h1, fun y e hy hc => ?_⟩
     have := hp.all y e hy (hl' y) hc.1; rw [hc.2, h3] at this
     simp at this
   · rintro ⟨h1, h2⟩
     refine ⟨h1, hl x, ?_⟩
     cases hg : getM pm x with
     | none => rfl
     | some v =>
       obtain ⟨-, y, e, hy, ha, hb⟩ := hp.val x v hg
       exact absurd ⟨ha, hb⟩ (h2 y e hy)
theorem rising_eq : ∀ {l m : List Int}, l.Pairwise (· < ·) → m.Pairwise (· < ·) → (∀ x, x ∈ l ↔ x ∈ m) → l = m
 | [], [], _, _, _ => rfl
 | [], b :: m, _, _, h => by have := (h b).2 (by simp); simp at this
 | a :: l, [], _, _, h => by have := (h a).1 (by simp); simp at this
 | a :: l, b :: m, hl, hm, h => by
   obtain ⟨hl1, hl2⟩ := List.pairwise_cons.1 hl; obtain ⟨hm1, hm2⟩ := List.pairwise_cons.1 hm
   have hab : a = b := by
     have h1 := (h a).1 (by simp)
     have h2 := (h b).2 (by simp)
     rcases List.mem_cons.1 h1 with e | h1
     · exact e
     · rcases List.mem_cons.1 h2 with e | h2
       · exact e.symm
       · have := hl1 b h2
         have := hm1 a h1
         omega
   subst hab
   rw [rising_eq hl2 hm2 fun x => ?_]
   constructor
   · intro hx
     rcases List.mem_cons.1 ((h x).1 (List.mem_cons_of_mem _ hx)) with e | h1
     · subst e; have := hl1 x hx; omega
     · exact h1
   · intro hx
     rcases List.mem_cons.1 ((h x).2 (List.mem_cons_of_mem _ hx)) with e | h1
     · subst e; have := hm1 x hx; omega
     · exact h1
set_option maxHeartbeats 4000000 in
theorem tips_any (c : Nat) (SB PI : Nat → Prop) (w : World) (r : RuM) (m : ChM) (bs : List BlkM) (v : ChV) (h : ChAt c SB PI w r m bs v) (hl : m.L.length ≤ 12) :
   Calls Tryz.prog 12 #[.pointer (some ⟨c, 0, none⟩)] w (TipOut m w) := by
 obtain ⟨nm, hm1, hm2, hm3⟩ := h.map
 have HBE : Hid (∀ x e, findS m.L x = some e → okU e.b.parent) := fun x e he => (h.blocks e (findS_some he).1).1.parent
 have hbA := bnew (Below.refl w.heap.size w) (.map #[] 0); have HC := Lib.hid (box_after hbA h.cell); have HM := Lib.hid (hm1.keepB hbA); have HG := Lib.hid hm2
 have HN : Hid (nm.length ≤ 12) := by show _ ≤ _; omega
 have HP := Lib.hid (mapAt_made w); have HB := Lib.hid hbA; have HLT : Hid (v.mb < w.heap.size) := hm1.lt; have H0 := Lib.hid h.cell; have hmm := @run_makeMap Tryz.prog; clear hbA h hm1 hm2 hm3 hl
 go_enter Tryz.func12, Tryz.ntmps12
 go_upto_region 2 with (fail)
 generalize w.alloc (.map #[] 0) = W at *; obtain ⟨B0, hB0⟩ : ∃ x, w.heap.size = x := ⟨_, rfl⟩; have HB00 := Lib.hid hB0; rw [hB0] at HP HLT ⊢; have HW0 : Hid (B0 < W.heap.size) := HP.out.lt; obtain ⟨x0, x1⟩ := box_cells HC.out
 simp only [chCells] at x0
 go_wp2_with (first
   | (at_range; refine wpList_rangeM rfl _ rfl _ 71 rfl 75 Tryz.underlying71 v.mb nm rfl HM.out ?_; intro w1 hrg1 hb1 hs1)
   | go_in)
 go_frame
 have HRG := Lib.hid hrg1; have HB1 := Lib.hid hb1; have HP1 := Lib.hid (HP.out.keepB hb1); clear x0 x1 hrg1 hb1 hs1; obtain ⟨R, hR⟩ : ∃ x, W.heap.size = x := ⟨_, rfl⟩; rw [hR] at HRG HW0 ⊢
 have HBW : Hid (Below B0 w w1) := by rw [← hB0]; exact bnext HB.out HB1.out
 have HCW := Lib.hid (box_after HB1.out HC.out); clear hR HB HB1
 go_loopw [14] (fun _ wr => ∃ (pm : NMap) (left : Int → Bool) (cnt : Nat), Hid (RngAt wr v.mb R nm left cnt) ∧ Hid (MapAt wr B0 pm) ∧ Hid (ParI m left pm) ∧ pm.length + cnt ≤ nm.length ∧ Hid (Below B0 w wr)) (fun _ wr => wr.rangeLeft v.mb R)
 case atStart => exact ⟨[], _, _, HRG, HP1, ⟨fun x v hv => by simp [getM] at hv, fun y e hy hl _ => by rw [HG.out, hy] at hl; simp at hl⟩, by simp, HBW⟩
 case round =>
   clear HRG HP1 HBW HCW; obtain ⟨pm, left, cnt, HRG, HPM, HPI, hcn, HBR⟩ := hrel; obtain ⟨wo, hwo⟩ : ∃ x, x = wr := ⟨_, rfl⟩; subst hwo
   go_wp2_with (first
     | (at_next; refine wpList_nextM rfl _ rfl _ rfl v.mb R nm left cnt rfl HRG.out ?_ ?_)
     | go_in)
   · intro hc0 hl0
     have HL0 := Lib.hid hl0
     have HC9 := Lib.hid (box_after (by rw [HB00.out]; exact HBR.out) H0.out)
     have HM9 := Lib.hid HRG.out.map; have HR9 : Hid (R < wo.heap.size ∧ B0 < R ∧ v.mb < B0) := ⟨HRG.out.lt.2.1, HW0.out, HLT.out⟩; clear hc0 hl0 HRG
     go_upto_region 8 with (fail)
     obtain ⟨x0, x1⟩ := box_cells HC9.out
     simp only [chCells] at x0
     go_wp2_with (first
       | (at_range; refine wpList_rangeM rfl _ rfl _ 71 rfl 75 Tryz.underlying71 v.mb nm rfl HM9.out ?_; intro w1 hrg1 hb1 hs1)
       | go_in)
     go_frame
     have HRG := Lib.hid hrg1; have HP1 := Lib.hid (HPM.out.keepB hb1)
     have HBW : Hid (Below B0 w w1) := HBR.out.trans (hb1.mono (by have := HR9.out; omega))
     obtain ⟨R2, hR2⟩ : ∃ x, wo.heap.size = x := ⟨_, rfl⟩; rw [hR2] at HRG HR9 hs1 ⊢; clear hrg1 hb1 x0 x1 HPM HBR HM9 HC9 hR2
     go_loopw [6] (fun v6 wr => ∃ (L : List Int) (left2 : Int → Bool) (cnt2 : Nat), Hid (RngAt wr v.mb R2 nm left2 cnt2) ∧ Hid (MapAt wr B0 pm) ∧ Hid (TipI m pm left2 L) ∧ Hid (Own u64R (R2 + 1) 24 (fun k => R2 + 1 ≤ k) wr v6 L) ∧ L.length + cnt2 ≤ nm.length ∧ Hid (Below B0 w wr) ∧ Hid (R2 + 1 ≤ wr.heap.size)) (fun _ wr => wr.rangeLeft v.mb R2)
     case atStart => exact ⟨[], _, _, HRG, HP1, TipI.start m pm (fun x => by rw [HG.out, Option.isSome_map]), Own.nil _ _ _ _ _, by simp, HBW, by show _ ≤ _; omega⟩
     case round =>
       clear HRG HP1 HBW hs1; obtain ⟨L, left2, cnt2, HRG, HPM, HTI, HOW, hcn2, HBR, HSZ⟩ := hrel; obtain ⟨wq, hwq⟩ : ∃ x, x = wr := ⟨_, rfl⟩; subst hwq; obtain ⟨ua, uc, rfl, -, -⟩ := own_form HOW.out
       go_wp2_with (first
         | (at_next; refine wpList_nextM rfl _ rfl _ rfl v.mb R2 nm left2 cnt2 rfl HRG.out ?_ ?_)
         | go_in)
       · intro hc1 hl1
         have HL1 := Lib.hid hl1
         have HN12 : L.length ≤ 12 := by have := HN.out; omega
         clear hc1 hl1; go_wp2_with fail
         refine (sort12_any (R2 + 1) _ wq ua uc L HN12 HOW.out).mono ?_
         rintro e w5 ⟨rfl, L', hperm, hsort, ho5, hk5⟩; have hlen := hperm.length_eq; obtain ⟨hlt', hmem⟩ := tips_done HPI.out HL0.out HTI.out HL1.out hperm hsort; have HLT2 := Lib.hid hlt'; have HME := Lib.hid hmem; have HR99 := HR9.out
         have HO5 : Hid (Own u64R w.heap.size 24 (fun k => w.heap.size ≤ k) w5 (.slice ua L'.length uc) L') := by
           rw [← hlen] at ho5
           exact (ho5.lower' (base' := w.heap.size) (by have := HB00.out; omega)).mono fun k _ hk => by have := HB00.out; have hk' : R2 + 1 ≤ k := hk; omega
         have HB5 : Hid (Below w.heap.size w w5) := by
           show Below _ _ _
           rw [HB00.out]
           exact Kept.behind HBR.out hk5 (by have := HSZ.out; omega) fun k hk h => by
             have := (HOW.out.lt h).2.1; have h2 : R2 + 1 ≤ k := this
             omega
         rw [← hlen]; clear hperm hsort ho5 hk5 hlt' hmem hlen; go_wp2_with fail; go_ret
         exact ⟨ua, uc, L', rfl, HO5.out, HLT2.out, HME.out, HB5.out⟩
       · intro x cv w2 cnt3 hwx hlx hgx hrg2 hlt hk2 hs2 hen
         have HR99 := HR9.out; have HRG2 := Lib.hid hrg2
         have HPM2 := Lib.hid (HPM.out.keep hk2 (by show B0 ≠ R2; omega))
         have HOW2 := Lib.hid (HOW.out.keep (hk2.mono fun k _ hk => by have h2 : R2 + 1 ≤ k := hk; show k ≠ R2; omega))
         have HBR2 : Hid (Below B0 w w2) := Kept.behind HBR.out hk2 (by have := HSZ.out; omega) fun k hk => by show k ≠ R2; omega
         have HSZ2 : Hid (R2 + 1 ≤ w2.heap.size) := by show _ ≤ _; rw [hs2]; exact HSZ.out
         have hgx' := hgx; rw [HG.out] at hgx'; obtain ⟨e, he, hce⟩ := Option.map_eq_some_iff.1 hgx'; have HE := Lib.hid he; have HLX := Lib.hid hlx; have hlt2 := hlt
         have HLEFT : Hid (w2.rangeLeft v.mb R2 < wq.rangeLeft v.mb R2) := by show _ < _; rw [HRG2.out.left, HRG.out.left]; exact hlt
         clear hrg2 hk2 hs2 hgx hgx' HPM HOW HBR HSZ HRG hce he hlx; have hlk := HPM2.out.look Tryz.underlying86 (zero_bool w2) x hwx
         cases hgp : getM pm x with
         | some u =>
           have hut := (HPI.out.val x u hgp).1; subst hut; rw [hgp] at hlk; have hlk' : (Instr.lookup 86 (.map (some B0)) (.int .u64 x) false).run Tryz.prog w2 = .ok (.bool true) w2 := hlk
           have HTI2 := Lib.hid (HTI.out.skip (x := x) (by rw [hgp]; simp))
           clear hlk hgp HTI; go_wp2_with fail
           go_roundw
           case rel => exact ⟨L, _, _, HRG2, HPM2, HTI2, HOW2, by omega, HBR2, HSZ2⟩
           case measure => exact HLEFT.out
         | none =>
           rw [hgp] at hlk; have hlk' : (Instr.lookup 86 (.map (some B0)) (.int .u64 x) false).run Tryz.prog w2 = .ok (.bool false) w2 := hlk; have HTI2 := Lib.hid (HTI.out.put HE.out HLX.out hgp); clear hlk hgp HTI
           have hL12 : L.length ≤ 12 := by have := HN.out; omega
           obtain ⟨L2, hL2⟩ : ∃ l, L ++ [x] = l := ⟨_, rfl⟩; have HL2 := Lib.hid hL2
           have hlen2 : L2.length = L.length + 1 := by rw [← hL2]; simp
           rw [hL2] at HTI2; clear hL2; have hsz2 := HSZ2.out
           go_wp2_with (at_builtin; refine wpList_append_rel (r := u64R) (base := R2 + 1) (v := .slice ua L.length uc) (u := .slice (some ⟨w2.heap.size, 0, none⟩) 1 1) (S := fun _ => False) rfl _ _ rfl Tryz.etyNums rfl rfl (HOW2.out.keepB (bnew (Below.refl _ _) (.cells #[.int .u64 x] 24))) (Src.one (r := u64R) (y := x) ⟨rfl, hwx⟩ (CellsAt.new w2 [.int .u64 x] 24)) (fun _ _ h => h.elim) (fun _ _ h => h) (by unfold maxLen; simp; omega) (by simp; omega) (by rw [World.size_alloc]; omega) ?_)
           intro v9 w9 ho9 hk9 hl9
           rw [HL2.out] at ho9; have hbp := bnew (Below.refl w2.heap.size w2) (.cells #[.int .u64 x] 24)
           have HNO : Hid (∀ k, k < R2 + 1 → (Value.slice ua L.length uc).ownBlock ≠ some k) := fun k hk e => by
             have := (HOW2.out.lt e).2.1; have h2 : R2 + 1 ≤ k := this
             omega
           have HRG9 := Lib.hid ((HRG2.out.keepB hbp).keep hk9 (HNO.out _ (by omega)) (HNO.out _ (by omega)))
           have HPM9 := Lib.hid ((HPM2.out.keepB hbp).keep hk9 (HNO.out _ (by omega)))
           have HOW9 : Hid (Own u64R (R2 + 1) 24 (fun k => R2 + 1 ≤ k) w9 v9 L2) := ho9.mono fun k _ hk => by
             rcases hk with h1 | h1
             · exact h1
             · have h1' : w2.heap.size + 1 ≤ k := by first | exact h1 | (rw [World.size_alloc] at h1; exact h1)
               show R2 + 1 ≤ k; omega
           have HBR9 : Hid (Below B0 w w9) := Kept.behind (HBR2.out.trans (hbp.mono (by omega))) hk9 (by rw [World.size_alloc]; omega) fun k hk => HNO.out k (by omega)
           have HSZ9 : Hid (R2 + 1 ≤ w9.heap.size) := by show _ ≤ _; have := hk9.size; rw [World.size_alloc] at this; omega
           have HLEFT9 : Hid (w9.rangeLeft v.mb R2 < wq.rangeLeft v.mb R2) := by show _ < _; rw [HRG9.out.left]; have := HLEFT.out; rw [HRG2.out.left] at this; exact this
           clear hbp ho9 hk9 hl9; go_wp2_with fail
           go_roundw
           case rel => exact ⟨L2, _, _, HRG9, HPM9, HTI2, HOW9, by omega, HBR9, HSZ9⟩
           case measure => exact HLEFT9.out
   · intro x cv w2 cnt2 hwx hlx hgx hrg2 hlt hk2 hs2 hen
     have hR0 := HW0.out; have hL0 := HLT.out; have hgx' := hgx; rw [HG.out] at hgx'; obtain ⟨e, he, rfl⟩ := Option.map_eq_some_iff.1 hgx'; have HE := Lib.hid he; have hRlt := HRG.out.lt.2.1; have hbn := bnew (Below.refl w2.heap.size w2) (.cells #[.int .u64 e.b.parent, .int .i64 e.b.height, .int .u64 e.b.miner, .int .u64 e.b.work, .int .u64 e.b.nonce, .slice e.xa e.b.txs.length e.xc, .int .u64 e.tot] 75); have HX := Lib.hid (box_new w2 (.cells #[.int .u64 e.b.parent, .int .i64 e.b.height, .int .u64 e.b.miner, .int .u64 e.b.work, .int .u64 e.b.nonce, .slice e.xa e.b.txs.length e.xc, .int .u64 e.tot] 75)); have HRG2 := Lib.hid (hrg2.keepB hbn)
     have HPM2 := Lib.hid ((HPM.out.keep hk2 (by show B0 ≠ R; omega)).keepB hbn)
     have HBR2 : Hid (Below B0 w (w2.alloc (.cells #[.int .u64 e.b.parent, .int .i64 e.b.height, .int .u64 e.b.miner, .int .u64 e.b.work, .int .u64 e.b.nonce, .slice e.xa e.b.txs.length e.xc, .int .u64 e.tot] 75))) := (Kept.behind HBR.out hk2 (by omega) fun k hk => by show k ≠ R; omega).trans (hbn.mono (by omega))
     have HLT2 := Lib.hid hlt; have HOKP := HBE.out x e he; have HCL : Hid (wo.rangeLeft v.mb R = cnt) := HRG.out.left
     have HXR : Hid (B0 < w2.heap.size) := by show _ < _; omega
     clear hgx hgx' hrg2 hk2 hbn he HPM HBR HRG hs2
     go_upto_region 5 with (fail)
     clear hen; obtain ⟨X, hX⟩ : ∃ X, w2.heap.size = X := ⟨_, rfl⟩; rw [hX] at HX HXR ⊢; clear hX; generalize w2.alloc (.cells #[.int .u64 e.b.parent, .int .i64 e.b.height, .int .u64 e.b.miner, .int .u64 e.b.work, .int .u64 e.b.nonce, .slice e.xa e.b.txs.length e.xc, .int .u64 e.tot] 75) = w3 at *; obtain ⟨x0, x1⟩ := box_cells HX.out
     by_cases hh : 1 < e.b.height
     · have HPI2 := Lib.hid (HPI.out.put HE.out hh)
       have hpl := putM_len pm e.b.parent (.bool true)
       go_wp2_with (first
         | (at_mapUpdate; refine wpList_putM rfl _ rfl _ _ _ 86 rfl 4 Tryz.underlying86 B0 pm rfl HPM2.out (by have := HN.out; unfold maxLen; omega) e.b.parent (.bool true) rfl HOKP rfl ?_; intro w5 hp5 ho5 hs5)
         | go_in)
       have HPM5 := Lib.hid hp5
       have HRG5 := Lib.hid (HRG2.out.keep ho5 (by show v.mb ≠ B0; omega) (by show R ≠ B0; omega))
       have HBR5 : Hid (Below B0 w w5) := Kept.behind HBR2.out ho5 (by have := HPM2.out.lt; omega) fun k hk => by show k ≠ B0; omega
       have HLEFT5 : Hid (w5.rangeLeft v.mb R < wo.rangeLeft v.mb R) := by show _ < _; rw [HRG5.out.left, HCL.out]; exact HLT2.out
       have hlt2 := HLT2.out; clear hp5 ho5 hs5 HRG2 HPM2 HBR2 x0 x1
       go_frame
       go_wp2_with fail
       go_roundw
       case rel => exact ⟨_, _, _, HRG5, HPM5, HPI2, by omega, HBR5⟩
       case measure => exact HLEFT5.out
     · have HPI2 := Lib.hid (HPI.out.skip HE.out hh)
       have HLEFT5 : Hid (w3.rangeLeft v.mb R < wo.rangeLeft v.mb R) := by show _ < _; rw [HRG2.out.left, HCL.out]; exact HLT2.out
       have hlt2 := HLT2.out; go_wp2_with fail
       go_roundw
       case rel => exact ⟨pm, _, _, HRG2, HPM2, HPI2, by omega, HBR2⟩
       case measure => exact HLEFT5.out
end Go.Proofs.YtcnhicijimiegaaGreatDoor
/- The laws of chains: how they begin, all of the new chain's memory being new. -/
namespace Go.Proofs.YtcnhicijimiegaaGreatDoor
open Go.ChangeShapes Go.WideShapes Go.ChangeAt Go.RowKit Go.Sort
theorem OrIn.bound {S : Nat → Prop} {p : Nat} {w : World} (h : OrIn S p w) : OrIn (fun k => S k ∧ k < w.heap.size) p w := by
 obtain ⟨mk, ms, mp, h1, h2, h3, h4, s1, s2, s3, s4⟩ := h
 exact ⟨mk, ms, mp, h1, h2, h3, h4, ⟨s1, box_lt h1⟩, ⟨s2, box_lt h2⟩, ⟨s3, box_lt h3⟩, ⟨s4, box_lt h4⟩⟩
def NewOrS (w : World) (e : Ending) (w' : World) : Prop := ∃ p, e = .returned (.pointer (some ⟨p, 0, none⟩)) ∧ OrIn (fun k => w.heap.size ≤ k) p w' ∧ Below w.heap.size w w'
set_option maxHeartbeats 1000000 in
theorem newOracleS_any (w : World) : Calls Tryz.prog 40 #[] w (NewOrS w) := by
 have hmm := @run_makeMap Tryz.prog; obtain ⟨q1, q2, q3, q4⟩ := four_new w (.map #[] 0) (.map #[] 0) (.map #[] 0) (.cells #[.bool false, .int .u64 0, .int .i64 0, .slice none 0 0, .map (some w.heap.size), .map (some (w.heap.size + 1)), .map (some (w.heap.size + 2))] 132); have Q1 := Lib.hid q1; have Q2 := Lib.hid q2; have Q3 := Lib.hid q3; have Q4 := Lib.hid q4; clear q1 q2 q3 q4
 go_enter Tryz.func40, Tryz.ntmps40
 go_wp2
 go_ret
 exact ⟨w.heap.size + 3, by simp, ⟨_, _, _, Q1.out, Q4.out, Q3.out, Q2.out, Nat.le_add_right _ 3, Nat.le_refl _, Nat.le_succ _, Nat.le_add_right _ 2⟩, bnew (bnew (bnew (bnew (Below.refl _ _) _) _) _) _⟩
theorem realS_any (w : World) : Calls Tryz.prog 14 #[] w (NewOrS w) := by
 go_enter Tryz.func14, Tryz.ntmps14
 go_wp2_with fail
 refine (newOracleS_any w).mono ?_
 rintro e w1 ⟨p, rfl, h2, h3⟩
 go_wp2
 go_ret
 exact ⟨p, rfl, h2, h3⟩
def BegS (r : RuM) (w : World) (e : Ending) (w' : World) : Prop :=
 ∃ (c : Nat) (PI SB : Nat → Prop) (v : ChV), e = .returned (.tuple #[.pointer (some ⟨c, 0, none⟩), .agg #[.bool false, .int .u64 0, .int .i64 0, .slice none 0 0, .slice none 0 0, .slice none 0 0, .int .i64 r.mode, .int .i64 r.depth, .int .i64 r.bl, .int .i64 r.bu, .int .i64 r.qu, .int .u64 r.rew, .int .i64 r.win, .int .i64 r.fin, .int .u64 r.work, .slice none 0 0, .int .i64 (-1), .int .i64 (-1)], .bool true]) ∧ ChAt c SB PI w' r ⟨[], [], 0, 0⟩ [] v ∧ (∀ k, ChMut c v k → w.heap.size ≤ k) ∧ (∀ k, PI k → w.heap.size ≤ k) ∧ (∀ k, SB k → w.heap.size ≤ k) ∧ Below w.heap.size w w'
set_option maxHeartbeats 2000000 in
theorem begin48S_any (w : World) (r : RuM) (hm : r.mode = 2) (he : ruleE r = 0) (hr : okU r.rew) :
   Calls Tryz.prog 7 #[.agg #[.int .i64 r.mode, .int .i64 r.depth, .int .i64 r.bl, .int .i64 r.bu, .int .i64 r.qu, .int .u64 r.rew, .int .i64 r.win, .int .i64 r.fin, .int .u64 r.work]] w (BegS r w) := by
 have hbA := bnew (bnew (Below.refl w.heap.size w) (.cells #[.int .i64 r.mode, .int .i64 r.depth, .int .i64 r.bl, .int .i64 r.bu, .int .i64 r.qu, .int .u64 r.rew, .int .i64 r.win, .int .i64 r.fin, .int .u64 r.work] 26)) (.cells #[.bool false, .int .u64 0, .int .i64 0, .slice none 0 0, .slice none 0 0, .slice none 0 0, .int .i64 0, .int .i64 0, .int .i64 0, .int .i64 0, .int .i64 0, .int .u64 0, .int .i64 0, .int .i64 0, .int .u64 0, .slice none 0 0, .int .i64 0, .int .i64 0] 44); have HX := Lib.hid (two_new w (.cells #[.int .i64 r.mode, .int .i64 r.depth, .int .i64 r.bl, .int .i64 r.bu, .int .i64 r.qu, .int .u64 r.rew, .int .i64 r.win, .int .i64 r.fin, .int .u64 r.work] 26) (.cells #[.bool false, .int .u64 0, .int .i64 0, .slice none 0 0, .slice none 0 0, .slice none 0 0, .int .i64 0, .int .i64 0, .int .i64 0, .int .i64 0, .int .i64 0, .int .u64 0, .int .i64 0, .int .i64 0, .int .u64 0, .slice none 0 0, .int .i64 0, .int .i64 0] 44)); have HB := Lib.hid hbA; have HE := Lib.hid he; have HM := Lib.hid hm; have HRW := Lib.hid hr
 have HN : Hid (newE r false = 0) := by show _ = _; unfold newE; rw [if_pos he, hm]; rfl
 clear hbA he hm hr
 go_enter Tryz.func7, Tryz.ntmps7
 go_upto_region 1 with (fail)
 generalize (w.alloc (.cells #[.int .i64 r.mode, .int .i64 r.depth, .int .i64 r.bl, .int .i64 r.bu, .int .i64 r.qu, .int .u64 r.rew, .int .i64 r.win, .int .i64 r.fin, .int .u64 r.work] 26)).alloc (.cells #[.bool false, .int .u64 0, .int .i64 0, .slice none 0 0, .slice none 0 0, .slice none 0 0, .int .i64 0, .int .i64 0, .int .i64 0, .int .i64 0, .int .i64 0, .int .u64 0, .int .i64 0, .int .i64 0, .int .u64 0, .slice none 0 0, .int .i64 0, .int .i64 0] 44) = W at *
 go_cut [5, 6] from 9 to 14 (fun v5 v6 wc => v6 = .int .i64 0 ∧ ∃ (c : Nat) (SB PI : Nat → Prop) (v : ChV), v5 = .pointer (some ⟨c, 0, none⟩) ∧ Hid (ChAt c SB PI wc r ⟨[], [], 0, 0⟩ [] v) ∧ Hid (∀ k, ChMut c v k → W.heap.size ≤ k) ∧ Hid (∀ k, PI k → W.heap.size ≤ k) ∧ Hid (∀ k, SB k → W.heap.size ≤ k) ∧ Hid (Below W.heap.size W wc))
 case first =>
   obtain ⟨x0, x1⟩ := box_cells HX.out.2
   go_region_law (first
     | (go_simp; go_at_call 14
        refine (realS_any W.drew).mono ?_
        rintro e w1 ⟨op, rfl, ho, hb1⟩; have HB1 : Hid (Below W.heap.size W w1) := bnext (Below.refl _ _).drew hb1; have HO1 := Lib.hid ho; obtain ⟨x0, x1⟩ := box_cells (box_after HB1.out HX.out.2); clear hb1 ho)
     | (go_simp; go_at_call 13
        refine (chNewS_any (fun k => W.heap.size ≤ k ∧ k < w1.heap.size) w1 op false 0 HO1.out.at' r HRW.out (fun k hk => hk.2) (fun _ => HO1.out.bound)).mono ?_
        rintro e w2 ⟨hq, -⟩; obtain ⟨c, PI, v, rfl, hat, hmu, hpi, hb2⟩ := hq HN.out; have HB2 : Hid (Below W.heap.size W w2) := bnext HB1.out hb2; have HAT := Lib.hid hat
        have HMU : Hid (∀ k, ChMut c v k → W.heap.size ≤ k) := fun k hk => Nat.le_trans HB1.out.size (hmu k hk)
        have HPI : Hid (∀ k, PI k → W.heap.size ≤ k) := fun k hk => Nat.le_trans HB1.out.size (hpi k hk)
        clear hat hmu hpi hb2 hq))
   all_goals
     go_wp2_with fail
     go_meet
     case rel => exact ⟨rfl, c, _, PI, v, rfl, HAT, HMU, HPI, fun k hk => hk.1, HB2⟩
 obtain ⟨rfl, c, SB, PI, v, rfl, HAT, HMU, HPI, HSB, HB2⟩ := hcut; obtain ⟨w2, hw2⟩ : ∃ x, x = wc := ⟨_, rfl⟩; subst hw2; have HBt := Lib.hid (bnext HB.out HB2.out); have HX2 := Lib.hid (box_after HB2.out HX.out.2); have HY2 := Lib.hid (box_after HB2.out HX.out.1); obtain ⟨x0, x1⟩ := box_cells HX2.out
 go_upto_region 2 with (fail)
 go_cut [7, 8] from 15 to 20 (fun v7 v8 wc => v8 = .int .i64 0 ∧ ∃ X3 : Nat, v7 = .pointer (some ⟨X3, 0, none⟩) ∧ Hid (wc.heap[X3]? = some (Obj.cells #[.bool false, .int .u64 0, .int .i64 0, .slice none 0 0, .slice none 0 0, .slice none 0 0, .int .i64 r.mode, .int .i64 r.depth, .int .i64 r.bl, .int .i64 r.bu, .int .i64 r.qu, .int .u64 r.rew, .int .i64 r.win, .int .i64 r.fin, .int .u64 r.work, .slice none 0 0, .int .i64 (-1), .int .i64 (-1)] 44 (0, 0))) ∧ Hid (Below w2.heap.size w2 wc))
 case first =>
   go_wp2_with fail
   refine (refNew48_any w2 r HM.out HE.out).mono ?_
   rintro e w3 ⟨rfl, hb3⟩
   go_wp2_with (refine wpList_store_row rfl _ _ _ rfl w3.heap.size _ rfl rfl _ _ (box_new w3 _) (by kernel_rfl) rfl (by kernel_rfl) ?_)
   go_meet
   case rel =>
     exact ⟨rfl, w3.heap.size, rfl, setRow_heap _ _ _ _ _ _ (box_new w3 (.cells #[.bool false, .int .u64 0, .int .i64 0, .slice none 0 0, .slice none 0 0, .slice none 0 0, .int .i64 0, .int .i64 0, .int .i64 0, .int .i64 0, .int .i64 0, .int .u64 0, .int .i64 0, .int .i64 0, .int .u64 0, .slice none 0 0, .int .i64 0, .int .i64 0] 44)), below_setRow (g := w3.heap.size) (bnew hb3 (.cells #[.bool false, .int .u64 0, .int .i64 0, .slice none 0 0, .slice none 0 0, .slice none 0 0, .int .i64 0, .int .i64 0, .int .i64 0, .int .i64 0, .int .i64 0, .int .u64 0, .int .i64 0, .int .i64 0, .int .u64 0, .slice none 0 0, .int .i64 0, .int .i64 0] 44)) hb3.size #[.bool false, .int .u64 0, .int .i64 0, .slice none 0 0, .slice none 0 0, .slice none 0 0, .int .i64 r.mode, .int .i64 r.depth, .int .i64 r.bl, .int .i64 r.bu, .int .i64 r.qu, .int .u64 r.rew, .int .i64 r.win, .int .i64 r.fin, .int .u64 r.work, .slice none 0 0, .int .i64 (-1), .int .i64 (-1)]⟩
 obtain ⟨rfl, X3, rfl, HN4, HB9⟩ := hcut; obtain ⟨w4, hw4⟩ : ∃ x, x = wc := ⟨_, rfl⟩; subst hw4; have HY4 := Lib.hid (box_after HB9.out HY2.out); have HAT4 := Lib.hid (HAT.out.keepB HB9.out); have HB4 := Lib.hid (bnext HBt.out HB9.out); clear x0 x1 HB9; obtain ⟨n0, n1⟩ := box_cells HN4.out
 go_upto_region 3 with (fail)
 refine wp_region_any (by kernel_rfl) ?_
 change wpAny _ _ _ _ _ _ _ (World.drew _)
 refine wpAny_take (i := 0) (v := ?_) rfl (by kernel_rfl) (by kernel_rfl) (by kernel_rfl) (fun _ _ _ h => h) (Or.inl ⟨by rfl, ?_⟩) ?_
 rotate_left
 · intro w
   go_simp
   all_goals with_reducible rfl
 refine wpAny_take (i := 2) (v := ?_) rfl (by kernel_rfl) (by kernel_rfl) (by kernel_rfl) (fun _ _ _ h => h) (Or.inl ⟨by rfl, ?_⟩) ?_
 rotate_left
 · intro w
   go_simp
   all_goals with_reducible rfl
 refine wpAny_take (i := 3) (v := ?_) rfl (by kernel_rfl) (by kernel_rfl) (by kernel_rfl) (fun _ _ _ h => h) (Or.inl ⟨by rfl, ?_⟩) ?_
 rotate_left
 · intro w
   go_simp
   all_goals with_reducible rfl
 refine wpAny_take (i := 4) (v := ?_) rfl (by kernel_rfl) (by kernel_rfl) (by kernel_rfl) (fun _ _ _ h => h) (Or.inl ⟨by rfl, ?_⟩) ?_
 rotate_left
 · intro w
   go_simp
   all_goals with_reducible rfl
 refine wpAny_take (i := 5) (v := ?_) rfl (by kernel_rfl) (by kernel_rfl) (by kernel_rfl) (fun _ _ _ h => h) (Or.inl ⟨by rfl, ?_⟩) ?_
 rotate_left
 · intro w
   go_simp
   all_goals with_reducible rfl
 refine wpAny_take (i := 6) (v := ?_) rfl (by kernel_rfl) (by kernel_rfl) (by kernel_rfl) (fun _ _ _ h => h) (Or.inl ⟨by rfl, ?_⟩) ?_
 rotate_left
 · intro w
   go_simp
   all_goals with_reducible rfl
 refine wpAny_take (i := 7) (v := ?_) rfl (by kernel_rfl) (by kernel_rfl) (by kernel_rfl) (fun _ _ _ h => h) (Or.inl ⟨by rfl, ?_⟩) ?_
 rotate_left
 · intro w
   go_simp
   all_goals with_reducible rfl
 refine wpAny_take (i := 8) (v := ?_) rfl (by kernel_rfl) (by kernel_rfl) (by kernel_rfl) (fun _ _ _ h => h) (Or.inl ⟨by rfl, ?_⟩) ?_
 rotate_left
 · intro w
   go_simp
   all_goals with_reducible rfl
 go_simp
 refine wpAny_take (i := 9) (v := ?_) rfl (by kernel_rfl) (by kernel_rfl) (by kernel_rfl) (fun _ _ _ h => h) (Or.inl ⟨by rfl, ?_⟩) ?_
 rotate_left
 · intro w
   go_simp
   all_goals with_reducible rfl
 refine wpAny_take (i := 10) (v := ?_) rfl (by kernel_rfl) (by kernel_rfl) (by kernel_rfl) (fun _ _ _ h => h) (Or.inl ⟨by rfl, ?_⟩) ?_
 rotate_left
 · intro w
   go_simp
   all_goals with_reducible rfl
 refine wpAny_take (i := 11) (v := ?_) rfl (by kernel_rfl) (by kernel_rfl) (by kernel_rfl) (fun _ _ _ h => h) (Or.inl ⟨by rfl, ?_⟩) ?_
 rotate_left
 · intro w
   go_simp
   all_goals with_reducible rfl
 refine wpAny_take (i := 12) (v := ?_) rfl (by kernel_rfl) (by kernel_rfl) (by kernel_rfl) (fun _ _ _ h => h) (Or.inl ⟨by rfl, ?_⟩) ?_
 rotate_left
 · intro w
   go_simp
   all_goals with_reducible rfl
 go_simp
 refine wpAny_ready (rs := [1]) (by kernel_rfl) (by simp) ?_
 refine AllReady.cons rfl (fun K hK => ?_) ?_
 rotate_left
 · exact AllReady.nil
 refine step_load_row rfl _ _ rfl X3 rfl _ _ _ _ (box_after (Below.refl _ _).drew HN4.out) Tryz.underlying44 rfl (by kernel_rfl) ?_
 go_simp
 (refine hK _ _ ?_; clear hK K)
 refine wpAny_ready (rs := [13]) (by kernel_rfl) (by simp) ?_
 refine AllReady.cons rfl (fun K hK => ?_) ?_
 rotate_left
 · exact AllReady.nil
 refine step_store_row rfl _ _ _ rfl (w.heap.size + 1) _ rfl rfl _ _ (box_after (Below.refl _ _).drew HY4.out) (by kernel_rfl) rfl (by kernel_rfl) ?_
 go_simp
 (refine hK _ _ ?_; clear hK K)
 refine wpAny_take (i := 14) (v := ?_) rfl (by kernel_rfl) (by kernel_rfl) (by kernel_rfl) (fun _ _ _ h => h) (Or.inl ⟨by rfl, ?_⟩) ?_
 rotate_left
 · intro w
   go_simp
   all_goals with_reducible rfl
 go_simp
 refine wpAny_done (by kernel_rfl) ?_ _
 have hyw : w.heap.size + 1 < W.heap.size := box_lt HX.out.1; have hlt : w.heap.size ≤ w.heap.size + 1 := Nat.le_succ _; have hbz := below_setRow (g := w.heap.size + 1) HB4.out.drew hlt #[.bool false, .int .u64 0, .int .i64 0, .slice none 0 0, .slice none 0 0, .slice none 0 0, .int .i64 r.mode, .int .i64 r.depth, .int .i64 r.bl, .int .i64 r.bu, .int .i64 r.qu, .int .u64 r.rew, .int .i64 r.win, .int .i64 r.fin, .int .u64 r.work, .slice none 0 0, .int .i64 (-1), .int .i64 (-1)]; have hdr := HAT4.out.keepB (Below.refl _ _).drew
 have haz := hdr.keep (kept_setRow w4.drew (w.heap.size + 1) #[.bool false, .int .u64 0, .int .i64 0, .slice none 0 0, .slice none 0 0, .slice none 0 0, .int .i64 r.mode, .int .i64 r.depth, .int .i64 r.bl, .int .i64 r.bu, .int .i64 r.qu, .int .u64 r.rew, .int .i64 r.win, .int .i64 r.fin, .int .u64 r.work, .slice none 0 0, .int .i64 (-1), .int .i64 (-1)]) (fun k hk => by have := HSB.out k hk; show k ≠ _; omega) (fun k hk => by have := HPI.out k hk; show k ≠ _; omega) (fun k hk => by have := HMU.out k hk; show k ≠ _; omega)
 have hgz : (w4.drew.setRow (w.heap.size + 1) #[.bool false, .int .u64 0, .int .i64 0, .slice none 0 0, .slice none 0 0, .slice none 0 0, .int .i64 r.mode, .int .i64 r.depth, .int .i64 r.bl, .int .i64 r.bu, .int .i64 r.qu, .int .u64 r.rew, .int .i64 r.win, .int .i64 r.fin, .int .u64 r.work, .slice none 0 0, .int .i64 (-1), .int .i64 (-1)]).heap[w.heap.size + 1]? = some (Obj.cells #[.bool false, .int .u64 0, .int .i64 0, .slice none 0 0, .slice none 0 0, .slice none 0 0, .int .i64 r.mode, .int .i64 r.depth, .int .i64 r.bl, .int .i64 r.bu, .int .i64 r.qu, .int .u64 r.rew, .int .i64 r.win, .int .i64 r.fin, .int .u64 r.work, .slice none 0 0, .int .i64 (-1), .int .i64 (-1)] 44 (0, 0)) := setRow_heap _ _ _ _ _ _ (box_after (Below.refl _ _).drew HY4.out); have hsw := HB.out.size; go_wp2_with fail
 (try simp only [Exit.inBlock, Exit.then])
 refine bodyPost_ret (v := .tuple #[.pointer (some ⟨c, 0, none⟩), .agg #[.bool false, .int .u64 0, .int .i64 0, .slice none 0 0, .slice none 0 0, .slice none 0 0, .int .i64 r.mode, .int .i64 r.depth, .int .i64 r.bl, .int .i64 r.bu, .int .i64 r.qu, .int .u64 r.rew, .int .i64 r.win, .int .i64 r.fin, .int .u64 r.work, .slice none 0 0, .int .i64 (-1), .int .i64 (-1)], .bool true]) ?_ rfl ⟨c, PI, _, v, rfl, haz, fun k hk => Nat.le_trans hsw (HMU.out k hk), fun k hk => Nat.le_trans hsw (HPI.out k hk), fun k hk => Nat.le_trans hsw (HSB.out k hk), hbz⟩
 exact ret_tct Tryz.results7 rfl hgz Tryz.underlying44 rfl (by kernel_rfl)
end Go.Proofs.YtcnhicijimiegaaGreatDoor
/- Swapping two elements of a row; step laws of loads and stores in the middle of a block. -/
namespace Go.Proofs.YtcnhicijimiegaaGreatDoor
open Go.ChangeShapes Go.WideShapes Go.ChangeAt Go.RowKit Go.Sort
theorem step_store_mid {P : Program} {ops : Array Oper} {o : Oper} {a : Act} {w : World} {K : Act → World → Prop} {Q : Exit → Act → World → Prop} {E : Prop} (hgd : o.guard = none) (ty : TypeId) (x y : Operand) (ho : o.op = .store ty x y)
   (b f : Nat) (cells : Array Value) (hx : a.eval x = .pointer (some ⟨b, f, none⟩)) (hy : a.eval y = .agg cells)
   (ht : w.there b f cells.size) (hi : (P.info? ty).map (·.size) = some cells.size) (h1 : cells.all (·.oneCell') = true)
   (h : K (a.put o.dst undef) (w.setCells b f cells.toList)) : if Region.wanted o (yielded ops a.tmps) = true then Oper.wp P o a w K Q else E := by
 have hw : Region.wanted o (yielded ops a.tmps) = true := by simp [Region.wanted, hgd]
 rw [if_pos hw]
 exact wp_store_mid ty x y ho b f cells hx hy ht hi h1 h
theorem step_load_mid {P : Program} {ops : Array Oper} {o : Oper} {a : Act} {w : World} {K : Act → World → Prop} {Q : Exit → Act → World → Prop} {E : Prop} (hgd : o.guard = none) (ty : TypeId) (x : Operand) (ho : o.op = .load ty x)
   (b f : Nat) (hx : a.eval x = .pointer (some ⟨b, f, none⟩)) (cs : List Value) (d : TypeDesc) (hc : w.rangeAt b f cs)
   (hu : P.underlying ty = some d) (hd : d.isRow = true) (hi : (P.info? ty).map (·.size) = some cs.length)
   (h : K (a.put o.dst (.agg cs.toArray)) w) : if Region.wanted o (yielded ops a.tmps) = true then Oper.wp P o a w K Q else E := by
 have hw : Region.wanted o (yielded ops a.tmps) = true := by simp [Region.wanted, hgd]
 rw [if_pos hw]
 exact wp_load_mid ty x ho b f hx cs d hc hu hd hi h
theorem Row.there {α : Type} {r : Rep α} {e : TypeId} {S : Nat → Prop} {w : World} {g cap : Nat} {xs : List α} (h : Row r e S w g cap xs) (i : Nat) (hi : i < xs.length) : w.there g (i * r.n) r.n := by
 obtain ⟨cur, css, hg, h4, hl, hr, h5, h2, hng, hS⟩ := h
 intro j hj
 obtain ⟨c1, c2⟩ := box_cells hg
 refine ⟨?_, c2 _⟩
 have h6 : (i + 1) * r.n ≤ cap * r.n := Nat.mul_le_mul_right _ (by omega)
 rw [Nat.succ_mul] at h6
 rw [c1, Array.getElem?_eq_getElem (by omega)]
 rfl
def swapE {α : Type} (xs : List α) (i j : Nat) (hi : i < xs.length) (hj : j < xs.length) : List α := (xs.set i xs[j]).set j xs[i]
theorem swapE_len {α : Type} (xs : List α) (i j : Nat) (hi : i < xs.length) (hj : j < xs.length) : (swapE xs i j hi hj).length = xs.length := by unfold swapE; simp
theorem swapE_mem {α : Type} (xs : List α) (i j : Nat) (hi : i < xs.length) (hj : j < xs.length) (x : α) : x ∈ swapE xs i j hi hj ↔ x ∈ xs := by
 unfold swapE
 constructor
 · intro h
   rcases List.mem_or_eq_of_mem_set h with h | rfl
   · rcases List.mem_or_eq_of_mem_set h with h | rfl
     · exact h
     · exact List.getElem_mem hj
   · exact List.getElem_mem hi
 · intro h
   obtain ⟨p, hp, rfl⟩ := List.getElem_of_mem h
   by_cases h1 : p = i
   · subst h1
     have : ((xs.set p xs[j]).set j xs[p])[j]'(by simpa using hj) = xs[p] := by rw [List.getElem_set_self]
     exact List.mem_of_getElem this
   · by_cases h2 : p = j
     · subst h2
       have : ((xs.set i xs[p]).set p xs[i])[i]'(by simpa using hi) = xs[p] := by rw [List.getElem_set_ne (fun h => h1 h), List.getElem_set_self]
       exact List.mem_of_getElem this
     · have : ((xs.set i xs[j]).set j xs[i])[p]'(by simpa using hp) = xs[p] := by rw [List.getElem_set_ne (fun h => h2 h.symm), List.getElem_set_ne (fun h => h1 h.symm)]
       exact List.mem_of_getElem this
theorem Row.swap {α : Type} {r : Rep α} {e : TypeId} {S : Nat → Prop} {w : World} {g cap : Nat} {xs : List α} (h : Row r e S w g cap xs) (i j : Nat) (hi : i < xs.length) (hj : j < xs.length) :
   ∃ ei ej : List Value, r.rel S w ei xs[i] ∧ r.rel S w ej xs[j] ∧ w.rangeAt g (i * r.n) ei ∧ w.rangeAt g (j * r.n) ej ∧ w.there g (i * r.n) ej.length ∧ (w.setCells g (i * r.n) ej).there g (j * r.n) ei.length ∧
     Row r e S ((w.setCells g (i * r.n) ej).setCells g (j * r.n) ei) g cap (swapE xs i j hi hj) ∧ Kept (fun k => k ≠ g) w ((w.setCells g (i * r.n) ej).setCells g (j * r.n) ei) := by
 obtain ⟨ei, ri, ci⟩ := h.at i hi; obtain ⟨ej, rj, cj⟩ := h.at j hj; obtain ⟨h1, k1⟩ := h.store i hi rj; have hng := h.facts.1
 have ri1 := r.keep ri (k1.mono fun k _ (hk : S k) => fun e => hng (e ▸ hk))
 have hj1 : j < (xs.set i xs[j]).length := by simpa using hj
 obtain ⟨h2, k2⟩ := h1.store j hj1 ri1
 exact ⟨ei, ej, ri, rj, ci, cj, by rw [r.len rj]; exact h.there i hi, by rw [r.len ri]; exact h1.there j hj1, h2, k1.trans k2 fun _ _ h => h⟩
theorem Own.swapB {base : Nat} {e : TypeId} {F : Nat → Prop} {w : World} {v : Value} {l : List BlkM} (h : Own blkR base e F w v l) (i j : Nat) (hi : i < l.length) (hj : j < l.length) :
   ∃ g cap xa xc ya yc, v = .slice (some ⟨g, 0, none⟩) l.length cap ∧ F g ∧ base ≤ g ∧
     w.rangeAt g (i * 6) [.int .u64 l[i].parent, .int .i64 l[i].height, .int .u64 l[i].miner, .int .u64 l[i].work, .int .u64 l[i].nonce, .slice xa l[i].txs.length xc] ∧
     w.rangeAt g (j * 6) [.int .u64 l[j].parent, .int .i64 l[j].height, .int .u64 l[j].miner, .int .u64 l[j].work, .int .u64 l[j].nonce, .slice ya l[j].txs.length yc] ∧
     w.there g (i * 6) 6 ∧ (w.setCells g (i * 6) [.int .u64 l[j].parent, .int .i64 l[j].height, .int .u64 l[j].miner, .int .u64 l[j].work, .int .u64 l[j].nonce, .slice ya l[j].txs.length yc]).there g (j * 6) 6 ∧
     ∃ w2, (w.setCells g (i * 6) [.int .u64 l[j].parent, .int .i64 l[j].height, .int .u64 l[j].miner, .int .u64 l[j].work, .int .u64 l[j].nonce, .slice ya l[j].txs.length yc]).setCells g (j * 6) [.int .u64 l[i].parent, .int .i64 l[i].height, .int .u64 l[i].miner, .int .u64 l[i].work, .int .u64 l[i].nonce, .slice xa l[i].txs.length xc] = w2 ∧ Own blkR base e F w2 v (swapE l i j hi hj) ∧ Kept (fun k => k ≠ g) w w2 := by
 obtain ⟨a, cap, rfl, h1, h2⟩ := own_form h
 cases a with
 | none =>
   obtain ⟨S, css, -, -, -, -, ho⟩ := h
   rcases ho.2 with ⟨h3, h4⟩ | ⟨g', cap', cur, h3, -⟩
   · omega
   · simp at h3
 | some ad =>
   obtain ⟨g, off, sp⟩ := ad
   have hg : off = 0 ∧ sp = none := by
     obtain ⟨S, css, -, -, -, -, ho⟩ := h
     rcases ho.2 with ⟨h3, h4⟩ | ⟨g', cap', cur, h3, -⟩
     · simp at h3
     · simp at h3
       exact ⟨h3.1.2.1, h3.1.2.2⟩
   obtain ⟨rfl, rfl⟩ := hg; obtain ⟨-, hb, hc, hF, S, hSF, hrow⟩ := h.row; obtain ⟨ei, ej, ri, rj, ci, cj, ti, tj, hrow2, hk⟩ := hrow.swap i j hi hj; obtain ⟨xa, xc, rfl, -⟩ := blkR.inv ri; obtain ⟨ya, yc, rfl, -⟩ := blkR.inv rj; have hown := hrow2.own hSF hF hb hc; rw [swapE_len] at hown
   exact ⟨g, cap, xa, xc, ya, yc, rfl, hF, hb, ci, cj, ti, tj, _, rfl, hown, hk⟩
theorem Tryz.etyBlk : ElemTy Tryz.prog 27 34 6 64 := ElemTy.of Tryz.underlying27 (z := .agg #[.int .u64 0, .int .i64 0, .int .u64 0, .int .u64 0, .int .u64 0, .slice none 0 0]) (by kernel_rfl) rfl (by omega)
end Go.Proofs.YtcnhicijimiegaaGreatDoor
