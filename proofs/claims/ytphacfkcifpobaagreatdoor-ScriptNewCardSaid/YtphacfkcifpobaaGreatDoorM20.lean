/- The chain of the program: move. -/
import Derived.Test.YtphacfkcifpobaaGreatDoorM19
set_option maxRecDepth 100000
namespace Go.Proofs.YtphacfkcifpobaaGreatDoor
open Go.ChangeShapes Go.WideShapes Go.ChangeAt Go.RowKit Go.Sort
structure ChStp (c : Nat) (SB PI : Nat → Prop) (v : ChV) (w : World) (SB' PI' : Nat → Prop) (v' : ChV) (w' : World) : Prop where
 kept : Kept (fun k => ¬ ChMut c v k) w w'
 turn : ∀ k, ChMut c v' k → ChMut c v k ∨ w.heap.size ≤ k
 sb : ∀ k, SB k → SB' k
 sb' : ∀ k, SB' k → SB k ∨ w.heap.size ≤ k
 pi' : ∀ k, PI' k → PI k ∨ ChMut c v k ∨ w.heap.size ≤ k
theorem ChStp.refl (c : Nat) (SB PI : Nat → Prop) (v : ChV) (w : World) : ChStp c SB PI v w SB PI v w := ⟨Kept.refl _ _, fun _ h => .inl h, fun _ h => h, fun _ h => .inl h, fun _ h => .inl h⟩
theorem ChStp.trans {c : Nat} {SB PI SB1 PI1 SB2 PI2 : Nat → Prop} {v v1 v2 : ChV} {w w1 w2 : World} (h : ChStp c SB PI v w SB1 PI1 v1 w1) (h' : ChStp c SB1 PI1 v1 w1 SB2 PI2 v2 w2) : ChStp c SB PI v w SB2 PI2 v2 w2 := by
 have hz := h.kept.size
 refine ⟨h.kept.trans h'.kept fun k hk hn hm => ?_, fun k hm => ?_, fun k hs => h'.sb k (h.sb k hs), fun k hs => ?_, fun k hi => ?_⟩
 · rcases h.turn k hm with h1 | h1
   · exact hn h1
   · omega
 · rcases h'.turn k hm with h1 | h1
   · exact h.turn k h1
   · exact .inr (by omega)
 · rcases h'.sb' k hs with h1 | h1
   · exact h.sb' k h1
   · exact .inr (by omega)
 · rcases h'.pi' k hi with h1 | h1 | h1
   · exact h.pi' k h1
   · rcases h.turn k h1 with h2 | h2
     · exact .inr (.inl h2)
     · exact .inr (.inr h2)
   · exact .inr (.inr (by omega))
theorem ChStp.below {c : Nat} {SB PI : Nat → Prop} {v : ChV} {w w' : World} (hb : Below w.heap.size w w') : ChStp c SB PI v w SB PI v w' := ⟨Kept.of_below hb, fun _ h => .inl h, fun _ h => h, fun _ h => .inl h, fun _ h => .inl h⟩
theorem ChAt.moved {c : Nat} {SB PI : Nat → Prop} {w w' : World} {r : RuM} {m : ChM} {bs bs' : List BlkM} {v : ChV} (h : ChAt c SB PI w r m bs v) (hp : PoTo v.p PI v.pv w r (runW r bs') w') :
   ∃ (PI' : Nat → Prop) (pv' : PoV), ChAt c SB PI' w' r m bs' { v with pv := pv' } ∧ ChStp c SB PI v w SB PI' { v with pv := pv' } w' := by
 obtain ⟨PI', pv', hat, hk, ht, hi⟩ := hp
 have hs : ∀ k, SB k → ¬ PoMut v.p v.pv k := fun k hk hm => h.free k (.inr (.inr hm)) hk
 have hc := box_lt h.cell; have hm := h.map.lt
 refine ⟨PI', pv', ⟨(hk.block c hc h.ap1).trans h.cell, fun e => (h.orc e).keep hk hs, h.map.keep hk h.ap2, fun e he => ⟨(h.blocks e he).1.keep (hk.mono fun k _ => hs k), (h.blocks e he).2⟩, numsR.keep h.best (hk.mono fun k _ => hs k), hat, ?_, ?_, ?_, ?_, fun k hs => Nat.lt_of_lt_of_le (h.lt k hs) hk.size⟩, hk.mono fun k _ hn hm => hn (.inr (.inr hm)), ?_, fun _ h => h, fun _ h => .inl h, ?_⟩
 · intro k hm hs'
   rcases hm with e | e | e
   · exact h.free k (.inl e) hs'
   · exact h.free k (.inr (.inl e)) hs'
   · rcases ht k e with h1 | h1
     · exact hs k hs' h1
     · have := h.lt k hs'; omega
 · intro hm'
   rcases ht c hm' with h1 | h1
   · exact h.ap1 h1
   · omega
 · intro hm'
   rcases ht v.mb hm' with h1 | h1
   · exact h.ap2 h1
   · omega
 · intro k hk'
   rcases hi k hk' with h1 | h1 | h1
   · exact h.pi k h1
   · exact ⟨fun e => h.ap1 (e ▸ h1), fun e => h.ap2 (e ▸ h1)⟩
   · exact ⟨by omega, by show k ≠ v.mb; omega⟩
 · intro k hm'
   rcases hm' with e | e | e
   · exact .inl (.inl e)
   · exact .inl (.inr (.inl e))
   · rcases ht k e with h1 | h1
     · exact .inl (.inr (.inr h1))
     · exact .inr h1
 · intro k hk'
   rcases hi k hk' with h1 | h1 | h1
   · exact .inl h1
   · exact .inr (.inl (.inr (.inr h1)))
   · exact .inr (.inr h1)
def MvOut (c : Nat) (SB PI : Nat → Prop) (v : ChV) (w : World) (r : RuM) (m : ChM) (bs' : List BlkM) (w' : World) : Prop :=
 ∃ (PI' : Nat → Prop) (pv' : PoV), ChAt c SB PI' w' r m bs' { v with pv := pv' } ∧ ChStp c SB PI v w SB PI' { v with pv := pv' } w'
set_option maxHeartbeats 2000000 in
theorem move_any (c : Nat) (SB PI : Nat → Prop) (w : World) (r : RuM) (hr : RuOK r) (m : ChM) (pre fb tb : List BlkM) (v : ChV) (h : ChAt c SB PI w r m (pre ++ fb) v) (hof : RunOK r (pre ++ fb)) (hot : RunOK r (pre ++ tb)) (hl1 : (pre ++ fb).length ≤ 200) (hl2 : (pre ++ tb).length ≤ 200)
   (fa : Option Addr) (fc : Nat) (S : Nat → Prop) (ta : Option Addr) (tc : Nat) (tl : List Int) (htl : numsR.rel S w [.slice ta tl.length tc] tl) (hS : ∀ k, S k → ¬ ChMut c v k) (hlen : tl.length = tb.length) (hin : ∀ (k : Nat) (hk : k < tl.length) (hk' : k < tb.length), ∃ e ∈ m.L, findS m.L tl[k] = some e ∧ e.b = tb[k]) :
   Calls Tryz.prog 201 #[.pointer (some ⟨c, 0, none⟩), .slice fa fb.length fc, .slice ta tl.length tc] w fun e w' => e = .returned (.tuple #[]) ∧ MvOut c SB PI v w r m (pre ++ tb) w' := by
 have H := Lib.hid h; have HTL := Lib.hid htl; have HS := Lib.hid hS; have HR := Lib.hid hr; have HOF := Lib.hid hof; have HOT := Lib.hid hot; have HIN := Lib.hid hin
 have hfl : fb.length ≤ 200 := by rw [List.length_append] at hl1; omega
 have htl2 : tl.length ≤ 200 := by rw [List.length_append] at hl2; omega
 have HSL : Hid (∀ k, S k → k < w.heap.size → ¬ ChMut c v k) := fun k hk _ => hS k hk
 have HLEN := Lib.hid hlen; clear h htl hS hr hof hot hin hlen
 go_enter Tryz.func201, Tryz.ntmps201
 go_wp2_with fail
 go_loopw [10] (fun vi wr => ∃ (i : Nat) (PI' : Nat → Prop) (pv' : PoV), i ≤ fb.length ∧ vi = .int .i64 i ∧ Hid (ChAt c SB PI' wr r m (pre ++ fb.take (fb.length - i)) { v with pv := pv' }) ∧ Hid (ChStp c SB PI v w SB PI' { v with pv := pv' } wr)) (fun vi _ => fb.length - (intOf vi).toNat)
 case atStart => exact ⟨0, PI, v.pv, Nat.zero_le _, rfl, by rw [Nat.sub_zero, List.take_length]; exact H, ChStp.refl _ _ _ _ _⟩
 case round =>
   obtain ⟨i, PI', pv', hi, rfl, HA, HST⟩ := hrel
   by_cases hlt : i < fb.length
   · obtain ⟨j, hj⟩ : ∃ j, fb.length - i = j + 1 := ⟨fb.length - i - 1, by omega⟩
     have hjl : j < fb.length := by omega
     have hsn : pre ++ fb.take (j + 1) = (pre ++ fb.take j) ++ [fb[j]] := by rw [List.take_succ_eq_append_getElem hjl, List.append_assoc]
     have hro : RunOK r ((pre ++ fb.take j) ++ [fb[j]]) := by
       have := HOF.out.take (pre.length + (j + 1)); rw [List.take_length_add_append, hsn] at this
       exact this
     rw [hj, hsn] at HA; have HRO := Lib.hid hro
     have hll : (pre ++ fb.take j).length ≤ 200 := by rw [List.length_append] at hl1; rw [List.length_append, List.length_take]; omega
     have HLL := Lib.hid hll
     have hj2 : fb.length - (i + 1) = j := by omega
     generalize fb[j] = lastb at *; obtain ⟨x0, x1⟩ := box_cells HA.out.cell
     simp only [chCells] at x0
     clear hro hsn hll hj; go_wp2_with fail
     refine (undo_run v.p PI' wr r HR.out (pre ++ fb.take j) lastb HRO.out HLL.out pv' HA.out.state).mono ?_
     rintro e w2 ⟨rfl, hpt⟩; obtain ⟨PI2, pv2, ha2, hs2⟩ := HA.out.moved hpt
     have HA2 : Hid (ChAt c SB PI2 w2 r m (pre ++ fb.take (fb.length - (i + 1))) { v with pv := pv2 }) := by rw [hj2]; exact ha2
     have HS2 : Hid (ChStp c SB PI v w SB PI2 { v with pv := pv2 } w2) := HST.out.trans hs2
     clear hpt ha2 hs2 x0 x1 hj2 hjl; go_wp2_with fail
     go_roundw
     case rel => exact ⟨i + 1, PI2, pv2, by omega, by go_num, HA2, HS2⟩
     case measure => simp [intOf]; omega
   · obtain rfl : i = fb.length := by omega
     rw [Nat.sub_self, List.take_zero, List.append_nil] at HA; clear hlt hi; go_wp2_with fail; have HTW := Lib.hid HST
     go_loopw [20] (fun vi wr => ∃ (i : Nat) (PI' : Nat → Prop) (pv' : PoV), i ≤ tl.length ∧ vi = .int .i64 i ∧ Hid (ChAt c SB PI' wr r m (pre ++ tb.take i) { v with pv := pv' }) ∧ Hid (ChStp c SB PI v w SB PI' { v with pv := pv' } wr)) (fun vi _ => tl.length - (intOf vi).toNat)
     case atStart => exact ⟨0, PI', pv', Nat.zero_le _, rfl, by rw [List.take_zero, List.append_nil]; exact HA, HST⟩
     case round =>
       clear HA HST HTW; obtain ⟨i, PI2, pv2, hi, rfl, HA, HST⟩ := hrel
       by_cases hlt : i < tl.length
       · have htl3 := numsR.keep HTL.out (HST.out.kept.mono fun k _ hk => HS.out k hk)
         obtain ⟨bb, off, hta, hbl, hcc⟩ := nums_at htl3 i hlt; subst hta
         have hlt2 : i < tb.length := by have := HLEN.out; omega
         obtain ⟨e, hem, hef, heb⟩ := HIN.out i hlt hlt2; have hoy := ints_wf HTL.out _ (List.getElem_mem hlt)
         have hsn : pre ++ tb.take (i + 1) = (pre ++ tb.take i) ++ [e.b] := by rw [List.take_succ_eq_append_getElem hlt2, List.append_assoc, heb]
         have hro : RunOK r ((pre ++ tb.take i) ++ [e.b]) := by
           have := HOT.out.take (pre.length + (i + 1)); rw [List.take_length_add_append, hsn] at this
           exact this
         have HRO := Lib.hid hro; have HSN := Lib.hid hsn
         have hll : (pre ++ tb.take i).length ≤ 200 := by have := HLEN.out; rw [List.length_append] at hl2; rw [List.length_append, List.length_take]; omega
         have HLL := Lib.hid hll; have HEM := Lib.hid hem; have hoy2 := Lib.hid hoy; generalize tl[i] = y at *
         have hlk : ∀ (d : Nat) (os : Array Obj), (Instr.lookup 104 (.map (some v.mb)) (.int .u64 y) false).run Tryz.prog (grow (redrawn wr d) os) = .ok (.agg #[.int .u64 e.b.parent, .int .i64 e.b.height, .int .u64 e.b.miner, .int .u64 e.b.work, .int .u64 e.b.nonce, .slice e.xa e.b.txs.length e.xc, .int .u64 e.tot]) (grow (redrawn wr d) os) := fun d os => (HA.out.map.keepB (below_regrown wr d os)).found y hoy2.out e hef
         have hfb := fld_blk e.b.parent e.b.height e.b.miner e.b.work e.b.nonce e.tot e.xa e.b.txs.length e.xc; have x0 := box_regrown HA.out.cell
         simp only [chCells] at x0
         clear hoy hro hsn hll hem heb hlt2 htl3 hbl; go_wp2_with fail
         refine wp_region_quiet_tail 11 (by kernel_rfl) (by kernel_rfl) ?_
         simp only [List.take_succ_cons, List.take_zero, List.drop_succ_cons, List.drop_zero]
         repeat (first | go_big_quiet_step (fail) | quiet_step (fail))
         refine wpQuiet_nil ?_
         intro w4 hw'
         obtain ⟨⟨dq, osq⟩, hw''⟩ := hw'; have hbw4 := below_regrown wr dq osq; rw [← hw''] at hbw4; clear hw'' x0 hlk; have HA4 := Lib.hid (HA.out.keepB hbw4); have HS4 := Lib.hid (HST.out.trans (ChStp.below (SB := SB) (PI := PI2) hbw4)); obtain ⟨hro1, hbo, hae⟩ := HRO.out.last; have HAE := Lib.hid hae; have hbt := hbo.txs; have HRO1 := Lib.hid hro1; clear hbw4 hro1 hbo hae hfb; go_wp2_with fail
         refine (apply_run v.p PI2 w4 r HR.out (pre ++ tb.take i) HRO1.out HLL.out pv2 HA4.out.state SB e.b e.xa e.xc (HA4.out.blocks e HEM.out).1 hbt (fun k hk hm => HA4.out.free k (.inr (.inr hm)) hk)).mono ?_
         rintro e' w5 ⟨rfl, hpt⟩; rw [apW_ok HAE.out, ← runW_snoc] at hpt; obtain ⟨PI3, pv3, ha3, hs3⟩ := HA4.out.moved hpt
         have HA3 : Hid (ChAt c SB PI3 w5 r m (pre ++ tb.take (i + 1)) { v with pv := pv3 }) := by rw [HSN.out]; exact ha3
         have HS3 : Hid (ChStp c SB PI v w SB PI3 { v with pv := pv3 } w5) := HS4.out.trans hs3
         rw [HAE.out]; clear hpt ha3 hs3; go_wp2_with fail
         go_roundw
         case rel => exact ⟨i + 1, PI3, pv3, by omega, by go_num, HA3, HS3⟩
         case measure => simp [intOf]; omega
       · obtain rfl : i = tl.length := by omega
         have HF : Hid (ChAt c SB PI2 wr r m (pre ++ tb) { v with pv := pv2 }) := by
           have := HA.out; rw [HLEN.out, List.take_length] at this
           exact this
         clear hlt hi; go_wp2_with fail
         go_end0
         exact ⟨rfl, PI2, pv2, HF.out, HST.out⟩
end Go.Proofs.YtphacfkcifpobaaGreatDoor
/- slices.Clone of transactions, of outputs, of bytes. -/
namespace Go.Proofs.YtphacfkcifpobaaGreatDoor
open Go.ChangeShapes Go.WideShapes Go.ChangeAt Go.RowKit Go.Sort
theorem Tryz.etyTx : ElemTy Tryz.prog 175 181 10 128 := ElemTy.of Tryz.underlying175 (z := .agg #[.int .u64 0, .slice none 0 0, .slice none 0 0, .int .u64 0, .int .u64 0, .int .u64 0, .int .u64 0, .int .u64 0, .int .i64 0, .slice none 0 0]) (by kernel_rfl) rfl (by omega)
theorem Tryz.etyOut : ElemTy Tryz.prog 179 297 4 48 := ElemTy.of Tryz.underlying179 (z := .agg #[.int .u64 0, .int .u64 0, .int .u64 0, .slice none 0 0]) (by kernel_rfl) rfl (by omega)
theorem eql_nilT (a : Option Addr) (l c : Nat) (w : World) : (binOp .eql 175 (.slice a l c) (.slice none 0 0)).run Tryz.prog w = .ok (.bool a.isNone) w := by
 simp only [binOp]
 simp [run_equal_slice_nil w 175 181 a l c Tryz.underlying175]
set_option maxHeartbeats 1000000 in
theorem cloneT_any (S : Nat → Prop) (w : World) (a : Option Addr) (cap : Nat) (l : List TxM) (h : (txsR).rel S w [.slice a l.length cap] l) (hl : l.length ≤ 100000) :
   Calls Tryz.prog 81 #[.slice a l.length cap] w fun e w' => ∃ v, e = .returned v ∧ Own txR w.heap.size 181 (fun k => S k ∨ w.heap.size ≤ k) w' v l ∧ Below w.heap.size w w' := by
 have hen := eql_nilT
 cases a with
 | none =>
   have hl0 : l = [] := by
     cases l with
     | nil => rfl
     | cons x xs => obtain ⟨b, off, es, h1, -⟩ := sliceR.at h 0 (by simp); cases h1
   subst hl0
   go_enter Tryz.func81, Tryz.ntmps81
   go_wp2_with fail; go_ret
   exact ⟨_, rfl, Own.nil _ _ _ _ _, Below.refl _ _⟩
 | some ad =>
   have hb0 := bnew (Below.refl w.heap.size w) (.cells #[] 181)
   have HO := Lib.hid ((Own.empty txR w.heap.size 181 (box_new w (.cells #[] 181)) (Nat.le_refl _)).mono (F' := fun k => S k ∨ w.heap.size ≤ k) fun k _ e => .inr (by omega))
   have HS := Lib.hid (Src.of_slice (((txsR)).keepB (((txsR)).bound h) hb0)); have HB := Lib.hid hb0; clear h hb0
   go_enter Tryz.func81, Tryz.ntmps81
   go_wp2_with (at_builtin; refine wpList_append_rel (r := txR) (base := w.heap.size) rfl _ _ rfl Tryz.etyTx rfl rfl HO.out HS.out (fun _ _ h => .inl h.1) (fun k e h => by have h1 : w.heap.size = k := Option.some.inj e; have := h.2; omega) (by unfold maxLen; simp; omega) (by simp; omega) (by rw [World.size_alloc]; omega) ?_)
   intro v3 w3 ho3 hk3 _
   have hb3 : Below w.heap.size w w3 := Kept.behind HB.out hk3 (by rw [World.size_alloc]; omega) fun k hk h => by have := (HO.out.lt h).2.2; omega
   have HG : Hid (Own txR w.heap.size 181 (fun k => S k ∨ w.heap.size ≤ k) w3 v3 l) := by
     have := ho3.mono (F' := fun k => S k ∨ w.heap.size ≤ k) fun k _ h => by
       rcases h with h | h
       · exact h
       · exact .inr (by omega)
     exact this
   have HB3 := Lib.hid hb3; clear ho3 hb3; go_wp2_with fail; go_ret
   exact ⟨_, rfl, HG.out, HB3.out⟩
theorem eql_nilU (a : Option Addr) (l c : Nat) (w : World) : (binOp .eql 179 (.slice a l c) (.slice none 0 0)).run Tryz.prog w = .ok (.bool a.isNone) w := by
 simp only [binOp]
 simp [run_equal_slice_nil w 179 297 a l c Tryz.underlying179]
set_option maxHeartbeats 1000000 in
theorem cloneU_any (S : Nat → Prop) (w : World) (a : Option Addr) (cap : Nat) (l : List OutM) (h : (outsR).rel S w [.slice a l.length cap] l) (hl : l.length ≤ 100000) :
   Calls Tryz.prog 189 #[.slice a l.length cap] w fun e w' => ∃ v, e = .returned v ∧ Own outR w.heap.size 297 (fun k => S k ∨ w.heap.size ≤ k) w' v l ∧ Below w.heap.size w w' := by
 have hen := eql_nilU
 cases a with
 | none =>
   have hl0 : l = [] := by
     cases l with
     | nil => rfl
     | cons x xs => obtain ⟨b, off, es, h1, -⟩ := sliceR.at h 0 (by simp); cases h1
   subst hl0
   go_enter Tryz.func189, Tryz.ntmps189
   go_wp2_with fail; go_ret
   exact ⟨_, rfl, Own.nil _ _ _ _ _, Below.refl _ _⟩
 | some ad =>
   have hb0 := bnew (Below.refl w.heap.size w) (.cells #[] 297)
   have HO := Lib.hid ((Own.empty outR w.heap.size 297 (box_new w (.cells #[] 297)) (Nat.le_refl _)).mono (F' := fun k => S k ∨ w.heap.size ≤ k) fun k _ e => .inr (by omega))
   have HS := Lib.hid (Src.of_slice (((outsR)).keepB (((outsR)).bound h) hb0)); have HB := Lib.hid hb0; clear h hb0
   go_enter Tryz.func189, Tryz.ntmps189
   go_wp2_with (at_builtin; refine wpList_append_rel (r := outR) (base := w.heap.size) rfl _ _ rfl Tryz.etyOut rfl rfl HO.out HS.out (fun _ _ h => .inl h.1) (fun k e h => by have h1 : w.heap.size = k := Option.some.inj e; have := h.2; omega) (by unfold maxLen; simp; omega) (by simp; omega) (by rw [World.size_alloc]; omega) ?_)
   intro v3 w3 ho3 hk3 _
   have hb3 : Below w.heap.size w w3 := Kept.behind HB.out hk3 (by rw [World.size_alloc]; omega) fun k hk h => by have := (HO.out.lt h).2.2; omega
   have HG : Hid (Own outR w.heap.size 297 (fun k => S k ∨ w.heap.size ≤ k) w3 v3 l) := by
     have := ho3.mono (F' := fun k => S k ∨ w.heap.size ≤ k) fun k _ h => by
       rcases h with h | h
       · exact h
       · exact .inr (by omega)
     exact this
   have HB3 := Lib.hid hb3; clear ho3 hb3; go_wp2_with fail; go_ret
   exact ⟨_, rfl, HG.out, HB3.out⟩
theorem eql_nilY (a : Option Addr) (l c : Nat) (w : World) : (binOp .eql 49 (.slice a l c) (.slice none 0 0)).run Tryz.prog w = .ok (.bool a.isNone) w := by
 simp only [binOp]
 simp [run_equal_slice_nil w 49 5 a l c Tryz.underlying49]
set_option maxHeartbeats 1000000 in
theorem cloneY_any (S : Nat → Prop) (w : World) (a : Option Addr) (cap : Nat) (l : List Int) (h : (bytesR).rel S w [.slice a l.length cap] l) (hl : l.length ≤ 10000000) :
   Calls Tryz.prog 103 #[.slice a l.length cap] w fun e w' => ∃ v, e = .returned v ∧ Own (intR .u8) w.heap.size 5 (fun k => S k ∨ w.heap.size ≤ k) w' v l ∧ Below w.heap.size w w' := by
 have hen := eql_nilY
 cases a with
 | none =>
   have hl0 : l = [] := by
     cases l with
     | nil => rfl
     | cons x xs => obtain ⟨b, off, es, h1, -⟩ := sliceR.at h 0 (by simp); cases h1
   subst hl0
   go_enter Tryz.func103, Tryz.ntmps103
   go_wp2_with fail; go_ret
   exact ⟨_, rfl, Own.nil _ _ _ _ _, Below.refl _ _⟩
 | some ad =>
   have hb0 := bnew (Below.refl w.heap.size w) (.cells #[] 5)
   have HO := Lib.hid ((Own.empty (intR .u8) w.heap.size 5 (box_new w (.cells #[] 5)) (Nat.le_refl _)).mono (F' := fun k => S k ∨ w.heap.size ≤ k) fun k _ e => .inr (by omega))
   have HS := Lib.hid (Src.of_slice (((bytesR)).keepB (((bytesR)).bound h) hb0)); have HB := Lib.hid hb0; clear h hb0
   go_enter Tryz.func103, Tryz.ntmps103
   go_wp2_with (at_builtin; refine wpList_append_rel (r := (intR .u8)) (base := w.heap.size) rfl _ _ rfl Tryz.etyBytes rfl rfl HO.out HS.out (fun _ _ h => .inl h.1) (fun k e h => by have h1 : w.heap.size = k := Option.some.inj e; have := h.2; omega) (by unfold maxLen; simp; omega) (by simp; omega) (by rw [World.size_alloc]; omega) ?_)
   intro v3 w3 ho3 hk3 _
   have hb3 : Below w.heap.size w w3 := Kept.behind HB.out hk3 (by rw [World.size_alloc]; omega) fun k hk h => by have := (HO.out.lt h).2.2; omega
   have HG : Hid (Own (intR .u8) w.heap.size 5 (fun k => S k ∨ w.heap.size ≤ k) w3 v3 l) := by
     have := ho3.mono (F' := fun k => S k ∨ w.heap.size ≤ k) fun k _ h => by
       rcases h with h | h
       · exact h
       · exact .inr (by omega)
     exact this
   have HB3 := Lib.hid hb3; clear ho3 hb3; go_wp2_with fail; go_ret
   exact ⟨_, rfl, HG.out, HB3.out⟩
end Go.Proofs.YtphacfkcifpobaaGreatDoor
/- The chain of the program: clone of a block. -/
namespace Go.Proofs.YtphacfkcifpobaaGreatDoor
open Go.ChangeShapes Go.WideShapes Go.ChangeAt Go.RowKit Go.Sort
structure Row2 {α : Type} (r : Rep α) (e : TypeId) (w : World) (g cap : Nat) (css : List (List Value)) (xs : List α) (i : Nat) (A B : Nat → Prop) : Prop where
 row : RowC e r.n w g cap css
 len : css.length = xs.length
 cap : cap ≤ maxLen
 lo : ∀ (j : Nat) (cs : List Value) (x : α), j < i → css[j]? = some cs → xs[j]? = some x → r.rel A w cs x
 hi : ∀ (j : Nat) (cs : List Value) (x : α), i ≤ j → css[j]? = some cs → xs[j]? = some x → r.rel B w cs x
theorem Row2.next {α : Type} {r : Rep α} {e : TypeId} {w w' : World} {g cap : Nat} {css : List (List Value)} {xs : List α} {i : Nat} {A B S : Nat → Prop} (h : Row2 r e w g cap css xs i A B) (hi : i < xs.length) (hk : Kept S w w') (hA : ∀ k, k < w.heap.size → A k → S k) (hB : ∀ k, k < w.heap.size → B k → S k) {es : List Value} (hrow : RowC e r.n w' g cap (css.set i es)) (hx : r.rel A w' es xs[i]) :
   Row2 r e w' g cap (css.set i es) xs (i + 1) A B := by
 refine ⟨hrow, by rw [List.length_set, h.len], h.cap, fun j cs x hj hc hx' => ?_, fun j cs x hj hc hx' => ?_⟩
 · by_cases e1 : i = j
   · subst e1
     rw [List.getElem?_set_self (by rw [h.len]; exact hi)] at hc
     rw [List.getElem?_eq_getElem hi] at hx'; obtain rfl := Option.some.inj hc; obtain rfl := Option.some.inj hx'
     exact hx
   · rw [List.getElem?_set_ne e1] at hc
     exact r.mono (r.keep (r.bound (h.lo j cs x (by omega) hc hx')) (hk.mono fun k hk' hh => hA k hh.2 hh.1)) fun k _ hh => hh.1
 · rw [List.getElem?_set_ne (by omega)] at hc
   exact r.mono (r.keep (r.bound (h.hi j cs x (by omega) hc hx')) (hk.mono fun k hk' hh => hB k hh.2 hh.1)) fun k _ hh => hh.1
theorem Row2.slice {α : Type} {r : Rep α} {e : TypeId} {w : World} {g cap : Nat} {css : List (List Value)} {xs : List α} {A B F : Nat → Prop} (h : Row2 r e w g cap css xs xs.length A B) (hA : ∀ k, A k → F k) (hg : F g) : (sliceR r).rel F w [.slice (some ⟨g, 0, none⟩) xs.length cap] xs :=
 h.row.slice h.cap h.len (fun i cs x hc hx => r.mono (h.lo i cs x (List.getElem?_eq_some_iff.1 hx).1 hc hx) fun k _ => hA k) hg
theorem txR.mk {S : Nat → Prop} {w : World} {t : TxM} {ma oa pa : Option Addr} {mc oc pc : Nat} (h : TxIn S w t ma oa pa mc oc pc) : txR.rel S w (txCells t ma oa pa mc oc pc) t :=
 ⟨[_], _, rfl, ⟨rfl, h.anchor⟩, [_], _, rfl, h.marks, [_], _, rfl, h.outs, [_], _, rfl, ⟨rfl, h.dep⟩, [_], _, rfl, ⟨rfl, h.wd⟩, [_], _, rfl, ⟨rfl, h.fee⟩, [_], _, rfl, ⟨rfl, h.acc⟩, [_], _, rfl, ⟨rfl, h.nonce⟩, [_], [_], rfl, ⟨rfl, h.exp⟩, h.proof⟩
theorem outR.mk {S : Nat → Prop} {w : World} {o : OutM} {a : Option Addr} {c : Nat} (h1 : okU o.commit) (h2 : okU o.p0) (h3 : okU o.p1) (h4 : numsR.rel S w [.slice a o.cipher.length c] o.cipher) : outR.rel S w [.int .u64 o.commit, .int .u64 o.p0, .int .u64 o.p1, .slice a o.cipher.length c] o :=
 ⟨[_], _, rfl, ⟨rfl, h1⟩, [_, _], [_], rfl, ⟨[_], [_], rfl, ⟨rfl, h2⟩, ⟨rfl, h3⟩⟩, h4⟩
theorem TxIn.cap {S : Nat → Prop} {w : World} {t : TxM} {ma oa pa : Option Addr} {mc oc pc : Nat} (h : TxIn S w t ma oa pa mc oc pc) : TxIn (fun k => S k ∧ k < w.heap.size) w t ma oa pa mc oc pc :=
 ⟨h.anchor, h.dep, h.wd, h.fee, h.acc, h.nonce, h.exp, numsR.bound h.marks, outsR.bound h.outs, bytesR.bound h.proof⟩
theorem RowC.setS {e : TypeId} {n : Nat} {w : World} {g cap : Nat} {css : List (List Value)} {i : Nat} {X : List Value} (h : RowC e n w g cap (css.set i X)) (hi : i < css.length) (j : Nat) (hj : j < n) (v : Value) : RowC e n (w.setCell ⟨g, i * n + j, none⟩ v) g cap (css.set i (X.set j v)) := by
 have h1 := h.set i j (by rw [List.length_set]; exact hi) hj v
 rw [List.getElem_set_self, List.set_set] at h1
 exact h1
theorem RowC.cellS {e : TypeId} {n : Nat} {w : World} {g cap : Nat} {css : List (List Value)} {i : Nat} {X : List Value} (h : RowC e n w g cap (css.set i X)) (hi : i < css.length) (j : Nat) (hj : j < n) (v : Value) (hv : X[j]? = some v) : w.cell? ⟨g, i * n + j, none⟩ = some v := by
 have h1 := h.get i j (by rw [List.length_set]; exact hi) hj
 rw [h1, ← hv]
 simp only [List.getElem_set_self]
 rw [List.getElem?_eq_getElem]
def ClRow (W : World) (n : Nat) (b : BlkM) (ya : Option Addr) (yc : Nat) (wr : World) (i : Nat) : Prop :=
 ∃ (g : Nat) (css : List (List Value)), ya = some ⟨g, 0, none⟩ ∧ W.heap.size ≤ g ∧ g < n ∧ Row2 txR 181 wr g yc css b.txs i (fun k => W.heap.size ≤ k ∧ k ≠ g) (fun k => k ≠ g)
def OutRow (W : World) (n : Nat) (os : List OutM) (ya : Option Addr) (yc : Nat) (wx : World) (k : Nat) : Prop :=
 ∃ (g : Nat) (css : List (List Value)), ya = some ⟨g, 0, none⟩ ∧ W.heap.size ≤ g ∧ g < n ∧ Row2 outR 297 wx g yc css os k (fun q => W.heap.size ≤ q ∧ q ≠ g) (fun q => q ≠ g)
def ClOut (b : BlkM) (w : World) (e : Ending) (w' : World) : Prop :=
 ∃ (ya : Option Addr) (yc : Nat), e = .returned (.agg #[.int .u64 b.parent, .int .i64 b.height, .int .u64 b.miner, .int .u64 b.work, .int .u64 b.nonce, .slice ya b.txs.length yc]) ∧ BlkIn (fun k => w.heap.size ≤ k) w' b ya yc ∧ Below w.heap.size w w'
set_option maxHeartbeats 4000000 in
theorem chClone_any (S : Nat → Prop) (w : World) (b : BlkM) (xa : Option Addr) (xc : Nat) (h : BlkIn S w b xa xc) (hbl : b.txs.length ≤ 64) (hsm : ∀ t ∈ b.txs, t.marks.length ≤ 100 ∧ t.outs.length ≤ 100 ∧ t.proof.length ≤ 1048576 ∧ ∀ o ∈ t.outs, o.cipher.length ≤ 1000) :
   Calls Tryz.prog 203 #[.agg #[.int .u64 b.parent, .int .i64 b.height, .int .u64 b.miner, .int .u64 b.work, .int .u64 b.nonce, .slice xa b.txs.length xc]] w (ClOut b w) := by
 have hbA := bnew (Below.refl w.heap.size w) (.cells #[.int .u64 b.parent, .int .i64 b.height, .int .u64 b.miner, .int .u64 b.work, .int .u64 b.nonce, .slice xa b.txs.length xc] 177); have hbB := bnew hbA (.cells #[.int .u64 0, .int .i64 0, .int .u64 0, .int .u64 0, .int .u64 0, .slice none 0 0] 177); have HX := Lib.hid (two_new w (.cells #[.int .u64 b.parent, .int .i64 b.height, .int .u64 b.miner, .int .u64 b.work, .int .u64 b.nonce, .slice xa b.txs.length xc] 177) (.cells #[.int .u64 0, .int .i64 0, .int .u64 0, .int .u64 0, .int .u64 0, .slice none 0 0] 177)).2; have HZ := Lib.hid (two_new w (.cells #[.int .u64 b.parent, .int .i64 b.height, .int .u64 b.miner, .int .u64 b.work, .int .u64 b.nonce, .slice xa b.txs.length xc] 177) (.cells #[.int .u64 0, .int .i64 0, .int .u64 0, .int .u64 0, .int .u64 0, .slice none 0 0] 177)).1
 have HT : Hid (txsR.rel (fun k => k < w.heap.size) ((w.alloc (.cells #[.int .u64 b.parent, .int .i64 b.height, .int .u64 b.miner, .int .u64 b.work, .int .u64 b.nonce, .slice xa b.txs.length xc] 177)).alloc (.cells #[.int .u64 0, .int .i64 0, .int .u64 0, .int .u64 0, .int .u64 0, .slice none 0 0] 177)) [.slice xa b.txs.length xc] b.txs) := txsR.keepB (txsR.mono (txsR.bound h.txs) fun _ _ hh => hh.2) hbB
 have HB := Lib.hid hbB
 have HSZ : Hid (((w.alloc (.cells #[.int .u64 b.parent, .int .i64 b.height, .int .u64 b.miner, .int .u64 b.work, .int .u64 b.nonce, .slice xa b.txs.length xc] 177)).alloc (.cells #[.int .u64 0, .int .i64 0, .int .u64 0, .int .u64 0, .int .u64 0, .slice none 0 0] 177)).heap.size = w.heap.size + 2) := by show _ = _; rw [World.size_alloc, World.size_alloc]
 have HSM := Lib.hid hsm; have HBI : Hid (okU b.parent ∧ okI b.height ∧ okU b.miner ∧ okU b.work ∧ okU b.nonce) := ⟨h.parent, h.height, h.miner, h.work, h.nonce⟩; clear hbA hbB h hsm
 go_enter Tryz.func203, Tryz.ntmps203
 go_upto_region 1 with (fail)
 generalize (w.alloc (.cells #[.int .u64 b.parent, .int .i64 b.height, .int .u64 b.miner, .int .u64 b.work, .int .u64 b.nonce, .slice xa b.txs.length xc] 177)).alloc (.cells #[.int .u64 0, .int .i64 0, .int .u64 0, .int .u64 0, .int .u64 0, .slice none 0 0] 177) = W at *; obtain ⟨x0, x1⟩ := box_cells HX.out; go_wp2_with fail
 refine (cloneT_any (fun k => k < w.heap.size) W xa xc b.txs HT.out (by omega)).mono ?_
 rintro e w1 ⟨u, rfl, hu, hb1⟩; obtain ⟨ya, yc, rfl, -, -⟩ := own_form hu; have HU := Lib.hid hu; have HB1 := Lib.hid hb1; clear x0 x1 hu; have HX1 := Lib.hid (box_after hb1 HX.out); have HZ1 := Lib.hid (box_after hb1 HZ.out); clear hb1; obtain ⟨x0, x1⟩ := box_cells HX1.out
 go_upto_region 2 with (fail)
 have hk2 := kept_one w1 w.heap.size 5 (.slice ya b.txs.length yc); have HX2 : Hid ((w1.setCell ⟨w.heap.size, 5, none⟩ (.slice ya b.txs.length yc)).heap[w.heap.size]? = some (.cells #[.int .u64 b.parent, .int .i64 b.height, .int .u64 b.miner, .int .u64 b.work, .int .u64 b.nonce, .slice ya b.txs.length yc] 177 (0, 0))) := box_set HX1.out
 have HZ2 := Lib.hid (box_kept hk2 HZ1.out (show w.heap.size + 1 ≠ w.heap.size by omega))
 have HKW : Hid (Kept (fun k => k < w.heap.size) w (w1.setCell ⟨w.heap.size, 5, none⟩ (.slice ya b.txs.length yc))) := ((Kept.of_below (S := fun k => k < w.heap.size) HB.out).trans (Kept.of_below (S := fun k => k < w.heap.size) HB1.out) fun _ _ h => h).trans hk2 fun k _ h => by have h' : k < w.heap.size := h; show k ≠ _; omega
 have HU2 := Lib.hid (HU.out.keep (hk2.mono fun k _ h => by have := HSZ.out; rcases h with h | h <;> (show k ≠ _; omega)))
 have HWZ : Hid (w.heap.size + 2 ≤ w1.heap.size) := by show _ ≤ _; have := HB1.out.size; have := HSZ.out; omega
 have hsz2 : (w1.setCell ⟨w.heap.size, 5, none⟩ (.slice ya b.txs.length yc)).heap.size = w1.heap.size := by simp [World.setCell]
 have HW12 := Lib.hid hsz2; generalize w1.setCell ⟨w.heap.size, 5, none⟩ (.slice ya b.txs.length yc) = w2 at *; clear x0 x1 hk2 HX1 HZ1 HU hsz2
 have HR2 : Hid (0 < b.txs.length → ClRow W w2.heap.size b ya yc w2 0) := fun h0 => by
   obtain ⟨g, cap, css, S2, hv, hg1, -, hcm, hrow, hcl, hS2, hrel⟩ := HU2.out.rowC h0
   simp only [Value.slice.injEq, true_and] at hv
   obtain ⟨rfl, rfl⟩ := hv
   exact ⟨g, css, rfl, hg1, hrow.lt, hrow, hcl, hcm, fun j cs x hj => absurd hj (Nat.not_lt_zero _), fun j cs x _ hc hx => txR.mono (hrel j cs x hc hx) fun k _ hk => (hS2 k hk).2.2⟩
 have HLAST : Hid (∀ {wr : World}, (0 < b.txs.length → ClRow W w2.heap.size b ya yc wr b.txs.length) → txsR.rel (fun k => W.heap.size ≤ k) wr [.slice ya b.txs.length yc] b.txs) := fun {wr} hh => by
   rcases Nat.eq_zero_or_pos b.txs.length with h0 | h0
   · obtain ⟨a', l', c', e1, e2, e3, e4, e5, -⟩ := HU2.out.slice
     exact ⟨a', l', c', e1, e2, e3, e4, e5, fun i x hx => by have := (List.getElem?_eq_some_iff.1 hx).1; omega⟩
   · obtain ⟨g, css, rfl, hg1, -, hrow⟩ := hh h0
     exact hrow.slice (fun k hk => hk.1) hg1
 clear HU2; obtain ⟨x0, x1⟩ := box_cells HX2.out; go_wp2_with fail; clear x0 x1
 go_loopw [13] (fun vi wr => ∃ i : Nat, i ≤ b.txs.length ∧ vi = .int .i64 i ∧ Hid (wr.heap[w.heap.size]? = some (.cells #[.int .u64 b.parent, .int .i64 b.height, .int .u64 b.miner, .int .u64 b.work, .int .u64 b.nonce, .slice ya b.txs.length yc] 177 (0, 0))) ∧ Hid (wr.heap[w.heap.size + 1]? = some (.cells #[.int .u64 0, .int .i64 0, .int .u64 0, .int .u64 0, .int .u64 0, .slice none 0 0] 177 (0, 0))) ∧ Hid (Kept (fun k => k < w.heap.size) w wr) ∧ Hid (w2.heap.size ≤ wr.heap.size) ∧ Hid (0 < b.txs.length → ClRow W w2.heap.size b ya yc wr i)) (fun vi _ => b.txs.length - (intOf vi).toNat)
 case atStart => exact ⟨0, Nat.zero_le _, rfl, HX2, HZ2, HKW, Nat.le_refl _, HR2⟩
 case round =>
   clear HX2 HZ2 HKW HR2; obtain ⟨i, hi, rfl, HX2, HZ2, HKW, HWS, HR2⟩ := hrel
   by_cases hlt : i < b.txs.length
   · obtain ⟨g, css, hya, hg1, hg2, hrow⟩ := HR2.out (by omega)
     subst hya
     have hil : i < css.length := by rw [hrow.len]; exact hlt
     have hrel := hrow.hi i css[i] b.txs[i] (Nat.le_refl _) (by simp [hil]) (by simp [hlt])
     obtain ⟨ma, oa, pa, mc, oc, pc, hes, hin⟩ := txR.inv hrel
     have hrow0 : RowC 181 10 wr g yc (css.set i (txCells b.txs[i] ma oa pa mc oc pc)) := by
       rw [← hes, List.set_getElem_self]; exact hrow.row
     have HROW := Lib.hid hrow; have HIN := Lib.hid hin.cap; have HIL := Lib.hid hil; obtain ⟨s1, s2, s3, s4⟩ := HSM.out b.txs[i] (List.getElem_mem hlt); obtain ⟨t, ht⟩ : ∃ t, b.txs[i] = t := ⟨_, rfl⟩; have HTT := Lib.hid ht; rw [ht] at hrow0 HIN s1 s2 s3 s4; have HS4 := Lib.hid s4; have hgw : g < wr.heap.size := Nat.lt_of_lt_of_le hg2 HWS.out
     have c1 : wr.cell? ⟨g, i * 10 + 1, none⟩ = some (.slice ma t.marks.length mc) := hrow0.cellS hil 1 (by omega) _ rfl
     have hfz := hrow0.froz; have HR0 := Lib.hid hrow0; obtain ⟨x0, x1⟩ := box_cells HX2.out
     have i0 : (0 : Int) ≤ (i : Int) := by omega
     have i1 : (i : Int) < (b.txs.length : Int) := by omega
     have i2 : IntKind.i64.wrap (i : Int) = i := by rw [IntKind.wrap_i64]; omega
     clear hrow hrel hes hin hil ht hrow0 s4 HR2; go_wp2_with fail
     refine (cloneO_any _ wr ma mc t.marks HIN.out.marks (by omega)).mono ?_
     rintro e w3 ⟨u1, rfl, ho1, hb3⟩; obtain ⟨a1, d1, rfl, -, -⟩ := own_form ho1; have HR3 := Lib.hid (HR0.out.keepB hb3)
     have c1 := HR3.out.cellS HIL.out 1 (by omega) _ rfl
     have hfz := HR3.out.froz; have HO1 := Lib.hid ho1; have HB3 := Lib.hid hb3; clear ho1 hb3 x0 x1 HR0
     go_upto_region 7 with (fail)
     have hgz : g < wr.heap.size := hgw; have hk4 := kept_one w3 g (i * 10 + 1) (.slice a1 t.marks.length d1)
     have HR4 : Hid (RowC 181 10 (w3.setCell ⟨g, i * 10 + 1, none⟩ (.slice a1 t.marks.length d1)) g yc (css.set i (txCells t a1 oa pa d1 oc pc))) := HR3.out.setS HIL.out 1 (by omega) _
     have HM4 : Hid (numsR.rel (fun k => wr.heap.size ≤ k) (w3.setCell ⟨g, i * 10 + 1, none⟩ (.slice a1 t.marks.length d1)) [.slice a1 t.marks.length d1] t.marks) := numsR.keep HO1.out.slice (hk4.mono fun k _ h => by have h' : wr.heap.size ≤ k := h; show k ≠ g; omega)
     have HK4 : Hid (Kept (fun k => k ≠ g ∧ k < wr.heap.size) wr (w3.setCell ⟨g, i * 10 + 1, none⟩ (.slice a1 t.marks.length d1))) := (Kept.of_below (S := fun k => k ≠ g ∧ k < wr.heap.size) HB3.out).trans hk4 fun k _ h => h.1
     have HI4 := Lib.hid (HIN.out.keep HK4.out); have HZ4 : Hid (wr.heap.size ≤ (w3.setCell ⟨g, i * 10 + 1, none⟩ (.slice a1 t.marks.length d1)).heap.size) := HK4.out.size; clear hk4 c1 hfz HR3 HO1 HB3; generalize w3.setCell ⟨g, i * 10 + 1, none⟩ (.slice a1 t.marks.length d1) = w4 at *
     have c1 := HR4.out.cellS HIL.out 2 (by omega) _ rfl
     have hfz := HR4.out.froz; go_wp2_with fail
     refine (cloneU_any (fun k => k ≠ g ∧ k < wr.heap.size) w4 oa oc t.outs HI4.out.outs (by omega)).mono ?_
     rintro e w5 ⟨u2, rfl, ho2, hb5⟩; obtain ⟨a2, d2, rfl, -, -⟩ := own_form ho2; have HR5 := Lib.hid (HR4.out.keepB hb5); have HO2 := Lib.hid ho2; have HB5 := Lib.hid hb5; clear ho2 hb5 c1 hfz
     have c1 := HR5.out.cellS HIL.out 2 (by omega) _ rfl
     have hfz := HR5.out.froz
     go_upto_region 8 with (fail)
     have hgz4 : g < w4.heap.size := by have := HZ4.out; omega
     have hk6 := kept_one w5 g (i * 10 + 2) (.slice a2 t.outs.length d2)
     have HR6 : Hid (RowC 181 10 (w5.setCell ⟨g, i * 10 + 2, none⟩ (.slice a2 t.outs.length d2)) g yc (css.set i (txCells t a1 a2 pa d1 d2 pc))) := HR5.out.setS HIL.out 2 (by omega) _
     have HK46 : Hid (Kept (fun k => k ≠ g ∧ k < w4.heap.size) w4 (w5.setCell ⟨g, i * 10 + 2, none⟩ (.slice a2 t.outs.length d2))) := (Kept.of_below (S := fun k => k ≠ g ∧ k < w4.heap.size) HB5.out).trans hk6 fun k _ h => h.1
     have HK6 : Hid (Kept (fun k => k ≠ g ∧ k < wr.heap.size) wr (w5.setCell ⟨g, i * 10 + 2, none⟩ (.slice a2 t.outs.length d2))) := HK4.out.trans HK46.out fun k _ h => ⟨h.1, by have := HZ4.out; omega⟩
     have HM6 : Hid (numsR.rel (fun k => wr.heap.size ≤ k ∧ k < w4.heap.size) (w5.setCell ⟨g, i * 10 + 2, none⟩ (.slice a2 t.outs.length d2)) [.slice a1 t.marks.length d1] t.marks) := numsR.keep (numsR.bound HM4.out) (HK46.out.mono fun k _ h => ⟨by omega, h.2⟩)
     have HI6 := Lib.hid (HIN.out.keep HK6.out)
     have HO6 : Hid (Own outR w4.heap.size 297 (fun k => (k ≠ g ∧ k < wr.heap.size) ∨ w4.heap.size ≤ k) (w5.setCell ⟨g, i * 10 + 2, none⟩ (.slice a2 t.outs.length d2)) (.slice a2 t.outs.length d2) t.outs) := HO2.out.keep (hk6.mono fun k _ h => by rcases h with h | h; exact h.1; show k ≠ g; omega)
     have HZ6 : Hid (w4.heap.size ≤ (w5.setCell ⟨g, i * 10 + 2, none⟩ (.slice a2 t.outs.length d2)).heap.size) := HK46.out.size; clear hk6 c1 hfz HR4 HR5 HO2 HB5 HM4 HI4; generalize w5.setCell ⟨g, i * 10 + 2, none⟩ (.slice a2 t.outs.length d2) = w6 at *
     have c1 := HR6.out.cellS HIL.out 2 (by omega) _ rfl
     have HG2 : Hid (∀ q, blkO a2 = some q → w4.heap.size ≤ q ∧ q < w6.heap.size) := fun q e => by
       have h1 := HO6.out.lt (k := q) (by rw [own_blk]; exact e)
       exact ⟨h1.2.2, h1.1⟩
     have HOR : Hid (0 < t.outs.length → OutRow w4 w6.heap.size t.outs a2 d2 w6 0) := fun h0 => by
       obtain ⟨g2, cap, css2, S2, hv, hg1', -, hcm, hrow, hcl, hS2, hrel⟩ := HO6.out.rowC h0
       simp only [Value.slice.injEq, true_and] at hv
       obtain ⟨rfl, rfl⟩ := hv
       exact ⟨g2, css2, rfl, hg1', hrow.lt, hrow, hcl, hcm, fun j cs x hj => absurd hj (Nat.not_lt_zero _), fun j cs x _ hc hx => outR.mono (hrel j cs x hc hx) fun k _ hk => (hS2 k hk).2.2⟩
     have HOL : Hid (∀ {wx : World}, (0 < t.outs.length → OutRow w4 w6.heap.size t.outs a2 d2 wx t.outs.length) → outsR.rel (fun k => w4.heap.size ≤ k) wx [.slice a2 t.outs.length d2] t.outs) := fun {wx} hh => by
       rcases Nat.eq_zero_or_pos t.outs.length with h0 | h0
       · obtain ⟨a', l', c', e1, e2, e3, e4, e5, -⟩ := HO6.out.slice
         exact ⟨a', l', c', e1, e2, e3, e4, e5, fun i x hx => by have := (List.getElem?_eq_some_iff.1 hx).1; omega⟩
       · obtain ⟨g2, css2, rfl, hg1', -, hrow⟩ := hh h0
         exact hrow.slice (fun k hk => hk.1) hg1'
     clear HO6; obtain ⟨wo, hwo⟩ : ∃ x, x = wr := ⟨wr, rfl⟩; subst hwo; go_wp2_with fail
     go_loopw [41] (fun vi wx => ∃ k : Nat, k ≤ t.outs.length ∧ vi = .int .i64 k ∧ Hid (Kept (fun q => q < w6.heap.size ∧ blkO a2 ≠ some q) w6 wx) ∧ Hid (0 < t.outs.length → OutRow w4 w6.heap.size t.outs a2 d2 wx k)) (fun vi _ => t.outs.length - (intOf vi).toNat)
     case atStart => exact ⟨0, Nat.zero_le _, rfl, Kept.refl _ _, HOR⟩
     case round =>
       clear HOR; obtain ⟨k, hk, rfl, HKX, HOR⟩ := hrel; obtain ⟨wx, hwx⟩ : ∃ x, x = wr := ⟨wr, rfl⟩; subst hwx; have HZX : Hid (w6.heap.size ≤ wx.heap.size) := HKX.out.size
       have HRX : Hid (RowC 181 10 wx g yc (css.set i (txCells t a1 a2 pa d1 d2 pc))) := HR6.out.keep HKX.out ⟨by have := HZ6.out; omega, fun e => by have := (HG2.out g e).1; omega⟩
       by_cases hlt2 : k < t.outs.length
       · obtain ⟨g2, css2, ha2, hga, hgb, hrow2⟩ := HOR.out (by omega)
         subst ha2
         have hil2 : k < css2.length := by rw [hrow2.len]; exact hlt2
         have hrel2 := hrow2.hi k css2[k] t.outs[k] (Nat.le_refl _) (by simp [hil2]) (by simp [hlt2])
         obtain ⟨ca, cc, hes2, o1, o2, o3, hci⟩ := outR.inv hrel2; have hcl := HS4.out t.outs[k] (List.getElem_mem hlt2)
         have hrow20 : RowC 297 4 wx g2 d2 (css2.set k [.int .u64 t.outs[k].commit, .int .u64 t.outs[k].p0, .int .u64 t.outs[k].p1, .slice ca t.outs[k].cipher.length cc]) := by
           rw [← hes2, List.set_getElem_self]; exact hrow2.row
         have HROW2 := Lib.hid hrow2; have HIL2 := Lib.hid hil2; obtain ⟨og, hog⟩ : ∃ o, t.outs[k] = o := ⟨_, rfl⟩; have HOG := Lib.hid hog; rw [hog] at o1 o2 o3 hci hcl hrow20; have HO3 : Hid (okU og.commit ∧ okU og.p0 ∧ okU og.p1) := ⟨o1, o2, o3⟩; have HCI := Lib.hid (numsR.bound hci); have HRR := Lib.hid hrow20
         have cg := HRX.out.cellS HIL.out 2 (by omega) _ rfl
         have co := HRR.out.cellS HIL2.out 3 (by omega) _ rfl
         have i3 : (0 : Int) ≤ (k : Int) := by omega
         have i4 : (k : Int) < (t.outs.length : Int) := by omega
         have i5 : IntKind.i64.wrap (k : Int) = k := by rw [IntKind.wrap_i64]; omega
         have hg2x : g2 < wx.heap.size := hrow20.lt; clear hil2 hrel2 hes2 o1 o2 o3 hci hrow20 hrow2 hog HOR
         go_upto_region 11 with (fail)
         go_region_law (first
           | (go_simp; go_at_call 167
              refine (cloneO_any _ wx.drew ca cc og.cipher (numsR.keepB HCI.out (Below.refl _ _).drew) (by omega)).mono ?_
              rintro e w7 ⟨u3, rfl, ho3, hb7⟩; obtain ⟨a3, d3, rfl, -, -⟩ := own_form ho3; have HB7 : Hid (Below wx.heap.size wx w7) := bnext ((Below.refl wx.heap.size wx).drew) hb7
              have HO7 : Hid (Own u64R wx.heap.size 24 (fun k => wx.heap.size ≤ k) w7 (.slice a3 og.cipher.length d3) og.cipher) := ho3
              have HRR7 := Lib.hid (HRR.out.keepB HB7.out); have HRX7 := Lib.hid (HRX.out.keepB HB7.out)
              have co := HRR7.out.cellS HIL2.out 3 (by omega) _ rfl
              have cg := HRX7.out.cellS HIL.out 2 (by omega) _ rfl
              have fz := HRR7.out.froz; clear hb7 ho3))
         all_goals
           have hk8 := kept_one w7 g2 (k * 4 + 3) (.slice a3 og.cipher.length d3)
           have hk78 : Kept (fun q => q ≠ g2 ∧ q < wx.heap.size) wx (w7.setCell ⟨g2, k * 4 + 3, none⟩ (.slice a3 og.cipher.length d3)) := (Kept.of_below (S := fun q => q ≠ g2 ∧ q < wx.heap.size) HB7.out).trans hk8 fun q _ h => h.1
           have HK8 : Hid (Kept (fun q => q < w6.heap.size ∧ blkO (some (⟨g2, 0, none⟩ : Addr)) ≠ some q) w6 (w7.setCell ⟨g2, k * 4 + 3, none⟩ (.slice a3 og.cipher.length d3))) := HKX.out.trans hk78 fun q _ h => ⟨fun e => h.2 (by rw [e]; rfl), by have := HZX.out; have := h.1; omega⟩
           have hrow8 : RowC 297 4 (w7.setCell ⟨g2, k * 4 + 3, none⟩ (.slice a3 og.cipher.length d3)) g2 d2 (css2.set k [.int .u64 og.commit, .int .u64 og.p0, .int .u64 og.p1, .slice a3 og.cipher.length d3]) := HRR7.out.setS HIL2.out 3 (by omega) _
           have hci8 : numsR.rel (fun q => w4.heap.size ≤ q ∧ q ≠ g2) (w7.setCell ⟨g2, k * 4 + 3, none⟩ (.slice a3 og.cipher.length d3)) [.slice a3 og.cipher.length d3] og.cipher :=
             numsR.mono (numsR.keep HO7.out.slice (hk8.mono fun q _ h => by have h' : wx.heap.size ≤ q := h; show q ≠ g2; omega)) fun q _ h => by have h' : wx.heap.size ≤ q := h; have := HZX.out; have := HZ6.out; exact ⟨by omega, by omega⟩
           have HOR8 : Hid (0 < t.outs.length → OutRow w4 w6.heap.size t.outs (some ⟨g2, 0, none⟩) d2 (w7.setCell ⟨g2, k * 4 + 3, none⟩ (.slice a3 og.cipher.length d3)) (k + 1)) := fun _ =>
             ⟨g2, _, rfl, hga, hgb, HROW2.out.next hlt2 hk78 (fun q h1 h2 => ⟨h2.2, h1⟩) (fun q h1 h2 => ⟨h2, h1⟩) hrow8 (by rw [HOG.out]; exact outR.mk HO3.out.1 HO3.out.2.1 HO3.out.2.2 hci8)⟩
           clear hk8 hk78 hrow8 hci8 co cg fz; go_wp2_with fail
           go_roundw
           case rel => exact ⟨k + 1, by omega, by go_num, HK8, HOR8⟩
           case measure => simp [intOf]; omega
       · obtain rfl : k = t.outs.length := by omega
         have HOUT := Lib.hid (HOL.out HOR.out); clear hlt2 hk HOR HOL; have hgo : g < wo.heap.size := hgz
         have HKWX : Hid (Kept (fun k => k ≠ g ∧ k < wo.heap.size) wo wx) := HK6.out.trans HKX.out fun k _ h => ⟨by have := HZ4.out; have := HZ6.out; omega, fun e => by have := (HG2.out k e).1; have := HZ4.out; omega⟩
         have HIX := Lib.hid (HIN.out.keep HKWX.out)
         have c1 := HRX.out.cellS HIL.out 9 (by omega) _ rfl
         have hfz := HRX.out.froz; go_wp2_with fail
         refine (cloneY_any (fun k => k ≠ g ∧ k < wo.heap.size) wx pa pc t.proof HIX.out.proof (by omega)).mono ?_
         rintro e w8 ⟨u4, rfl, ho8, hb8⟩; obtain ⟨a4, d4, rfl, -, -⟩ := own_form ho8; have HR8 := Lib.hid (HRX.out.keepB hb8); have hk9 := kept_one w8 g (i * 10 + 9) (.slice a4 t.proof.length d4)
         have hrow9 : RowC 181 10 (w8.setCell ⟨g, i * 10 + 9, none⟩ (.slice a4 t.proof.length d4)) g yc (css.set i (txCells t a1 a2 a4 d1 d2 d4)) := HR8.out.setS HIL.out 9 (by omega) _
         have HK9 : Hid (Kept (fun k => k ≠ g ∧ k < wo.heap.size) wo (w8.setCell ⟨g, i * 10 + 9, none⟩ (.slice a4 t.proof.length d4))) := (HKWX.out.trans (Kept.of_below (S := fun k => k ≠ g ∧ k < wo.heap.size) hb8) fun _ _ h => h).trans hk9 fun k _ h => h.1
         have hm9 : numsR.rel (fun k => W.heap.size ≤ k ∧ k ≠ g) (w8.setCell ⟨g, i * 10 + 9, none⟩ (.slice a4 t.proof.length d4)) [.slice a1 t.marks.length d1] t.marks :=
           numsR.mono (numsR.keep (numsR.keepB (numsR.keep HM6.out (HKX.out.mono fun k _ h => ⟨by have := HZ6.out; omega, fun e => by have := (HG2.out k e).1; omega⟩)) hb8) (hk9.mono fun k _ h => by show k ≠ g; omega)) fun k _ h => ⟨by have := HWS.out; have := HB1.out.size; have := HW12.out; omega, by omega⟩
         have ho9 : outsR.rel (fun k => W.heap.size ≤ k ∧ k ≠ g) (w8.setCell ⟨g, i * 10 + 9, none⟩ (.slice a4 t.proof.length d4)) [.slice a2 t.outs.length d2] t.outs :=
           outsR.mono (outsR.keep (outsR.keepB HOUT.out hb8) (hk9.mono fun k _ h => by have h' : w4.heap.size ≤ k := h; have := HZ4.out; show k ≠ g; omega)) fun k _ h => by have h' : w4.heap.size ≤ k := h; have := HZ4.out; have := HWS.out; have := HB1.out.size; have := HW12.out; exact ⟨by omega, by omega⟩
         have hzx : wo.heap.size ≤ wx.heap.size := HKWX.out.size
         have hp9 : bytesR.rel (fun k => W.heap.size ≤ k ∧ k ≠ g) (w8.setCell ⟨g, i * 10 + 9, none⟩ (.slice a4 t.proof.length d4)) [.slice a4 t.proof.length d4] t.proof := by
           have h1 : bytesR.rel (fun k => wx.heap.size ≤ k) w8 [.slice a4 t.proof.length d4] t.proof := bytesR.mono ho8.tight.slice fun k _ e => (ho8.lt e).2.2
           exact bytesR.mono (bytesR.keep h1 (hk9.mono fun k _ h => by have h' : wx.heap.size ≤ k := h; show k ≠ g; omega)) fun k _ h => by have h' : wx.heap.size ≤ k := h; have := HWS.out; have := HB1.out.size; have := HW12.out; exact ⟨by omega, by omega⟩
         have HROW9 : Hid (0 < b.txs.length → ClRow W w2.heap.size b (some ⟨g, 0, none⟩) yc (w8.setCell ⟨g, i * 10 + 9, none⟩ (.slice a4 t.proof.length d4)) (i + 1)) := fun _ =>
           ⟨g, _, rfl, hg1, hg2, HROW.out.next hlt HK9.out (fun k h1 h2 => ⟨h2.2, h1⟩) (fun k h1 h2 => ⟨h2, h1⟩) hrow9 (by rw [HTT.out]; exact txR.mk ⟨HIN.out.anchor, HIN.out.dep, HIN.out.wd, HIN.out.fee, HIN.out.acc, HIN.out.nonce, HIN.out.exp, hm9, ho9, hp9⟩)⟩
         have hwg : w.heap.size + 1 < W.heap.size := by have := HSZ.out; omega
         have hwo : W.heap.size ≤ wo.heap.size := by have := HWS.out; have := HB1.out.size; have := HW12.out; omega
         have HX9 := Lib.hid (box_kept HK9.out HX2.out ⟨by omega, by omega⟩)
         have HZ9 := Lib.hid (box_kept HK9.out HZ2.out ⟨by omega, by omega⟩)
         have HKW9 : Hid (Kept (fun k => k < w.heap.size) w (w8.setCell ⟨g, i * 10 + 9, none⟩ (.slice a4 t.proof.length d4))) := HKW.out.trans HK9.out fun k _ h => by have h' : k < w.heap.size := h; exact ⟨by omega, by omega⟩
         have HWS9 : Hid (w2.heap.size ≤ (w8.setCell ⟨g, i * 10 + 9, none⟩ (.slice a4 t.proof.length d4)).heap.size) := Nat.le_trans HWS.out HK9.out.size; clear c1 hfz
         have c1 := HR8.out.cellS HIL.out 9 (by omega) _ rfl
         have hfz := HR8.out.froz; clear ho8 hb8 hk9 hrow9 hm9 ho9 hp9 hzx hwg hwo; go_wp2_with fail
         go_roundw
         case rel => exact ⟨i + 1, by omega, by go_num, HX9, HZ9, HKW9, HWS9, HROW9⟩
         case measure => simp [intOf]; omega
   · obtain rfl : i = b.txs.length := by omega
     have HT2 : Hid (txsR.rel (fun k => W.heap.size ≤ k) wr [.slice ya b.txs.length yc] b.txs) := HLAST.out HR2.out
     clear hlt hi; have hR := cells_box (old := [.int .u64 0, .int .i64 0, .int .u64 0, .int .u64 0, .int .u64 0, .slice none 0 0]) HZ2.out [.int .u64 b.parent, .int .i64 b.height, .int .u64 b.miner, .int .u64 b.work, .int .u64 b.nonce, .slice ya b.txs.length yc] rfl
     have hK := kept_cells wr (q := w.heap.size + 1) (S := fun k => k ≠ w.heap.size + 1) (fun h => h rfl) [.int .u64 b.parent, .int .i64 b.height, .int .u64 b.miner, .int .u64 b.work, .int .u64 b.nonce, .slice ya b.txs.length yc] 0
     obtain ⟨wf, hwf⟩ : ∃ wf, wf = wr.setCells (w.heap.size + 1) 0 [.int .u64 b.parent, .int .i64 b.height, .int .u64 b.miner, .int .u64 b.work, .int .u64 b.nonce, .slice ya b.txs.length yc] := ⟨_, rfl⟩; rw [← hwf] at hR hK
     simp only [World.setCells, Nat.reduceAdd, Nat.zero_add] at hwf
     have HWF := Lib.hid hwf; have HRR := Lib.hid hR; have HKK := Lib.hid hK; clear hwf hR hK; obtain ⟨x0, x1⟩ := box_cells HX2.out; obtain ⟨z0, z1⟩ := box_cells HZ2.out; go_wp2_with fail; rw [← HWF.out]; obtain ⟨g0, -⟩ := box_cells HRR.out
     refine bodyPost_ret (v := .agg #[.int .u64 b.parent, .int .i64 b.height, .int .u64 b.miner, .int .u64 b.work, .int .u64 b.nonce, .slice ya b.txs.length yc]) (by simp [results, Tryz.results203, go_sem, g0]) rfl ?_
     refine ⟨ya, yc, rfl, ⟨HBI.out.1, HBI.out.2.1, HBI.out.2.2.1, HBI.out.2.2.2.1, HBI.out.2.2.2.2, ?_⟩, ?_⟩
     · exact txsR.mono (txsR.keep HT2.out (HKK.out.mono fun k _ h => by have h' : W.heap.size ≤ k := h; have := HSZ.out; show k ≠ _; omega)) fun k _ h => by have h' : W.heap.size ≤ k := h; have := HSZ.out; show _ ≤ k; omega
     · exact (HKW.out.trans HKK.out fun k _ h => by have h' : k < w.heap.size := h; show k ≠ _; omega).below (Nat.le_refl _)
end Go.Proofs.YtphacfkcifpobaaGreatDoor
