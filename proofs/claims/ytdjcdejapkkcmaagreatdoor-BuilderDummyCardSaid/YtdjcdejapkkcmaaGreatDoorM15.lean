/- The oracle: Seal, Prove. -/
import Derived.Test.YtdjcdejapkkcmaaGreatDoorM13
import Derived.Test.YtdjcdejapkkcmaaGreatDoorM14
import Derived.Test.YtdjcdejapkkcmaaGreatDoorM12
namespace Go.Proofs.YtdjcdejapkkcmaaGreatDoor
open Go.ChangeShapes Go.WideShapes Go.ChangeAt Go.RowKit

theorem numsR_keep {S T : Nat → Prop} {w w' : World} {v : Value} {l : List Int} (h : numsR.rel S w [v] l) (hk : Kept T w w') (hT : ∀ k, S k → T k) : numsR.rel S w' [v] l := numsR.keep h (hk.mono fun k _ hs => hT k hs)
/-- What Seal gives, exactly. -/
def OrM.seal (m : OrM) (k n x y : Int) : List Int × OrM := if m.ideal = true then (drawsL m.st 3, m.drew 3) else (sealC k n x y, m)
/-- Two elements were sealed. -/
def SealTo (F : Nat → Prop) (p : Nat) (m : OrM) (ex : List Int × OrM) (w : World) (e : Ending) (w' : World) : Prop :=
  ∃ (c : List Int) (m' : OrM) (a : Option Addr) (cap : Nat), e = .returned (.slice a 3 cap) ∧ ex = (c, m') ∧ c.length = 3 ∧ (∀ z ∈ c, 0 ≤ z ∧ z < 18446744069414584321) ∧ Hid (numsR.rel (fun k => w.heap.size ≤ k) w' [.slice a 3 cap] c) ∧ Used 3 m m' (c = drawsL m.st 3) ∧ (m.ideal = false → m' = m) ∧ m'.n + m'.qs.length ≤ m.n + m.qs.length + 3 ∧
    OrG F p w' m' ∧ Kept (fun k => ¬ F k) w w'
theorem zero_nums (w : World) : (zeroValue 29).run Tryz.prog w = .ok (.slice none 0 0) w := by
  have h0 : (Tryz.prog.info? 29).map (·.zero) = some (some (.slice none 0 0)) := by kernel_rfl
  obtain ⟨i, hi, hz⟩ := Option.map_eq_some_iff.1 h0
  simp [zeroValue, typeInfo, hi, hz]
theorem sealedName_any (S : Nat → Prop) (w : World) (k n : Int) (hk : okU k) (hn : okU n) (a : Option Addr) (len cap : Nat) (l : List Int) (hlen : l.length = len) (h : numsR.rel S w [.slice a len cap] l) (hl : len ≤ 1000) :
    Calls Tryz.prog 166 #[.int .u64 k, .int .u64 n, .slice a len cap] w fun e w' => e = .returned (.string (keyS [k, n] l)) ∧ Below w.heap.size w w' := by
  subst hlen
  have hX := nums2 w 24 hk hn
  have hb := bnew (Below.refl w.heap.size w) (.cells #[.int .u64 k, .int .u64 n] 24)
  have HX := Lib.hid hX
  have HB := Lib.hid hb
  have H := Lib.hid (numsR.keepB h hb)
  clear hX hb h
  go_enter Tryz.func166, Tryz.ntmps166
  go_wp2_with fail
  refine (keyX_any S (fun _ => True) _ a _ cap _ l [k, n] H.out HX.out hl (by simp)).mono ?_
  rintro e w2 ⟨rfl, hb2⟩
  have HB2 := Lib.hid (bnext HB.out hb2)
  clear hb2
  go_wp2_with fail
  go_ret
  exact ⟨rfl, HB2.out⟩
theorem SMapAt.store {w : World} {b : Nat} {l : SMap} (h : SMapAt w b l) (hn : l.length < maxLen) {t e : TypeId} (ht : Tryz.prog.underlying t = some (.map 9 e)) (s : ByteArray) (hs : s.size ≤ maxLen) (val : Value) :
    ∃ w', (Instr.mapUpdate t (.map (some b)) (.string s) val).run Tryz.prog w = .ok () w' ∧ SMapAt w' b (smPut l s.data.toList val) ∧ OnlyAt b w w' ∧ w'.heap.size = w.heap.size := by
  obtain ⟨w', hrun, h1, h2⟩ := World.ownsMap.store h lawS ht hn (key := .string s) (kl := .string s.data.toList) (val := val) (d := .held val) (ps := []) (Go.WideMaps.keyOf_string_mk Tryz.underlying9 hs) rfl
  rw [smEnc_put] at h1
  exact ⟨w', hrun, SMapAt.of h1, (only_of_turned h2).1, (only_of_turned h2).2⟩
theorem OrMem.putSealed {p mk ms mp : Nat} {va : Value} {F : Nat → Prop} {km sm pm sm2 : SMap} {w w' : World} {m : OrM} (h : OrMem p mk ms mp va F km sm pm w m) (h2 : SMapAt w' ms sm2) (ho : OnlyAt ms w w') (hl : sm2.length + pm.length ≤ m.n) : OrMem p mk ms mp va F km sm2 pm w' m :=
  ⟨box_kept ho h.box (Ne.symm h.nsp), h.row.keep (ho.mono fun _ _ hk => hk.2.2.2.1), h.known.keep ho h.nks, h.kn, h2, h.proofs.keep ho (Ne.symm h.nsm), hl, h.fp, h.fk, h.fs, h.fm, h.nkp, h.nsp, h.nmp, h.nks, h.nkm, h.nsm⟩
set_option maxRecDepth 100000 in
set_option maxHeartbeats 2000000 in
theorem seal_any (F : Nat → Prop) (S : Nat → Prop) (w : World) (p : Nat) (m : OrM) (ho : OrG F p w m) (hF : ∀ k, F k → k < w.heap.size) (k n x y : Int) (hk : 0 ≤ k ∧ k < 18446744069414584321) (hn : 0 ≤ n ∧ n < 18446744069414584321) (hx : 0 ≤ x ∧ x < 18446744069414584321) (hy : 0 ≤ y ∧ y < 18446744069414584321)
    (a : Option Addr) (cap : Nat) (h : numsR.rel S w [.slice a 2 cap] [x, y]) (hS : ∀ i, S i → ¬ F i) (hlim : m.n + m.qs.length + 3 ≤ 100000) :
    Calls Tryz.prog 110 #[.pointer (some ⟨p, 0, none⟩), .int .u64 k, .int .u64 n, .slice a 2 cap] w (SealTo F p m (m.seal k n x y) w) := by
  have H := Lib.hid h
  have HO := Lib.hid ho
  have HFB := Lib.hid hF
  have HSF := Lib.hid hS
  have HLI := Lib.hid hlim
  have hk1 := hk.2
  have hn1 := hn.2
  have HE : Hid (elemsB [x, y] = true) := by show _ = _; simp [elemsB, allUp, elemB]; omega
  obtain ⟨ok, mk, ms, mp, va, km, sm, pm, hm⟩ := ho
  have HOK := Lib.hid ok
  have HM := Lib.hid hm
  obtain ⟨x0, x1⟩ := box_cells hm.box
  have HK := Lib.hid hk
  have HN := Lib.hid hn
  have HX := Lib.hid hx
  have HY := Lib.hid hy
  clear h hS hlim hF ok hm hk hn hx hy
  cases hid : m.ideal with
  | false =>
    rw [hid] at x0
    have HID := Lib.hid hid
    clear hid
    go_enter Tryz.func110, Tryz.ntmps110
    go_wp2_with fail
    refine (cSeal_any S w k n x y HK.out HN.out HX.out HY.out a cap H.out).mono ?_
    rintro e w1 ⟨⟨a', c', rfl, hr⟩, hb1⟩
    have HR := Lib.hid hr
    have HB1 := Lib.hid hb1
    have HPK : Hid (m.seal k n x y = (sealC k n x y, m)) := by show _ = _; unfold OrM.seal; rw [HID.out]; rfl
    clear hr hb1
    go_wp2_with fail
    go_ret
    exact ⟨sealC k n x y, m, a', c', rfl, HPK.out, rfl, sealC_in k n x y, HR, ((Used.zero m trivial).up (by omega)).mono (fun _ _ h => h.elim), fun _ => rfl, by omega, HO.out.keepB HB1.out, Kept.of_below HB1.out⟩
  | true =>
    rw [hid] at x0
    have HID := Lib.hid hid
    clear hid
    go_enter Tryz.func110, Tryz.ntmps110
    go_wp2_with fail
    refine (oelements_any S w a cap [x, y] H.out).mono ?_
    rintro e w1 ⟨rfl, hb1⟩
    rw [HE.out]
    have HB1 := Lib.hid hb1
    have HM1 := Lib.hid (HM.out.keep (Kept.of_below hb1))
    clear hb1
    go_wp2_with fail
    refine (take_mem w1 p mk ms mp va F km sm pm m HID.out HM1.out 3 (by have := HLI.out; omega)).mono ?_
    rintro e w2 ⟨a2, c2, rfl, hr2, hm2, hk2⟩
    obtain ⟨c, hc⟩ : ∃ c, drawsL m.st 3 = c := ⟨_, rfl⟩
    have HC := Lib.hid hc
    have HPK : Hid (m.seal k n x y = (c, m.drew 3)) := by show _ = _; unfold OrM.seal; rw [HID.out, ← hc]; rfl
    have HCL : Hid (c.length = 3) := by show _ = _; rw [← hc]; exact drawsL_len _ _
    have HCI : Hid (∀ z ∈ c, 0 ≤ z ∧ z < 18446744069414584321) := by show ∀ z ∈ c, _; rw [← hc]; exact drawsL_in _ _
    rw [hc] at hr2
    have HR2 := Lib.hid hr2
    have HM2 := Lib.hid hm2
    have HK2 := Lib.hid hk2
    clear hc hr2 hm2 hk2 x0 x1
    go_wp2_with fail
    refine (sealedName_any _ w2 k n (okU_of HK.out.1 (by omega)) (okU_of HN.out.1 (by omega)) a2 3 c2 c HCL.out HR2.out (by omega)).mono ?_
    rintro e w3 ⟨rfl, hb3⟩
    have hs : (keyS [k, n] c).size ≤ maxLen := by rw [keyS_size, HCL.out]; unfold maxLen; simp
    have hm3 := HM2.out.keep (Kept.of_below hb3)
    have hlk := hm3.sealed.look_ok Tryz.underlying88 (zero_nums w3) (keyS [k, n] c) hs
    have HS := Lib.hid hs
    have HM3 := Lib.hid hm3
    have HR3 := Lib.hid (numsR.mono (numsR.keepB HR2.out hb3) (S' := fun i => w.heap.size ≤ i) fun i _ h => Nat.le_trans HB1.out.size h)
    have HK3 : Hid (Kept (fun i => i ≠ p) w w3) := ((Kept.of_below HB1.out).trans HK2.out fun _ _ h => h).trans (Kept.of_below hb3 (S := fun i => i ≠ p)) fun _ _ h => h
    have HH3 : Hid (numsR.rel S w3 [.slice a 2 cap] [x, y]) := numsR_keep H.out HK3.out fun i hi e => HSF.out i hi (e ▸ HM.out.fp)
    have HOK3 := Lib.hid (HOK.out.drew HID.out (k := 3) (by have := HLI.out; omega))
    obtain ⟨x0, x1⟩ := box_cells hm3.box
    have HU : Hid (Used 3 m (m.drew 3) (c = drawsL m.st 3)) := used_draw 3 HC.out.symm
    generalize keyS [k, n] c = nm at *
    obtain ⟨m3, hm3e⟩ : ∃ x, m.drew 3 = x := ⟨_, rfl⟩
    have HN3 : Hid (m3.n = m.n + 3 ∧ m3.qs = m.qs) := by rw [← hm3e]; exact ⟨rfl, rfl⟩
    rw [hm3e] at x0 HM3 HOK3 HU HPK
    clear hm3 hb3 hs HM2 HR2 HK2 HM1 hm3e
    cases hg : smGet sm nm.data.toList with
    | some v =>
      rw [hg] at hlk
      have hlk2 : (Instr.lookup 88 (.map (some ms)) (.string nm) true).run Tryz.prog w3 = .ok (.tuple #[v, .bool true]) w3 := hlk
      clear hlk hg
      go_wp2_with fail
      go_ret
      exact ⟨c, m3, a2, c2, rfl, HPK.out, HCL.out, HCI.out, HR3, HU.out, fun h => (by rw [HID.out] at h; cases h), by rw [HN3.out.1, HN3.out.2]; omega, ⟨HOK3.out, mk, ms, mp, va, km, sm, pm, HM3.out⟩, kept_only HM.out.fp HK3.out⟩
    | none =>
      rw [hg] at hlk
      have hlk2 : (Instr.lookup 88 (.map (some ms)) (.string nm) true).run Tryz.prog w3 = .ok (.tuple #[.slice none 0 0, .bool false]) w3 := hlk
      have hbd : Below w3.heap.size w3 w3.drew := (Below.refl _ _).drew
      have HLM : Hid (sm.length + pm.length ≤ m.n) := HM.out.lim
      clear hlk hg
      go_wp2_with fail
      go_region_law (first
        | (go_simp; first
          | (go_at_call 93; refine (copied_any S _ a cap [x, y] (numsR.keepB HH3.out hbd) (by simp)).mono ?_; rintro e w4 ⟨a4, c4, rfl, hc4, hb4⟩
             have hm4 := HM3.out.keep (Kept.of_below (hbd.trans hb4))
             have HM4 := Lib.hid hm4
             have HB4 := Lib.hid (hbd.trans hb4)
             obtain ⟨y0, y1⟩ := box_cells hm4.box
             obtain ⟨w5, hup, h5a, h5b, h5c⟩ := hm4.sealed.store (by have := HLM.out; have := HLI.out; unfold maxLen; omega) Tryz.underlying88 nm HS.out (.slice a4 2 c4)
             have H5A := Lib.hid h5a
             have H5B := Lib.hid h5b
             clear hm4 hc4 hb4 h5a h5b)))
      all_goals
        have hm5 := HM4.out.putSealed H5A.out H5B.out (by have := smPut_len sm nm.data.toList (.slice a4 2 c4); have := HLM.out; rw [HN3.out.1]; omega)
        have HM5 := Lib.hid hm5
        have HK5 : Hid (Kept (fun k => ¬ F k) w w5) := ((kept_only HM.out.fp HK3.out).trans (Kept.of_below (S := fun k => ¬ F k) HB4.out) fun _ _ h => h).trans (H5B.out.mono (S' := fun k => ¬ F k) fun _ _ h e => h (e ▸ HM.out.fs)) fun _ _ h => h
        have HR5 : Hid (numsR.rel (fun i => w.heap.size ≤ i) w5 [.slice a2 3 c2] c) := numsR_keep (numsR.keepB HR3.out HB4.out) H5B.out fun i hi e => by have h1 : w.heap.size ≤ i := hi; have h2 := HFB.out _ HM.out.fs; omega
        clear hm5
        go_wp2_with fail
        go_ret
        exact ⟨c, m3, a2, c2, rfl, HPK.out, HCL.out, HCI.out, HR5, HU.out, fun h => (by rw [HID.out] at h; cases h), by rw [HN3.out.1, HN3.out.2]; omega, ⟨HOK3.out, mk, ms, mp, va, km, _, pm, HM5.out⟩, HK5.out⟩
theorem OrMem.putProof {p mk ms mp : Nat} {va : Value} {F : Nat → Prop} {km sm pm pm2 : SMap} {w w' : World} {m : OrM} (h : OrMem p mk ms mp va F km sm pm w m) (h2 : SMapAt w' mp pm2) (ho : OnlyAt mp w w') (hl : sm.length + pm2.length ≤ m.n) : OrMem p mk ms mp va F km sm pm2 w' m :=
  ⟨box_kept ho h.box (Ne.symm h.nmp), h.row.keep (ho.mono fun _ _ hk => hk.2.2.2.2), h.known.keep ho h.nkm, h.kn, h.sealed.keep ho h.nsm, h2, hl, h.fp, h.fk, h.fs, h.fm, h.nkp, h.nsp, h.nmp, h.nks, h.nkm, h.nsm⟩
set_option maxRecDepth 100000 in
set_option maxHeartbeats 2000000 in
theorem proveI_any (F : Nat → Prop) (w : World) (p : Nat) (m : OrM) (ho : OrG F p w m) (hi : m.ideal = true) (hF : ∀ k, F k → k < w.heap.size) (dg : Int) (hd : okU dg) (N : Nat) (hN0 : 1 ≤ N) (hN : N ≤ 1000) (hlim : m.n + m.qs.length + N ≤ 100000) :
    Calls Tryz.prog 71 #[.pointer (some ⟨p, 0, none⟩), .int .u64 dg, .int .i64 N] w fun e w' => ∃ a cap, e = .returned (.slice a N cap) ∧ numsR.rel (fun k => w.heap.size ≤ k) w' [.slice a N cap] (drawsL m.st N) ∧
      OrG F p w' (m.drew N) ∧ Kept (fun k => ¬ F k) w w' := by
  have HFB := Lib.hid hF
  have HLI := Lib.hid hlim
  obtain ⟨ok, mk, ms, mp, va, km, sm, pm, hm⟩ := ho
  have HOK := Lib.hid (ok.drew hi (k := N) (by omega))
  have HM := Lib.hid hm
  have HLM := Lib.hid hm.lim
  obtain ⟨x0, x1⟩ := box_cells hm.box
  rw [hi] at x0
  have HID := Lib.hid hi
  have HD := Lib.hid hd
  have n0 : (0 : Int) ≤ N := by omega
  have n1 : (N : Int) ≤ 65536 := by omega
  clear hlim hF ok hm hd hi
  go_enter Tryz.func71, Tryz.ntmps71
  go_wp2_with fail
  refine (take_mem w p mk ms mp va F km sm pm m HID.out HM.out N (by have := HLI.out; omega)).mono ?_
  rintro e w2 ⟨a2, c2, rfl, hr2, hm2, hk2⟩
  obtain ⟨c, hc⟩ : ∃ c, drawsL m.st N = c := ⟨_, rfl⟩
  have HC := Lib.hid hc
  have HCL : Hid (c.length = N) := by show _ = _; rw [← hc]; exact drawsL_len _ _
  rw [hc] at hr2
  have HR2 := Lib.hid hr2
  have HK2 := Lib.hid hk2
  obtain ⟨m3, hm3e⟩ : ∃ x, m.drew N = x := ⟨_, rfl⟩
  have HE3 := Lib.hid hm3e
  have HN3 : Hid (m3.n = m.n + N) := by show _ = _; rw [← hm3e]; rfl
  rw [hm3e] at hm2 HOK
  have HM2 := Lib.hid hm2
  have hs : (keyS [dg] c).size ≤ maxLen := by rw [keyS_size, HCL.out]; unfold maxLen; simp; omega
  have HS := Lib.hid hs
  clear x0 x1
  obtain ⟨x0, x1⟩ := box_cells hm2.box
  have yy := fun o' => (box_cells (box_old (o' := o') hm2.box)).1
  have hbd : Below w2.heap.size w2 (w2.alloc (.cells #[.int .u64 dg] 24)).drew := (bnew (Below.refl _ _) _).drew
  clear hc hr2 hk2 hm3e hm2 hs
  go_wp2_with fail
  go_region_law (first
    | (go_simp; first
      | (go_at_call 95; refine (keyX_len _ (fun _ => True) _ a2 _ N c2 _ c dg HCL.out (numsR.keepB HR2.out hbd) (numsR.keepB (nums1 w2 24 HD.out) (Below.refl _ _).drew) hN).mono ?_
         rintro e w4 ⟨rfl, hb4⟩
         have HB4 := Lib.hid (bnext hbd hb4)
         have hm4 := HM2.out.keep (Kept.of_below HB4.out)
         have HM4 := Lib.hid hm4
         obtain ⟨y0, y1⟩ := box_cells hm4.box
         obtain ⟨w5, hup, h5a, h5b, h5c⟩ := hm4.proofs.store (by have := HLM.out; have := HLI.out; unfold maxLen; omega) Tryz.underlying89 (keyS [dg] c) HS.out (.bool true)
         have H5A := Lib.hid h5a
         have H5B := Lib.hid h5b
         clear hm4 hb4 h5a h5b)))
  all_goals
    have hm5 := HM4.out.putProof H5A.out H5B.out (by have := smPut_len pm (keyS [dg] c).data.toList (.bool true); have := HLM.out; rw [HN3.out]; omega)
    have HM5 := Lib.hid hm5
    have HK5 : Hid (Kept (fun k => ¬ F k) w w5) := ((kept_only HM.out.fp HK2.out).trans (Kept.of_below (S := fun k => ¬ F k) HB4.out) fun _ _ h => h).trans (H5B.out.mono (S' := fun k => ¬ F k) fun _ _ h e => h (e ▸ HM.out.fm)) fun _ _ h => h
    have HR5 : Hid (numsR.rel (fun i => w.heap.size ≤ i) w5 [.slice a2 N c2] c) := numsR_keep (numsR.keepB HR2.out HB4.out) H5B.out fun i hi e => by have h1 : w.heap.size ≤ i := hi; have h2 := HFB.out _ HM.out.fm; omega
    clear hm5
    go_wp2_with fail
    go_ret
    rw [HC.out, HE3.out]
    exact ⟨a2, c2, rfl, HR5.out, ⟨HOK.out, mk, ms, mp, va, km, sm, _, HM5.out⟩, HK5.out⟩
end Go.Proofs.YtdjcdejapkkcmaaGreatDoor
/- Envelopes: a note that is sealed for an address. -/
namespace Go.Proofs.YtdjcdejapkkcmaaGreatDoor
open Go.ChangeShapes Go.WideShapes Go.ChangeAt Go.RowKit Go.Sort

theorem extMul_in (a b : PtM) : okU (extMul a b).1 ∧ okU (extMul a b).2 := ⟨okU_of (addP_word _ _).1 (addP_word _ _).2, okU_of (addP_word _ _).1 (addP_word _ _).2⟩
theorem extLoop_in : ∀ (k : Nat) (r a : PtM) (e : Nat), okU r.1 ∧ okU r.2 → okU (extLoop k r a e).1 ∧ okU (extLoop k r a e).2
  | 0, _, _, _, h => h
  | k + 1, r, a, e, h => by
    unfold extLoop
    split
    · exact h
    · refine extLoop_in k _ _ _ ?_
      split
      · exact extMul_in _ _
      · exact h
theorem pubP_in (e : Int) : okU (pubP e).1 ∧ okU (pubP e).2 := extLoop_in _ _ _ _ ⟨okU_of (by decide) (by decide), okU_of (by decide) (by decide)⟩
theorem shaP_in (x y e : Int) : okU (shaP x y e).1 ∧ okU (shaP x y e).2 := by
  unfold shaP
  split
  · exact extLoop_in _ _ _ _ ⟨okU_of (by decide) (by decide), okU_of (by decide) (by decide)⟩
  · exact ⟨okU_of (by decide) (by decide), okU_of (by decide) (by decide)⟩
set_option maxRecDepth 100000 in
set_option maxHeartbeats 1000000 in
theorem ekey_any (w : World) (x y z v : Int) (hx : okU x) (hy : okU y) (hz : okU z) (hv : okU v) :
    Calls Tryz.prog 108 #[.agg #[.int .u64 x, .int .u64 y], .agg #[.int .u64 z, .int .u64 v]] w fun e w' => e = .returned (.int .u64 (hashS 11 [x, y, z, v])) ∧ Below w.heap.size w w' := by
  have q0 := box_old (o' := .cells #[.int .u64 z, .int .u64 v] 78) (box_new w (.cells #[.int .u64 x, .int .u64 y] 78))
  have q1 := box_new (w.alloc (.cells #[.int .u64 x, .int .u64 y] 78)) (.cells #[.int .u64 z, .int .u64 v] 78)
  rw [World.size_alloc] at q1
  have hb := bnew (bnew (Below.refl w.heap.size w) (.cells #[.int .u64 x, .int .u64 y] 78)) (.cells #[.int .u64 z, .int .u64 v] 78)
  have HX := Lib.hid (nums4 ((w.alloc (.cells #[.int .u64 x, .int .u64 y] 78)).alloc (.cells #[.int .u64 z, .int .u64 v] 78)) 24 hx hy hz hv)
  have HB := Lib.hid (bnew hb (.cells #[.int .u64 x, .int .u64 y, .int .u64 z, .int .u64 v] 24))
  obtain ⟨x0, x1⟩ := box_cells q0
  obtain ⟨y0, y1⟩ := box_cells q1
  clear q0 q1 hb hx hy hz hv
  go_enter Tryz.func108, Tryz.ntmps108
  go_wp2_with fail
  refine (Hash_big 11 (by omega) (fun _ => True) _ _ 4 [x, y, z, v] (by simpa using HX.out) (by simp)).mono ?_
  rintro e w2 ⟨rfl, hb2⟩
  have HB2 := Lib.hid (bnext HB.out hb2)
  clear hb2
  go_wp2_with fail
  go_ret
  exact ⟨rfl, HB2.out⟩
/-- What Seal gives, exactly. -/
def OrM.env (m : OrM) (p0 p1 : Int) (n : NoteM) (e : Int) : PtM × List Int × OrM :=
  if (groupB p0 p1 && noteB n) = true then (pubP e, m.seal (hashS 11 [(shaP p0 p1 e).1, (shaP p0 p1 e).2, (pubP e).1, (pubP e).2]) 0 n.value n.blind) else ((0, 0), [], m)
/-- A note was sealed for an address, if both are valid. -/
def EnvTo (F : Nat → Prop) (p : Nat) (m : OrM) (ok : Bool) (e : Int) (ex : PtM × List Int × OrM) (w : World) (E : Ending) (w' : World) : Prop :=
  ∃ (q : PtM) (c : List Int) (m' : OrM) (a : Option Addr) (cap : Nat), E = .returned (.tuple #[ptV q, .slice a c.length cap]) ∧ ex = (q, c, m') ∧ (okU q.1 ∧ okU q.2) ∧ (∀ z ∈ c, 0 ≤ z ∧ z < 18446744069414584321) ∧ c.length ≤ 3 ∧ Hid (numsR.rel (fun k => w.heap.size ≤ k) w' [.slice a c.length cap] c) ∧
    Used 3 m m' (q = pubP e ∧ c = drawsL m.st 3) ∧ (m.ideal = false → m' = m) ∧ (ok = true → q = pubP e ∧ c.length = 3) ∧ m'.n + m'.qs.length ≤ m.n + m.qs.length + 3 ∧ OrG F p w' m' ∧ Kept (fun k => ¬ F k) w w'
theorem three_bx (w : World) (a b c : Obj) : (((w.alloc a).alloc b).alloc c).heap[w.heap.size + 1 + 1]? = some c ∧ (((w.alloc a).alloc b).alloc c).heap[w.heap.size + 1]? = some b ∧ (((w.alloc a).alloc b).alloc c).heap[w.heap.size]? = some a := by
  have e1 : (w.alloc a).heap.size = w.heap.size + 1 := World.size_alloc ..
  have e2 : ((w.alloc a).alloc b).heap.size = w.heap.size + 1 + 1 := by rw [World.size_alloc, e1]
  exact ⟨e2 ▸ box_new _ c, box_old (e1 ▸ box_new _ b), box_old (box_old (box_new _ a))⟩
/-- The frame of Seal: address, note, result. -/
structure EnAt (w : World) (n : NoteM) (num own p0 p1 r0 r1 : Int) (wr : World) : Prop where
  size : w.heap.size + 1 + 1 < wr.heap.size
  adr : wr.heap[w.heap.size]? = some (.cells #[.int .i64 num, .int .u64 own, .int .u64 p0, .int .u64 p1] 80 (0, 0))
  note : wr.heap[w.heap.size + 1]? = some (.cells #[.int .u64 n.value, .int .u64 n.owner, .int .u64 n.rho, .int .u64 n.blind] 56 (0, 0))
  res : wr.heap[w.heap.size + 1 + 1]? = some (.cells #[.int .u64 r0, .int .u64 r1] 78 (0, 0))
theorem EnAt.keep {S : Nat → Prop} {w w1 w2 : World} {n : NoteM} {num own p0 p1 r0 r1 : Int} (h : EnAt w n num own p0 p1 r0 r1 w1) (hk : Kept S w1 w2) (hS : ∀ k, w.heap.size ≤ k → S k) : EnAt w n num own p0 p1 r0 r1 w2 :=
  ⟨Nat.lt_of_lt_of_le h.size hk.size, box_kept hk h.adr (hS _ (by omega)), box_kept hk h.note (hS _ (by omega)), box_kept hk h.res (hS _ (by omega))⟩
theorem EnAt.keepB {w w1 w2 : World} {n : NoteM} {num own p0 p1 r0 r1 : Int} (h : EnAt w n num own p0 p1 r0 r1 w1) (hb : Below w1.heap.size w1 w2) : EnAt w n num own p0 p1 r0 r1 w2 := h.keep (S := fun _ => True) (Kept.of_below hb) fun _ _ => trivial
set_option maxRecDepth 100000 in
set_option maxHeartbeats 2000000 in
theorem envSeal_any (F : Nat → Prop) (w : World) (p : Nat) (m : OrM) (ho : OrG F p w m) (hF : ∀ k, F k → k < w.heap.size) (n : NoteM) (hn : NoteOk n) (num own p0 p1 e : Int) (h0 : okU p0) (h1 : okU p1) (he : okU e) (hlim : m.n + m.qs.length + 3 ≤ 100000) :
    Calls Tryz.prog 66 #[.pointer (some ⟨p, 0, none⟩), .agg #[.int .i64 num, .int .u64 own, .int .u64 p0, .int .u64 p1], .agg #[.int .u64 n.value, .int .u64 n.owner, .int .u64 n.rho, .int .u64 n.blind], .int .u64 e] w (EnvTo F p m (groupB p0 p1 && noteB n) e (m.env p0 p1 n e) w) := by
  obtain ⟨q2, q1, q0⟩ := three_bx w (.cells #[.int .i64 num, .int .u64 own, .int .u64 p0, .int .u64 p1] 80) (.cells #[.int .u64 n.value, .int .u64 n.owner, .int .u64 n.rho, .int .u64 n.blind] 56) (.cells #[.int .u64 0, .int .u64 0] 78)
  have hb := bnew (bnew (bnew (Below.refl w.heap.size w) (.cells #[.int .i64 num, .int .u64 own, .int .u64 p0, .int .u64 p1] 80)) (.cells #[.int .u64 n.value, .int .u64 n.owner, .int .u64 n.rho, .int .u64 n.blind] 56)) (.cells #[.int .u64 0, .int .u64 0] 78)
  have hen : EnAt w n num own p0 p1 0 0 (((w.alloc (.cells #[.int .i64 num, .int .u64 own, .int .u64 p0, .int .u64 p1] 80)).alloc (.cells #[.int .u64 n.value, .int .u64 n.owner, .int .u64 n.rho, .int .u64 n.blind] 56)).alloc (.cells #[.int .u64 0, .int .u64 0] 78)) :=
    ⟨by rw [World.size_alloc, World.size_alloc, World.size_alloc]; omega, q0, q1, q2⟩
  have HO := Lib.hid ho
  have HFB := Lib.hid hF
  have HN := Lib.hid hn
  have HP0 := Lib.hid h0
  have HP1 := Lib.hid h1
  have HE := Lib.hid he
  have HLI := Lib.hid hlim
  have HB := Lib.hid hb
  have HEN := Lib.hid hen
  obtain ⟨x0, x1⟩ := box_cells q0
  obtain ⟨y0, y1⟩ := box_cells q1
  clear q0 q1 q2 hb hen ho hF hn h0 h1 he hlim
  go_enter Tryz.func66, Tryz.ntmps66
  go_wp2_with fail
  refine (groupValid_any _ p0 p1).mono ?_
  rintro E w1 ⟨rfl, hb1⟩
  have HB1 := Lib.hid (bnext HB.out hb1)
  have HEN1 := Lib.hid (HEN.out.keepB hb1)
  clear hb1 x0 x1 y0 y1 HB HEN
  obtain ⟨y0, y1⟩ := box_cells HEN1.out.note
  cases hg : groupB p0 p1 with
  | false =>
    have HPK : Hid (m.env p0 p1 n e = ((0, 0), [], m)) := by show _ = _; unfold OrM.env; rw [hg]; rfl
    have k0 := (box_cells HEN1.out.res).1 0
    have k1 := (box_cells HEN1.out.res).1 1
    simp at k0 k1
    obtain ⟨r0, r1⟩ := read2 (x := .int .u64 0) (y := .int .u64 0) k0 k1
    obtain ⟨z0, z1⟩ := box_cells HEN1.out.res
    have HBF : Hid (Below w.heap.size w ((w1.setCell ⟨w.heap.size + 1 + 1, 0, none⟩ (.int .u64 0)).setCell ⟨w.heap.size + 1 + 1, 1, none⟩ (.int .u64 0))) := (HB1.out.setCell (by dsimp only; omega) _).setCell (by dsimp only; omega) _
    clear k0 k1
    go_wp2_with fail
    refine bodyPost_ret (v := .tuple #[.agg #[.int .u64 0, .int .u64 0], .slice none 0 0]) (by simp [results, Tryz.results66, go_sem, r0, r1]) rfl ?_
    exact ⟨(0, 0), [], m, none, 0, rfl, HPK.out, ⟨okU_of (by decide) (by decide), okU_of (by decide) (by decide)⟩, by simp, by simp, sliceR.nil, ((Used.zero m trivial).up (by omega)).mono (fun _ _ h => h.elim), fun _ => rfl, fun h => (by simp [hg] at h), by omega, HO.out.keepB HBF.out, Kept.of_below HBF.out⟩
  | true =>
    go_wp2_with fail
    refine (noteValid_any _ n).mono ?_
    rintro E w2 ⟨rfl, hb2⟩
    have HB2 := Lib.hid (bnext HB1.out hb2)
    have HEN2 := Lib.hid (HEN1.out.keepB hb2)
    clear hb2 y0 y1 HB1 HEN1
    cases hv : noteB n with
    | false =>
      have HPK : Hid (m.env p0 p1 n e = ((0, 0), [], m)) := by show _ = _; unfold OrM.env; rw [hg, hv]; rfl
      have k0 := (box_cells HEN2.out.res).1 0
      have k1 := (box_cells HEN2.out.res).1 1
      simp at k0 k1
      obtain ⟨r0, r1⟩ := read2 (x := .int .u64 0) (y := .int .u64 0) k0 k1
      obtain ⟨z0, z1⟩ := box_cells HEN2.out.res
      have HBF : Hid (Below w.heap.size w ((w2.setCell ⟨w.heap.size + 1 + 1, 0, none⟩ (.int .u64 0)).setCell ⟨w.heap.size + 1 + 1, 1, none⟩ (.int .u64 0))) := (HB2.out.setCell (by dsimp only; omega) _).setCell (by dsimp only; omega) _
      clear k0 k1
      go_wp2_with fail
      refine bodyPost_ret (v := .tuple #[.agg #[.int .u64 0, .int .u64 0], .slice none 0 0]) (by simp [results, Tryz.results66, go_sem, r0, r1]) rfl ?_
      exact ⟨(0, 0), [], m, none, 0, rfl, HPK.out, ⟨okU_of (by decide) (by decide), okU_of (by decide) (by decide)⟩, by simp, by simp, sliceR.nil, ((Used.zero m trivial).up (by omega)).mono (fun _ _ h => h.elim), fun _ => rfl, fun h => (by simp [hv] at h), by omega, HO.out.keepB HBF.out, Kept.of_below HBF.out⟩
    | true =>
      have hpk : m.env p0 p1 n e = (pubP e, m.seal (hashS 11 [(shaP p0 p1 e).1, (shaP p0 p1 e).2, (pubP e).1, (pubP e).2]) 0 n.value n.blind) := by unfold OrM.env; rw [hg, hv]; rfl
      have HPK := Lib.hid hpk
      clear hpk
      go_wp2_with fail
      refine (public_any e HE.out _).mono ?_
      obtain ⟨t0, t1, ht⟩ : ∃ t0 t1, pubP e = (t0, t1) := ⟨_, _, rfl⟩
      have HT := Lib.hid ht
      have HTI : Hid (okU t0 ∧ okU t1) := by have h := pubP_in e; rw [ht] at h; exact h
      rw [ht] at HPK ⊢
      rintro E w3 ⟨rfl, hb3⟩
      have HB3 := Lib.hid (bnext HB2.out hb3)
      have HEN3 := Lib.hid (HEN2.out.keepB hb3)
      have hpb := box_new w3 (.cells #[.int .u64 t0, .int .u64 t1] 78)
      have hb4 := bnew (Below.refl w3.heap.size w3) (.cells #[.int .u64 t0, .int .u64 t1] 78)
      have HPB := Lib.hid hpb
      have HEN4 := Lib.hid (HEN3.out.keepB hb4)
      have HB4 := Lib.hid (bnext HB3.out hb4)
      obtain ⟨B, hB⟩ : ∃ B, w3.heap.size = B := ⟨_, rfl⟩
      have HBw : Hid (w.heap.size ≤ B) := by rw [← hB]; exact HB3.out.size
      rw [hB] at HPB
      have p0z := (okU_in HP0.out).1
      have p1z := (okU_in HP1.out).1
      obtain ⟨s0, s1, hs⟩ : ∃ s0 s1, shaP p0 p1 e = (s0, s1) := ⟨_, _, rfl⟩
      have hsi := shaP_in p0 p1 e
      rw [hs] at hsi HPK
      have hsh := fun wx => shared_any p0 p1 e p0z p1z HE.out wx
      simp only [hs] at hsh
      have HSH := Lib.hid hsh
      have HSI : Hid (okU s0 ∧ okU s1) := hsi
      clear hb3 ht hb4 hpb hs hsi hsh
      go_upto_region 4 with (fail)
      generalize w3.alloc (.cells #[.int .u64 t0, .int .u64 t1] 78) = w4 at *
      clear hB
      have z0 := box_regrown HEN4.out.adr
      have z1 := box_regrown HPB.out
      refine wp_region_quiet_below (by kernel_rfl) (by kernel_rfl) ?_
      repeat (quiet_step (first
        | with_reducible exact Calls.regrown_of (HSH.out _)
        | with_reducible exact Calls.regrown_of (ekey_any _ s0 s1 t0 t1 HSI.out.1 HSI.out.2 HTI.out.1 HTI.out.2)))
      refine wpQuiet_nil ?_
      intro w5 hw'
      obtain ⟨⟨dq, osq⟩, hw''⟩ := hw'
      have hb5 := below_regrown w4 dq osq
      rw [← hw''] at hb5
      clear hw'' z0 z1
      have HEN5 := Lib.hid (HEN4.out.keepB hb5)
      have HPB5 := Lib.hid (box_after hb5 HPB.out)
      have HB5 := Lib.hid (bnext HB4.out hb5)
      have HKI := Lib.hid (hashS_in 11 [s0, s1, t0, t1])
      obtain ⟨ky, hky⟩ : ∃ x, hashS 11 [s0, s1, t0, t1] = x := ⟨_, rfl⟩
      rw [hky] at HKI HPK ⊢
      clear hky
      have HNV := Lib.hid hv
      have HPL : Hid (plainL n = [n.value, n.blind]) := by show _ = _; unfold plainL; rw [hv]; rfl
      have HNI : Hid ((0 ≤ n.value ∧ n.value < 18446744069414584321) ∧ 0 ≤ n.blind ∧ n.blind < 18446744069414584321) := by
        have h := hv
        unfold noteB at h
        rw [decide_eq_true_eq] at h
        have a1 := okU_in HN.out.value
        have a2 := okU_in HN.out.blind
        exact ⟨⟨a1.1, by omega⟩, a2.1, by omega⟩
      obtain ⟨a0, a1⟩ := box_cells HEN5.out.note
      obtain ⟨b0, b1⟩ := box_cells HPB5.out
      obtain ⟨c0, c1⟩ := box_cells HEN5.out.res
      have hbd : Below w5.heap.size w5 w5.drew := (Below.refl _ _).drew
      have HOd := Lib.hid (HO.out.keepB HB5.out)
      clear hb5 HEN4 HB4 HPB HEN3 HB3 HEN2 HB2 hg
      go_wp2_with fail
      go_region_law (first
        | (go_simp; first
          | (go_at_call 111; refine (plain_any _ n HN.out).mono ?_; rintro E w6 ⟨⟨a6, c6, rfl, hr6⟩, hb6⟩
             rw [HPL.out] at hr6 ⊢
             have HB6 := Lib.hid (bnext hbd hb6)
             have HR6 := Lib.hid (numsR.mono hr6 (S' := fun k => w5.heap.size ≤ k) fun k _ h => h)
             obtain ⟨d0, d1⟩ := box_cells (HEN5.out.keepB HB6.out).note
             obtain ⟨f0, f1⟩ := box_cells (box_after HB6.out HPB5.out)
             obtain ⟨g0, g1⟩ := box_cells (HEN5.out.keepB HB6.out).res
             clear hr6 hb6)
          | (go_at_call 110; refine (seal_any F (fun k => w5.heap.size ≤ k) w6 p m (HOd.out.keepB HB6.out) (fun k hk => Nat.lt_of_lt_of_le (HFB.out k hk) (Nat.le_trans HB5.out.size HB6.out.size)) ky 0 n.value n.blind HKI.out (by omega) HNI.out.1 HNI.out.2 a6 c6 HR6.out (fun k hk hf => by have h1 := HFB.out k hf; have h2 := HB5.out.size; have h3 : w5.heap.size ≤ k := hk; omega) HLI.out).mono ?_
             rintro E w7 ⟨c, m', a7, c7, rfl, hsx, hcl, hci, hr7, hu7, hreal, hl7, ho7, hk7⟩
             have HE7 := Lib.hid ((HEN5.out.keepB HB6.out).keep hk7 fun k hk hf => by have h1 := HFB.out k hf; omega)
             have HP7 := Lib.hid (box_kept hk7 (box_after HB6.out HPB5.out) (fun hf => by have h1 := HFB.out _ hf; have h2 := HBw.out; omega))
             have HPK7 := Lib.hid hsx
             have HCL7 := Lib.hid hcl
             have HCI7 := Lib.hid hci
             have HU7 := Lib.hid hu7
             have HRE7 := Lib.hid hreal
             have HL7 := Lib.hid hl7
             have HO7 := Lib.hid ho7
             have HK7 := Lib.hid hk7
             obtain ⟨h0, h1⟩ := box_cells HE7.out.note
             obtain ⟨i0, i1⟩ := box_cells HP7.out
             obtain ⟨j0, j1⟩ := box_cells HE7.out.res
             clear hsx hcl hci hu7 hreal hl7 ho7 hk7)))
      all_goals
        have k0 := (box_cells HE7.out.res).1 0
        have k1 := (box_cells HE7.out.res).1 1
        simp at k0 k1
        obtain ⟨r0, r1⟩ := read2 (x := .int .u64 t0) (y := .int .u64 t1) k0 k1
        have HKS : Hid (Kept (fun k => k ≠ w.heap.size + 1 + 1) w7 ((w7.setCell ⟨w.heap.size + 1 + 1, 0, none⟩ (.int .u64 t0)).setCell ⟨w.heap.size + 1 + 1, 1, none⟩ (.int .u64 t1))) := ((Kept.refl _ _).setCell (fun _ h => h rfl) _).setCell (fun _ h => h rfl) _
        clear k0 k1
        go_wp2_with fail
        refine bodyPost_ret (v := .tuple #[.agg #[.int .u64 t0, .int .u64 t1], .slice a7 3 c7]) (by simp [results, Tryz.results66, go_sem, r0, r1]) rfl ?_
        have hz5 := HB5.out.size
        have hz6 := HB6.out.size
        refine ⟨(t0, t1), c, m', a7, c7, by rw [HCL7.out], by rw [HPK.out, HPK7.out], HTI.out, HCI7.out, by rw [HCL7.out]; omega, ?_, HU7.out.mono fun _ _ h => ⟨HT.out.symm, h⟩, HRE7.out, fun _ => ⟨HT.out.symm, HCL7.out⟩, HL7.out, HO7.out.keep (HKS.out.mono fun k _ hk e => by have h1 := HFB.out k hk; omega), ?_⟩
        · rw [HCL7.out]
          exact numsR.mono (numsR_keep (S := fun k => w5.heap.size ≤ k) (numsR.mono hr7.out fun k _ h => by have h' : w6.heap.size ≤ k := h; exact Nat.le_trans hz6 h') HKS.out fun k hk e => by have h1 := HEN5.out.size; have h' : w5.heap.size ≤ k := hk; omega) fun k _ h => Nat.le_trans hz5 h
        · refine (((Kept.of_below HB5.out).trans (Kept.of_below (S := fun k => ¬ F k) HB6.out) fun _ _ h => h).trans HK7.out fun _ _ h => h).trans (HKS.out.mono (S' := fun k => ¬ F k ∧ k ≠ w.heap.size + 1 + 1) fun _ _ h => h.2) ?_
          intro k hk h
          exact ⟨h, by omega⟩
end Go.Proofs.YtdjcdejapkkcmaaGreatDoor
/- Keys: Spend, Secret, View, Address. -/
namespace Go.Proofs.YtdjcdejapkkcmaaGreatDoor
open Go.ChangeShapes Go.WideShapes Go.ChangeAt Go.RowKit

theorem spend_any (w : World) (x : Int) (hx : okU x) : Calls Tryz.prog 23 #[.int .u64 x] w fun e w' => e = .returned (.int .u64 (hashS 8 [x])) ∧ Below w.heap.size w w' := by
  have HX := Lib.hid (nums1 w 24 hx)
  clear hx
  go_enter Tryz.func23, Tryz.ntmps23
  go_wp2_with fail
  refine (keysHash_any (fun _ => True) _ 8 (by omega) _ 1 1 [x] rfl HX.out (by simp)).mono ?_
  rintro e w1 ⟨rfl, hb⟩
  go_wp2_with fail
  go_ret
  exact ⟨rfl, bnext (bnew (Below.refl _ _) _) hb⟩
theorem secret_any (w : World) (x : Int) (hx : okU x) : Calls Tryz.prog 21 #[.int .u64 x] w fun e w' => e = .returned (.int .u64 (hashS 9 [x])) ∧ Below w.heap.size w w' := by
  have HX := Lib.hid (nums1 w 24 hx)
  clear hx
  go_enter Tryz.func21, Tryz.ntmps21
  go_wp2_with fail
  refine (keysHash_any (fun _ => True) _ 9 (by omega) _ 1 1 [x] rfl HX.out (by simp)).mono ?_
  rintro e w1 ⟨rfl, hb⟩
  go_wp2_with fail
  go_ret
  exact ⟨rfl, bnext (bnew (Below.refl _ _) _) hb⟩
def viewS (key n : Int) : Int := if 0 ≤ n ∧ n < 4 then hashS 10 [key, n] else 0
theorem view_any (w : World) (key n : Int) (hk : okU key) : Calls Tryz.prog 55 #[.int .u64 key, .int .i64 n] w fun e w' => e = .returned (.int .u64 (viewS key n)) ∧ Below w.heap.size w w' := by
  by_cases hn : 0 ≤ n ∧ n < 4
  · have HR : Hid (viewS key n = hashS 10 [key, n]) := by show _ = _; unfold viewS; rw [if_pos hn]
    have hd : decide (0 ≤ n ∧ n < 4) = true := decide_eq_true hn
    have HD := Lib.hid hd
    have hn0 := hn.1
    have hn1 := hn.2
    have hw : IntKind.u64.wrap n = n := by rw [IntKind.wrap_u64]; omega
    have ok2 : okU n := okU_of hn0 (by omega)
    clear hd hn
    go_enter Tryz.func55, Tryz.ntmps55
    go_wp2_with fail
    refine (isNumber_any w n).mono ?_
    rintro e w1 ⟨rfl, hb1⟩
    rw [HD.out]
    have HX := Lib.hid (nums2 w1 24 hk ok2)
    go_wp2_with fail
    refine (keysHash_any (fun _ => True) _ 10 (by omega) _ 2 2 [key, n] rfl HX.out (by simp)).mono ?_
    rintro e w2 ⟨rfl, hb⟩
    go_wp2_with fail
    go_ret
    exact ⟨ret_int HR.out.symm, bnext (bnew hb1 _) hb⟩
  · have HR : Hid (viewS key n = 0) := by show _ = _; unfold viewS; rw [if_neg hn]
    have HD := Lib.hid (decide_eq_false hn)
    clear hn
    go_enter Tryz.func55, Tryz.ntmps55
    go_wp2_with fail
    refine (isNumber_any w n).mono ?_
    rintro e w1 ⟨rfl, hb1⟩
    rw [HD.out]
    go_wp2_with fail
    go_ret
    exact ⟨ret_int HR.out.symm, hb1⟩
theorem viewS_ok (k n : Int) : okU (viewS k n) := by
  unfold viewS
  split
  · exact hashS_ok _ _
  · exact okU_of (by omega) (by omega)
theorem ownerS_ok' (k n : Int) : okU (ownerS k n) := by
  unfold ownerS
  split
  · exact hashS_ok _ _
  · exact okU_of (by omega) (by omega)
structure AddrM where
  num : Int
  own : Int
  p0 : Int
  p1 : Int
abbrev adC (a : AddrM) : Array Value := #[.int .i64 a.num, .int .u64 a.own, .int .u64 a.p0, .int .u64 a.p1]
def addrS (seed n : Int) : AddrM := if 0 ≤ n ∧ n < 4 then ⟨n, ownerS (hashS 8 [seed]) n, (pubP (viewS seed n)).1, (pubP (viewS seed n)).2⟩ else ⟨0, 0, 0, 0⟩
theorem read4 {w : World} {b : Nat} {u0 u1 u2 u3 x y z v : Value} {t : TypeId} (h : w.heap[b]? = some (.cells #[u0, u1, u2, u3] t (0, 0))) :
    ((((w.setCell ⟨b, 0, none⟩ x).setCell ⟨b, 1, none⟩ y).setCell ⟨b, 2, none⟩ z).setCell ⟨b, 3, none⟩ v).heap[b]? = some (.cells #[x, y, z, v] t (0, 0)) := box_set (box_set (box_set (box_set h)))
set_option maxRecDepth 100000 in
set_option maxHeartbeats 1000000 in
theorem address_any (w : World) (seed n : Int) (hs : okU seed) :
    Calls Tryz.prog 27 #[.int .u64 seed, .int .i64 n] w fun e w' => (∃ er : Int, e = .returned (.tuple #[.agg (adC (addrS seed n)), .int .i64 er])) ∧ Below w.heap.size w w' := by
  have q0 := box_new w (.cells #[.int .i64 0, .int .u64 0, .int .u64 0, .int .u64 0] 80)
  have HQ0 := Lib.hid q0
  have HB := Lib.hid (bnew (Below.refl w.heap.size w) (.cells #[.int .i64 0, .int .u64 0, .int .u64 0, .int .u64 0] 80))
  have HS := Lib.hid hs
  clear q0 hs
  by_cases hn : 0 ≤ n ∧ n < 4
  · have hd : decide (0 ≤ n ∧ n < 4) = true := decide_eq_true hn
    have HD := Lib.hid hd
    have HV : Hid (addrS seed n = ⟨n, ownerS (hashS 8 [seed]) n, (pubP (viewS seed n)).1, (pubP (viewS seed n)).2⟩) := by show _ = _; unfold addrS; rw [if_pos hn]
    have HOK1 := Lib.hid (hashS_ok 8 [seed])
    have HVO := Lib.hid (viewS_ok seed n)
    clear hd hn
    go_enter Tryz.func27, Tryz.ntmps27
    go_wp2_with fail
    refine (isNumber_any _ n).mono ?_
    rintro e w1 ⟨rfl, hb1⟩
    rw [HD.out]
    have HB1 := Lib.hid (bnext HB.out hb1)
    have HQ1 := Lib.hid (box_after hb1 HQ0.out)
    clear hb1
    go_wp2_with fail
    refine (spend_any _ seed HS.out).mono ?_
    rintro e w2 ⟨rfl, hb2⟩
    have HB2 := Lib.hid (bnext HB1.out hb2)
    have HQ2 := Lib.hid (box_after hb2 HQ1.out)
    generalize hashS 8 [seed] = sk at *
    clear hb2
    go_wp2_with fail
    refine (owner_any _ sk n HOK1.out).mono ?_
    rintro e w3 ⟨rfl, hb3⟩
    have HB3 := Lib.hid (bnext HB2.out hb3)
    have HQ3 := Lib.hid (box_after hb3 HQ2.out)
    generalize ownerS sk n = ow at *
    clear hb3
    go_wp2_with fail
    refine (view_any _ seed n HS.out).mono ?_
    rintro e w4 ⟨rfl, hb4⟩
    have HB4 := Lib.hid (bnext HB3.out hb4)
    have HQ4 := Lib.hid (box_after hb4 HQ3.out)
    generalize viewS seed n = vw at *
    clear hb4
    go_wp2_with fail
    refine (public_any vw HVO.out _).mono ?_
    obtain ⟨t0, t1, ht⟩ : ∃ t0 t1, pubP vw = (t0, t1) := ⟨_, _, rfl⟩
    rw [ht] at HV ⊢
    rintro e w5 ⟨rfl, hb5⟩
    have HB5 := Lib.hid (bnext HB4.out hb5)
    have hq5 := box_after hb5 HQ4.out
    obtain ⟨z0, z1⟩ := box_cells hq5
    have h4 := read4 (x := .int .i64 n) (y := .int .u64 ow) (z := .int .u64 t0) (v := .int .u64 t1) hq5
    have HBF : Hid (Below w.heap.size w ((((w5.setCell ⟨w.heap.size, 0, none⟩ (.int .i64 n)).setCell ⟨w.heap.size, 1, none⟩ (.int .u64 ow)).setCell ⟨w.heap.size, 2, none⟩ (.int .u64 t0)).setCell ⟨w.heap.size, 3, none⟩ (.int .u64 t1))) :=
      (((HB5.out.setCell (by dsimp only; omega) _).setCell (by dsimp only; omega) _).setCell (by dsimp only; omega) _).setCell (by dsimp only; omega) _
    have r0 := (box_cells h4).1 0
    have r1 := (box_cells h4).1 1
    have r2 := (box_cells h4).1 2
    have r3 := (box_cells h4).1 3
    simp only [List.getElem?_toArray, List.getElem?_cons_zero, List.getElem?_cons_succ] at r0 r1 r2 r3
    clear hb5 hq5 h4 ht
    go_wp2_with fail
    refine bodyPost_ret (v := .tuple #[.agg #[.int .i64 n, .int .u64 ow, .int .u64 t0, .int .u64 t1], .int .i64 0]) (by simp [results, Tryz.results27, go_sem, r0, r1, r2, r3]) rfl ⟨⟨0, by rw [HV.out]⟩, HBF.out⟩
  · have hd : decide (0 ≤ n ∧ n < 4) = false := decide_eq_false hn
    have HD := Lib.hid hd
    have HV : Hid (addrS seed n = ⟨0, 0, 0, 0⟩) := by show _ = _; unfold addrS; rw [if_neg hn]
    clear hd hn
    go_enter Tryz.func27, Tryz.ntmps27
    go_wp2_with fail
    refine (isNumber_any _ n).mono ?_
    rintro e w1 ⟨rfl, hb1⟩
    rw [HD.out]
    have HB1 := Lib.hid (bnext HB.out hb1)
    have hq5 := box_after hb1 HQ0.out
    obtain ⟨z0, z1⟩ := box_cells hq5
    have h4 := read4 (x := .int .i64 0) (y := .int .u64 0) (z := .int .u64 0) (v := .int .u64 0) hq5
    have HBF : Hid (Below w.heap.size w ((((w1.setCell ⟨w.heap.size, 0, none⟩ (.int .i64 0)).setCell ⟨w.heap.size, 1, none⟩ (.int .u64 0)).setCell ⟨w.heap.size, 2, none⟩ (.int .u64 0)).setCell ⟨w.heap.size, 3, none⟩ (.int .u64 0))) :=
      (((HB1.out.setCell (by dsimp only; omega) _).setCell (by dsimp only; omega) _).setCell (by dsimp only; omega) _).setCell (by dsimp only; omega) _
    have r0 := (box_cells h4).1 0
    have r1 := (box_cells h4).1 1
    have r2 := (box_cells h4).1 2
    have r3 := (box_cells h4).1 3
    simp only [List.getElem?_toArray, List.getElem?_cons_zero, List.getElem?_cons_succ] at r0 r1 r2 r3
    clear hb1 hq5 h4
    go_wp2_with fail
    refine bodyPost_ret (v := .tuple #[.agg #[.int .i64 0, .int .u64 0, .int .u64 0, .int .u64 0], .int .i64 8]) (by simp [results, Tryz.results27, go_sem, r0, r1, r2, r3]) rfl ⟨⟨8, by rw [HV.out]⟩, HBF.out⟩
end Go.Proofs.YtdjcdejapkkcmaaGreatDoor
/- The builder: numbers, rules, requests. -/
namespace Go.Proofs.YtdjcdejapkkcmaaGreatDoor
open Go.ChangeShapes Go.WideShapes Go.ChangeAt Go.RowKit Go.Sort

theorem bhash_any (w : World) (label x y : Int) (l0 : 0 ≤ label) (hx : okU x) (hy : okU y) : Calls Tryz.prog 39 #[.int .u64 label, .int .u64 x, .int .u64 y] w fun e w' => e = .returned (.int .u64 (hashS label [x, y])) ∧ Below w.heap.size w w' := by
  have HX := Lib.hid (nums2 w 24 hx hy)
  clear hx hy
  go_enter Tryz.func39, Tryz.ntmps39
  go_wp2_with fail
  refine (Hash_big label l0 (fun _ => True) _ _ 2 [x, y] (by simpa using HX.out) (by simp)).mono ?_
  rintro e w1 ⟨rfl, hb⟩
  go_wp2_with fail
  go_ret
  exact ⟨rfl, bnext (bnew (Below.refl _ _) _) hb⟩
set_option maxRecDepth 100000 in
theorem belements_any (S : Nat → Prop) (w : World) (a : Option Addr) (cap : Nat) (l : List Int) (h : numsR.rel S w [.slice a l.length cap] l) :
    Calls Tryz.prog 101 #[.slice a l.length cap] w fun e w' => e = .returned (.bool (elemsB l)) ∧ Below w.heap.size w w' := by
  have g1 := (sliceR.lens h).2
  unfold maxLen at g1
  have H := Lib.hid h
  clear h
  go_enter Tryz.func101, Tryz.ntmps101
  go_wp2_with fail
  go_loop [7] (fun i => ∃ k : Nat, k ≤ l.length ∧ i = .int .i64 k ∧ Hid (allUp (fun k => elemB (l.getD k 0)) k = true)) (fun i => l.length - (intOf i).toNat)
  case atStart => exact ⟨0, Nat.zero_le _, rfl, rfl⟩
  case round =>
    obtain ⟨k, hk, rfl, hall⟩ := hrel
    by_cases hlt : k < l.length
    · obtain ⟨b, off, rfl, hbl, n0, n1, hc⟩ := nums_at H.out k hlt
      have hg := Lib.hid (getD_at l 0 k hlt)
      generalize l[k] = n at *
      by_cases hp : n < 18446744069414584321
      · have HY : Hid (allUp (fun k => elemB (l.getD k 0)) (k + 1) = true) := allUp_step hall.out (by rw [hg.out]; exact decide_eq_true hp)
        go_wp2_with fail
        go_round
        case rel => exact ⟨k + 1, by omega, by go_num, HY⟩
        case measure => simp [intOf]; omega
      · have HF : Hid (elemsB l = false) := allUp_false (k := k) (by rw [hg.out]; exact decide_eq_false hp) hlt
        go_wp2_with fail
        go_ret
        exact ⟨ret_bool HF.out.symm, Below.refl _ _⟩
    · obtain rfl : k = l.length := by omega
      have HF : Hid (elemsB l = true) := hall
      go_wp2_with fail
      go_ret
      exact ⟨ret_bool HF.out.symm, Below.refl _ _⟩
def settE (ideal : Bool) (m d bl bu q rew win fin work : Int) : Int :=
  if rulesE m d bl bu q rew win fin work = 0 then (if ideal = (m == 3) then 0 else 1) else rulesE m d bl bu q rew win fin work
set_option maxRecDepth 100000 in
set_option maxHeartbeats 1000000 in
theorem setting_any (w : World) (p : Nat) (ideal : Bool) (st : Int) (h : OrAt ideal st p w) (m d bl bu q rew win fin work : Int) :
    Calls Tryz.prog 56 #[.pointer (some ⟨p, 0, none⟩), .agg #[.int .i64 m, .int .i64 d, .int .i64 bl, .int .i64 bu, .int .i64 q, .int .u64 rew, .int .i64 win, .int .i64 fin, .int .u64 work]] w fun e w' => e = .returned (.int .i64 (settE ideal m d bl bu q rew win fin work)) ∧ Below w.heap.size w w' := by
  have hx := box_new w (.cells #[.int .i64 m, .int .i64 d, .int .i64 bl, .int .i64 bu, .int .i64 q, .int .u64 rew, .int .i64 win, .int .i64 fin, .int .u64 work] 26)
  have HB := Lib.hid (bnew (Below.refl w.heap.size w) (.cells #[.int .i64 m, .int .i64 d, .int .i64 bl, .int .i64 bu, .int .i64 q, .int .u64 rew, .int .i64 win, .int .i64 fin, .int .u64 work] 26))
  have HO := Lib.hid h
  have HX := Lib.hid hx
  have HU : Hid (settE ideal m d bl bu q rew win fin work = if rulesE m d bl bu q rew win fin work = 0 then (if ideal = (m == 3) then 0 else 1) else rulesE m d bl bu q rew win fin work) := rfl
  obtain ⟨x0, x1⟩ := box_cells hx
  clear h hx
  go_enter Tryz.func56, Tryz.ntmps56
  go_wp2_with fail
  refine (rules_any m d bl bu q rew win fin work _).mono ?_
  rintro e w1 ⟨rfl, hb1⟩
  have HB1 := Lib.hid (bnext HB.out hb1)
  have HX1 := Lib.hid (box_after hb1 HX.out)
  clear x0 x1 hb1
  by_cases h0 : rulesE m d bl bu q rew win fin work = 0
  · have HU1 := Lib.hid (HU.out.trans (if_pos h0))
    rw [h0]
    clear h0 HU
    obtain ⟨m3, hm3⟩ : ∃ x, (m == 3) = x := ⟨_, rfl⟩
    rw [hm3] at HU1
    have HM3 := Lib.hid hm3
    have hc : ∀ (d : Nat) (os : Array Obj), Calls Tryz.prog 47 #[.pointer (some ⟨p, 0, none⟩)] (grow (redrawn w1 d) os) fun e w' => e = .returned (.bool ideal) ∧ Below (grow (redrawn w1 d) os).heap.size (grow (redrawn w1 d) os) w' := fun d os =>
      (isIdeal_any _ p _ st ((HO.out.keepB HB1.out).keepB (below_regrown w1 d os))).mono fun _ _ h => ⟨h.1, by rw [← h.2]; exact Below.refl _ _⟩
    have x0 := box_regrown HX1.out
    cases ideal <;> cases m3
    all_goals
      have hm : m = 3 ∨ m ≠ 3 := by omega
      go_wp2_with fail
      refine wp_region_quiet_below (by kernel_rfl) (by kernel_rfl) ?_
      repeat (first | go_big_quiet_step (exact Calls.regrown_of (hc _ _)) | quiet_step (exact Calls.regrown_of (hc _ _)))
      refine wpQuiet_nil ?_
      intro w2 hw'
      obtain ⟨⟨dq, osq⟩, hw''⟩ := hw'
      have hbw2 := below_regrown w1 dq osq
      rw [← hw''] at hbw2
      clear hw'' x0 hc
      have HB2 := Lib.hid (bnext HB1.out hbw2)
      go_wp2_with fail
      go_ret
      exact ⟨ret_int (by rw [HU1.out]; rfl), HB2.out⟩
  · have HU1 := Lib.hid (HU.out.trans (if_neg h0))
    generalize rulesE m d bl bu q rew win fin work = y at *
    go_wp2_with fail
    go_ret
    exact ⟨ret_int HU1.out.symm, HB1.out⟩
end Go.Proofs.YtdjcdejapkkcmaaGreatDoor
/- The builder: requests; their numbers and their balance. -/
namespace Go.Proofs.YtdjcdejapkkcmaaGreatDoor
open Go.ChangeShapes Go.WideShapes Go.ChangeAt Go.RowKit Go.Sort

structure PayM where
  adr : AddrM
  value : Int
structure PayOk (p : PayM) : Prop where
  num : okI p.adr.num
  own : okU p.adr.own
  p0 : okU p.adr.p0
  p1 : okU p.adr.p1
  value : okU p.value
def payR : Rep PayM := mapR (fun p => (p.adr.num, p.adr.own, p.adr.p0, p.adr.p1, p.value)) (pairR (intR .i64) (pairR u64R (pairR u64R (pairR u64R u64R))))
theorem payR.n : payR.n = 5 := rfl
abbrev paysR : Rep (List PayM) := sliceR payR
theorem payR.inv {S : Nat → Prop} {w : World} {cs : List Value} {p : PayM} (h : payR.rel S w cs p) : cs = [.int .i64 p.adr.num, .int .u64 p.adr.own, .int .u64 p.adr.p0, .int .u64 p.adr.p1, .int .u64 p.value] ∧ PayOk p := by
  obtain ⟨_, _, rfl, ⟨rfl, w1⟩, _, _, rfl, ⟨rfl, w2⟩, _, _, rfl, ⟨rfl, w3⟩, _, _, rfl, ⟨rfl, w4⟩, ⟨rfl, w5⟩⟩ := h
  exact ⟨rfl, w1, w2, w3, w4, w5⟩
theorem payR.mk {S : Nat → Prop} {w : World} {p : PayM} (h : PayOk p) : payR.rel S w [.int .i64 p.adr.num, .int .u64 p.adr.own, .int .u64 p.adr.p0, .int .u64 p.adr.p1, .int .u64 p.value] p :=
  ⟨[_], [_, _, _, _], rfl, ⟨rfl, h.num⟩, [_], [_, _, _], rfl, ⟨rfl, h.own⟩, [_], [_, _], rfl, ⟨rfl, h.p0⟩, [_], [_], rfl, ⟨rfl, h.p1⟩, ⟨rfl, h.value⟩⟩
theorem pays_at {S : Nat → Prop} {w : World} {a : Option Addr} {len cap : Nat} {l : List PayM} (h : paysR.rel S w [.slice a len cap] l) (k : Nat) (hk : k < l.length) :
    ∃ b off, a = some ⟨b, off, none⟩ ∧ b < w.heap.size ∧ PayOk l[k] ∧ w.cell? ⟨b, off + k * 5, none⟩ = some (.int .i64 l[k].adr.num) ∧ w.cell? ⟨b, off + k * 5 + 1, none⟩ = some (.int .u64 l[k].adr.own) ∧
      w.cell? ⟨b, off + k * 5 + 2, none⟩ = some (.int .u64 l[k].adr.p0) ∧ w.cell? ⟨b, off + k * 5 + 3, none⟩ = some (.int .u64 l[k].adr.p1) ∧ w.cell? ⟨b, off + k * 5 + 4, none⟩ = some (.int .u64 l[k].value) := by
  obtain ⟨b, off, es, rfl, hb, hbl, hrel, hca⟩ := sliceR.at h k hk
  obtain ⟨rfl, hn⟩ := payR.inv hrel
  rw [payR.n] at hca
  exact ⟨b, off, rfl, hbl, hn, hca 0 _ rfl, hca 1 _ rfl, hca 2 _ rfl, hca 3 _ rfl, hca 4 _ rfl⟩
structure ReqM where
  anchor : Int
  ins : List SpentM
  outs : List PayM
  dep : Int
  wd : Int
  fee : Int
  acc : Int
  nonce : Int
  secret : Int
  exp : Int
  seed : Int
structure ReqOk (q : ReqM) : Prop where
  anchor : okU q.anchor
  dep : okU q.dep
  wd : okU q.wd
  fee : okU q.fee
  acc : okU q.acc
  nonce : okU q.nonce
  secret : okU q.secret
  exp : okI q.exp
  seed : okU q.seed
/-- The slices of a request. -/
structure ReqAt (S : Nat → Prop) (w : World) (q : ReqM) (ia : Option Addr) (ic : Nat) (oa : Option Addr) (oc : Nat) : Prop where
  ins : spentsR.rel S w [.slice ia q.ins.length ic] q.ins
  outs : paysR.rel S w [.slice oa q.outs.length oc] q.outs
theorem ReqAt.keepB {S : Nat → Prop} {w w' : World} {q : ReqM} {ia oa : Option Addr} {ic oc : Nat} (h : ReqAt S w q ia ic oa oc) (hb : Below w.heap.size w w') : ReqAt S w' q ia ic oa oc := ⟨spentsR.keepB h.ins hb, paysR.keepB h.outs hb⟩
def reqB (q : ReqM) : Bool :=
  elemsB [q.anchor, q.acc, q.nonce, q.secret] && decide (q.dep ≤ 4294967295 ∧ q.wd ≤ 4294967295 ∧ q.fee ≤ 4294967295 ∧ 0 ≤ q.exp ∧ q.exp ≤ 1048576 ∧ q.ins.length ≤ 4 ∧ q.outs.length ≤ 4 ∧ (0 < q.dep → q.wd = 0) ∧ (¬ 0 < q.dep → q.ins.length ≠ 0 ∧ q.nonce = 0 ∧ (0 < q.wd ∨ q.acc = 0)))
theorem reqB_of {q : ReqM} (h : elemsB [q.anchor, q.acc, q.nonce, q.secret] = true) : reqB q = decide (q.dep ≤ 4294967295 ∧ q.wd ≤ 4294967295 ∧ q.fee ≤ 4294967295 ∧ 0 ≤ q.exp ∧ q.exp ≤ 1048576 ∧ q.ins.length ≤ 4 ∧ q.outs.length ≤ 4 ∧ (0 < q.dep → q.wd = 0) ∧ (¬ 0 < q.dep → q.ins.length ≠ 0 ∧ q.nonce = 0 ∧ (0 < q.wd ∨ q.acc = 0))) := by
  unfold reqB
  rw [h]
  rfl
set_option maxRecDepth 100000 in
set_option maxHeartbeats 2000000 in
theorem validRequest_any (w : World) (q : ReqM) (hq : ReqOk q) (ia oa : Option Addr) (ic oc : Nat) :
    Calls Tryz.prog 57 #[.agg #[.int .u64 q.anchor, .slice ia q.ins.length ic, .slice oa q.outs.length oc, .int .u64 q.dep, .int .u64 q.wd, .int .u64 q.fee, .int .u64 q.acc, .int .u64 q.nonce, .int .u64 q.secret, .int .i64 q.exp, .int .u64 q.seed]] w fun e w' => e = .returned (.bool (reqB q)) ∧ Below w.heap.size w w' := by
  have hx := box_new w (.cells #[.int .u64 q.anchor, .slice ia q.ins.length ic, .slice oa q.outs.length oc, .int .u64 q.dep, .int .u64 q.wd, .int .u64 q.fee, .int .u64 q.acc, .int .u64 q.nonce, .int .u64 q.secret, .int .i64 q.exp, .int .u64 q.seed] 39)
  have hb := bnew (Below.refl w.heap.size w) (.cells #[.int .u64 q.anchor, .slice ia q.ins.length ic, .slice oa q.outs.length oc, .int .u64 q.dep, .int .u64 q.wd, .int .u64 q.fee, .int .u64 q.acc, .int .u64 q.nonce, .int .u64 q.secret, .int .i64 q.exp, .int .u64 q.seed] 39)
  have HX := Lib.hid hx
  have HB := Lib.hid hb
  have HK := Lib.hid (nums4 (w.alloc (.cells #[.int .u64 q.anchor, .slice ia q.ins.length ic, .slice oa q.outs.length oc, .int .u64 q.dep, .int .u64 q.wd, .int .u64 q.fee, .int .u64 q.acc, .int .u64 q.nonce, .int .u64 q.secret, .int .i64 q.exp, .int .u64 q.seed] 39)) 24 hq.anchor hq.acc hq.nonce hq.secret)
  have HN0 := Lib.hid (okU_in hq.dep)
  have HN1 := Lib.hid (okU_in hq.wd)
  clear hx hb hq
  go_enter Tryz.func57, Tryz.ntmps57
  go_upto_region 1 with (fail)
  generalize w.alloc (.cells #[.int .u64 q.anchor, .slice ia q.ins.length ic, .slice oa q.outs.length oc, .int .u64 q.dep, .int .u64 q.wd, .int .u64 q.fee, .int .u64 q.acc, .int .u64 q.nonce, .int .u64 q.secret, .int .i64 q.exp, .int .u64 q.seed] 39) = W at *
  obtain ⟨x0, x1⟩ := box_cells HX.out
  go_wp2_with fail
  refine (belements_any (fun _ => True) _ _ 4 [q.anchor, q.acc, q.nonce, q.secret] HK.out).mono ?_
  rintro e w1 ⟨rfl, hb1⟩
  have hbn := bnew (Below.refl W.heap.size W) (.cells #[.int .u64 q.anchor, .int .u64 q.acc, .int .u64 q.nonce, .int .u64 q.secret] 24)
  have HB1 := Lib.hid (bnext (bnext HB.out hbn) hb1)
  have HX1 := Lib.hid (box_after hb1 (box_after hbn HX.out))
  clear x0 x1 hb1 hbn
  obtain ⟨x0, x1⟩ := box_cells HX1.out
  cases he : elemsB [q.anchor, q.acc, q.nonce, q.secret] with
  | false =>
    have HF : Hid (reqB q = false) := by show _ = _; unfold reqB; rw [he]; rfl
    go_wp2_with fail
    go_ret
    exact ⟨ret_bool HF.out.symm, HB1.out⟩
  | true =>
    have HF := Lib.hid (reqB_of he)
    clear he
    have HD : Hid (0 ≤ q.dep) := HN0.out.1
    have HW : Hid (0 ≤ q.wd) := HN1.out.1
    go_wp2_with fail
    all_goals go_ret
    all_goals refine ⟨ret_bool ?_, HB1.out⟩
    all_goals rw [HF.out]
    all_goals have hd := HD.out
    all_goals have hw := HW.out
    all_goals clear x0 x1 HX1 HB1 HK HF HN0 HN1 HX HB HD HW
    all_goals try simp only [← List.length_eq_zero_iff, beq_iff_eq, bne_iff_ne, bne_eq_false_iff_eq, beq_eq_false_iff_ne] at *
    all_goals first
      | exact (decide_eq_true (by omega)).symm
      | exact (decide_eq_false (by omega)).symm
      | exact decide_eq_decide.2 (by omega)
      | (rw [Bool.eq_iff_iff]; simp only [Bool.or_eq_true, beq_iff_eq, decide_eq_true_eq]; omega)
end Go.Proofs.YtdjcdejapkkcmaaGreatDoor
