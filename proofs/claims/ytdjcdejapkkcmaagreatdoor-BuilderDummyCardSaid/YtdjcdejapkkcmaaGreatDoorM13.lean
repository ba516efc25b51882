/- The builder's laws: a case in memory; whether it is small; a request that is not spoilt. -/
import Derived.Test.YtdjcdejapkkcmaaGreatDoorM12
import Derived.Test.YtdjcdejapkkcmaaGreatDoorM02
import Derived.Test.YtdjcdejapkkcmaaGreatDoorM09
import Derived.BigQuiet
import Derived.Deep.CutRange
import Derived.Test.YtdjcdejapkkcmaaGreatDoorM07
import Derived.Test.YtdjcdejapkkcmaaGreatDoorM04
namespace Go.Proofs.YtdjcdejapkkcmaaGreatDoor
open Go.ChangeShapes Go.WideShapes Go.ChangeAt Go.RowKit Go.Sort

structure CoinOk (c : CoinM) : Prop where
  seed : okU c.seed
  number : okI c.number
  value : okU c.value
  rho : okU c.rho
  blind : okU c.blind
def coinR : Rep CoinM := mapR (fun c => (c.seed, c.number, c.value, c.rho, c.blind)) (pairR u64R (pairR (intR .i64) (pairR u64R (pairR u64R u64R))))
theorem coinR.n : coinR.n = 5 := rfl
abbrev coinsR : Rep (List CoinM) := sliceR coinR
abbrev cnC (c : CoinM) : Array Value := #[.int .u64 c.seed, .int .i64 c.number, .int .u64 c.value, .int .u64 c.rho, .int .u64 c.blind]
theorem coinR.inv {S : Nat → Prop} {w : World} {cs : List Value} {c : CoinM} (h : coinR.rel S w cs c) : cs = [.int .u64 c.seed, .int .i64 c.number, .int .u64 c.value, .int .u64 c.rho, .int .u64 c.blind] ∧ CoinOk c := by
  obtain ⟨_, _, rfl, ⟨rfl, w1⟩, _, _, rfl, ⟨rfl, w2⟩, _, _, rfl, ⟨rfl, w3⟩, _, _, rfl, ⟨rfl, w4⟩, ⟨rfl, w5⟩⟩ := h
  exact ⟨rfl, w1, w2, w3, w4, w5⟩
theorem coins_at {S : Nat → Prop} {w : World} {a : Option Addr} {len cap : Nat} {l : List CoinM} (h : coinsR.rel S w [.slice a len cap] l) (k : Nat) (hk : k < l.length) :
    ∃ b off, a = some ⟨b, off, none⟩ ∧ b < w.heap.size ∧ CoinOk l[k] ∧ w.cell? ⟨b, off + k * 5, none⟩ = some (.int .u64 l[k].seed) ∧ w.cell? ⟨b, off + k * 5 + 1, none⟩ = some (.int .i64 l[k].number) ∧
      w.cell? ⟨b, off + k * 5 + 2, none⟩ = some (.int .u64 l[k].value) ∧ w.cell? ⟨b, off + k * 5 + 3, none⟩ = some (.int .u64 l[k].rho) ∧ w.cell? ⟨b, off + k * 5 + 4, none⟩ = some (.int .u64 l[k].blind) := by
  obtain ⟨b, off, es, rfl, hb, hbl, hrel, hca⟩ := sliceR.at h k hk
  obtain ⟨rfl, hn⟩ := coinR.inv hrel
  rw [coinR.n] at hca
  exact ⟨b, off, rfl, hbl, hn, hca 0 _ rfl, hca 1 _ rfl, hca 2 _ rfl, hca 3 _ rfl, hca 4 _ rfl⟩
structure PaySOk (c : PaySM) : Prop where
  seed : okU c.seed
  number : okI c.number
  value : okU c.value
def paySR : Rep PaySM := mapR (fun c => (c.seed, c.number, c.value)) (pairR u64R (pairR (intR .i64) u64R))
theorem paySR.n : paySR.n = 3 := rfl
abbrev paysSR : Rep (List PaySM) := sliceR paySR
abbrev pyC (c : PaySM) : Array Value := #[.int .u64 c.seed, .int .i64 c.number, .int .u64 c.value]
theorem paySR.inv {S : Nat → Prop} {w : World} {cs : List Value} {c : PaySM} (h : paySR.rel S w cs c) : cs = [.int .u64 c.seed, .int .i64 c.number, .int .u64 c.value] ∧ PaySOk c := by
  obtain ⟨_, _, rfl, ⟨rfl, w1⟩, _, _, rfl, ⟨rfl, w2⟩, ⟨rfl, w3⟩⟩ := h
  exact ⟨rfl, w1, w2, w3⟩
theorem paySR.mk {S : Nat → Prop} {w : World} {c : PaySM} (h : PaySOk c) : paySR.rel S w [.int .u64 c.seed, .int .i64 c.number, .int .u64 c.value] c :=
  ⟨[_], [_, _], rfl, ⟨rfl, h.seed⟩, [_], [_], rfl, ⟨rfl, h.number⟩, ⟨rfl, h.value⟩⟩
theorem paysS_at {S : Nat → Prop} {w : World} {a : Option Addr} {len cap : Nat} {l : List PaySM} (h : paysSR.rel S w [.slice a len cap] l) (k : Nat) (hk : k < l.length) :
    ∃ b off, a = some ⟨b, off, none⟩ ∧ b < w.heap.size ∧ PaySOk l[k] ∧ w.cell? ⟨b, off + k * 3, none⟩ = some (.int .u64 l[k].seed) ∧ w.cell? ⟨b, off + k * 3 + 1, none⟩ = some (.int .i64 l[k].number) ∧
      w.cell? ⟨b, off + k * 3 + 2, none⟩ = some (.int .u64 l[k].value) := by
  obtain ⟨b, off, es, rfl, hb, hbl, hrel, hca⟩ := sliceR.at h k hk
  obtain ⟨rfl, hn⟩ := paySR.inv hrel
  rw [paySR.n] at hca
  exact ⟨b, off, rfl, hbl, hn, hca 0 _ rfl, hca 1 _ rfl, hca 2 _ rfl⟩
structure CaseOk (c : CaseM) : Prop where
  orc : okU c.orc
  dep : okU c.dep
  wd : okU c.wd
  fee : okU c.fee
  owner : okU c.owner
  nonce : okU c.nonce
  exp : okI c.exp
  seed : okU c.seed
structure CaAd where
  ca : Option Addr
  cc : Nat
  sa : Option Addr
  sc : Nat
  da : Option Addr
  dc : Nat
  oa : Option Addr
  oc : Nat
abbrev caC (c : CaseM) (x : CaAd) : Array Value := #[.int .i64 c.rules.mode, .int .i64 c.rules.depth, .int .i64 c.rules.bl, .int .i64 c.rules.bu, .int .i64 c.rules.qu, .int .u64 c.rules.rew, .int .i64 c.rules.win, .int .i64 c.rules.fin, .int .u64 c.rules.work,
  .int .u64 c.orc, .slice x.ca c.coins.length x.cc, .slice x.sa c.spend.length x.sc, .slice x.da c.dums.length x.dc, .slice x.oa c.outs.length x.oc, .int .u64 c.dep, .int .u64 c.wd, .int .u64 c.fee, .int .u64 c.owner, .int .u64 c.nonce, .int .i64 c.exp, .int .u64 c.seed, .int .u8 c.spoil, .int .u64 c.by_]
structure CaseAt (S : Nat → Prop) (w : World) (c : CaseM) (x : CaAd) : Prop where
  coins : coinsR.rel S w [.slice x.ca c.coins.length x.cc] c.coins
  spend : bytesR.rel S w [.slice x.sa c.spend.length x.sc] c.spend
  dums : numsR.rel S w [.slice x.da c.dums.length x.dc] c.dums
  outs : paysSR.rel S w [.slice x.oa c.outs.length x.oc] c.outs
theorem CaseAt.keep {S : Nat → Prop} {w w' : World} {c : CaseM} {x : CaAd} (h : CaseAt S w c x) (hk : Kept S w w') : CaseAt S w' c x := ⟨coinsR.keep h.coins hk, bytesR.keep h.spend hk, numsR.keep h.dums hk, paysSR.keep h.outs hk⟩
theorem CaseAt.keepB {S : Nat → Prop} {w w' : World} {c : CaseM} {x : CaAd} (h : CaseAt S w c x) (hb : Below w.heap.size w w') : CaseAt S w' c x := h.keep (Kept.of_below hb)
theorem CaseAt.bound {S : Nat → Prop} {w : World} {c : CaseM} {x : CaAd} (h : CaseAt S w c x) : CaseAt (fun k => S k ∧ k < w.heap.size) w c x := ⟨coinsR.bound h.coins, bytesR.bound h.spend, numsR.bound h.dums, paysSR.bound h.outs⟩
/-- Whether a case of the open or the ideal mode is small. -/
def smallC (c : CaseM) : Bool := decide (c.coins.length ≤ 8 ∧ c.spend.length ≤ 5 ∧ c.dums.length ≤ 5 ∧ c.outs.length ≤ 5 ∧ 1 ≤ c.rules.depth ∧ c.rules.depth ≤ 6 ∧ (c.coins.length : Int) ≤ 2 ^ c.rules.depth.toNat)
theorem shl6 {d : Int} (h0 : 1 ≤ d) (h1 : d ≤ 6) : wrap64 (2 ^ d.toNat) = 2 ^ d.toNat := by
  have h : ∀ k : Fin 7, wrap64 (2 ^ k.val) = 2 ^ k.val := by decide +kernel
  exact h ⟨d.toNat, by omega⟩
set_option maxRecDepth 100000 in
set_option maxHeartbeats 2000000 in
theorem small43_any (w : World) (c : CaseM) (x : CaAd) (hm : c.rules.mode ≠ 1) : Calls Tryz.prog 6 #[.agg (caC c x)] w fun e w' => e = .returned (.bool (smallC c)) ∧ Below w.heap.size w w' := by
  have hb := bnew (Below.refl w.heap.size w) (.cells (caC c x) 32)
  have hx := box_new w (.cells (caC c x) 32)
  have HX := Lib.hid hx
  have HB := Lib.hid hb
  have nm : (c.rules.mode != 1) = true := by rw [bne_iff_ne]; exact hm
  clear hb hx hm
  go_enter Tryz.func6, Tryz.ntmps6
  go_upto_region 1 with (fail)
  generalize w.alloc (.cells (caC c x) 32) = W at *
  obtain ⟨x0, x1⟩ := box_cells HX.out
  by_cases h1 : (8 : Int) < c.coins.length
  · have d1 : decide ((8 : Int) < c.coins.length) = true := decide_eq_true h1
    have HS : Hid (smallC c = false) := decide_eq_false (by omega)
    clear h1
    go_quiet (fail)
    go_wp2_with fail
    go_ret
    exact ⟨ret_bool HS.out.symm, bdrewN HB.out _⟩
  have d1 : decide ((8 : Int) < c.coins.length) = false := decide_eq_false h1
  by_cases h2 : (5 : Int) < c.spend.length
  · have d2 : decide ((5 : Int) < c.spend.length) = true := decide_eq_true h2
    have HS : Hid (smallC c = false) := decide_eq_false (by omega)
    clear h1 h2
    go_quiet (fail)
    go_wp2_with fail
    go_ret
    exact ⟨ret_bool HS.out.symm, bdrewN HB.out _⟩
  have d2 : decide ((5 : Int) < c.spend.length) = false := decide_eq_false h2
  by_cases h3 : (5 : Int) < c.dums.length
  · have d3 : decide ((5 : Int) < c.dums.length) = true := decide_eq_true h3
    have HS : Hid (smallC c = false) := decide_eq_false (by omega)
    clear h1 h2 h3
    go_quiet (fail)
    go_wp2_with fail
    go_ret
    exact ⟨ret_bool HS.out.symm, bdrewN HB.out _⟩
  have d3 : decide ((5 : Int) < c.dums.length) = false := decide_eq_false h3
  by_cases h4 : (5 : Int) < c.outs.length
  · have d4 : decide ((5 : Int) < c.outs.length) = true := decide_eq_true h4
    have HS : Hid (smallC c = false) := decide_eq_false (by omega)
    clear h1 h2 h3 h4
    go_quiet (fail)
    go_wp2_with fail
    go_ret
    exact ⟨ret_bool HS.out.symm, bdrewN HB.out _⟩
  have d4 : decide ((5 : Int) < c.outs.length) = false := decide_eq_false h4
  by_cases h5 : c.rules.depth < 1
  · have d5 : decide (c.rules.depth < 1) = true := decide_eq_true h5
    have HS : Hid (smallC c = false) := decide_eq_false (by omega)
    clear h1 h2 h3 h4 h5
    go_quiet (fail)
    go_wp2_with fail
    go_ret
    exact ⟨ret_bool HS.out.symm, bdrewN HB.out _⟩
  have d5 : decide (c.rules.depth < 1) = false := decide_eq_false h5
  by_cases h6 : 6 < c.rules.depth
  · have d6 : decide (6 < c.rules.depth) = true := decide_eq_true h6
    have HS : Hid (smallC c = false) := decide_eq_false (by omega)
    clear h1 h2 h3 h4 h5 h6
    go_quiet (fail)
    go_wp2_with fail
    go_ret
    exact ⟨ret_bool HS.out.symm, bdrewN HB.out _⟩
  have d6 : decide (6 < c.rules.depth) = false := decide_eq_false h6
  obtain ⟨P, hP⟩ : ∃ P : Int, (2 : Int) ^ c.rules.depth.toNat = P := ⟨_, rfl⟩
  have hsh := shl6 (d := c.rules.depth) (by omega) (by omega)
  rw [hP] at hsh
  have hsi : wrap64 ((2 : Int) ^ c.rules.depth.toNat) = P := by rw [hP]; exact hsh
  clear hsh
  have g0 : 0 ≤ c.rules.depth := by omega
  have g1 : c.rules.depth < 64 := by omega
  have HS : Hid (smallC c = decide ((c.coins.length : Int) ≤ P)) := decide_eq_decide.2 (by rw [hP]; omega)
  clear hP
  by_cases h7 : P < (c.coins.length : Int)
  · have d7 : decide (P < (c.coins.length : Int)) = true := decide_eq_true h7
    have HT : Hid (smallC c = false) := by show _ = _; rw [HS.out]; exact decide_eq_false (by omega)
    clear h1 h2 h3 h4 h5 h6 h7
    go_quiet (fail)
    go_wp2_with fail
    go_ret
    exact ⟨ret_bool HT.out.symm, bdrewN HB.out _⟩
  · have d7 : decide (P < (c.coins.length : Int)) = false := decide_eq_false h7
    have HT : Hid (smallC c = true) := by show _ = _; rw [HS.out]; exact decide_eq_true (by omega)
    clear h1 h2 h3 h4 h5 h6 h7
    go_quiet (fail)
    go_wp2_with fail
    go_ret
    exact ⟨ret_bool HT.out.symm, bdrewN HB.out _⟩
/-- A request that is not spoilt. -/
abbrev rqC (an dp wd fe ac no se sd ex : Int) (ia oa : Option Addr) (il ic ol oc : Nat) : Array Value := #[.int .u64 an, .slice ia il ic, .slice oa ol oc, .int .u64 dp, .int .u64 wd, .int .u64 fe, .int .u64 ac, .int .u64 no, .int .u64 se, .int .i64 ex, .int .u64 sd]
set_option maxRecDepth 100000 in
set_option maxHeartbeats 2000000 in
theorem spoil0_any (w : World) (g : Nat) (an dp wd fe ac no se sd ex by_ : Int) (ib oa : Option Addr) (il ic ol oc : Nat) (hi : 0 < il → ∃ b off, ib = some ⟨b, off, none⟩) (hl : il ≤ 1000) (ho : 0 < ol → ∃ b off, oa = some ⟨b, off, none⟩) (hl2 : ol ≤ 1000) (hg : w.heap[g]? = some (.cells (rqC an dp wd fe ac no se sd ex ib oa il ic ol oc) 39 (0, 0))) :
    Calls Tryz.prog 28 #[.pointer (some ⟨g, 0, none⟩), .int .u8 0, .int .u64 by_] w fun e w' => e = .returned (.tuple #[]) ∧ Below w.heap.size w w' := by
  obtain ⟨x0, x1⟩ := box_cells hg
  by_cases h1 : 0 < il
  · obtain ⟨b, off, rfl⟩ := hi h1
    have z1 : ((il : Int) == 0) = false := by rw [beq_eq_false_iff_ne]; omega
    have m1 : Int.tmod 0 (il : Int) = 0 := Int.zero_tmod _
    have i1 : (0 : Int) < il := by omega
    clear hi
    by_cases h2 : 0 < ol
    · obtain ⟨b2, off2, rfl⟩ := ho h2
      have z2 : ((ol : Int) == 0) = false := by rw [beq_eq_false_iff_ne]; omega
      have i2 : (0 : Int) < ol := by omega
      clear ho
      go_enter Tryz.func28, Tryz.ntmps28
      go_wp2_with fail
      go_quiet (fail)
      go_wp2_with fail
      go_quiet (fail)
      go_wp2_with fail
      go_end0
      exact ⟨rfl, bdrewN (Below.refl w.heap.size w) _⟩
    · obtain rfl : ol = 0 := by omega
      clear ho
      go_enter Tryz.func28, Tryz.ntmps28
      go_wp2_with fail
      go_quiet (fail)
      go_wp2_with fail
      go_end0
      exact ⟨rfl, bdrewN (Below.refl w.heap.size w) _⟩
  · obtain rfl : il = 0 := by omega
    clear hi
    by_cases h2 : 0 < ol
    · obtain ⟨b2, off2, rfl⟩ := ho h2
      have z2 : ((ol : Int) == 0) = false := by rw [beq_eq_false_iff_ne]; omega
      have i2 : (0 : Int) < ol := by omega
      clear ho
      go_enter Tryz.func28, Tryz.ntmps28
      go_wp2_with fail
      go_quiet (fail)
      go_wp2_with fail
      go_end0
      exact ⟨rfl, bdrewN (Below.refl w.heap.size w) _⟩
    · obtain rfl : ol = 0 := by omega
      clear ho
      go_enter Tryz.func28, Tryz.ntmps28
      go_wp2_with fail
      go_end0
      exact ⟨rfl, Below.refl w.heap.size w⟩
end Go.Proofs.YtdjcdejapkkcmaaGreatDoor
/- Draws that were used, in plain Lean: what costs at most k draws, and what it gives if it costs just k. -/
namespace Go.Proofs.YtdjcdejapkkcmaaGreatDoor
open Go.ChangeShapes Go.WideShapes Go.ChangeAt Go.RowKit

theorem stN_add (st : Int) (k : Nat) : ∀ j, stN st (k + j) = stN (stN st k) j
  | 0 => rfl
  | j + 1 => by show nextS (stN st (k + j)) = nextS (stN (stN st k) j); rw [stN_add st k j]
/-- From m to m2 the ideal oracle made at most k draws; if just k, then p. Its mode stays, and it forgets nothing. -/
structure Used (k : Nat) (m m2 : OrM) (p : Prop) : Prop where
  ideal : m2.ideal = m.ideal
  most : m.ideal = true → m2.n ≤ m.n + k
  less : m.n ≤ m2.n
  just : m.ideal = true → m2.n = m.n + k → m2.st = stN m.st k ∧ p
  qs : m.qs.length ≤ m2.qs.length
theorem Used.zero (m : OrM) {p : Prop} (h : p) : Used 0 m m p := ⟨rfl, fun _ => Nat.le_refl _, Nat.le_refl _, fun _ _ => ⟨rfl, h⟩, Nat.le_refl _⟩
theorem Used.mono {k : Nat} {m m2 : OrM} {p q : Prop} (h : Used k m m2 p) (hq : m.ideal = true → m2.st = stN m.st k → p → q) : Used k m m2 q :=
  ⟨h.ideal, h.most, h.less, fun hi hn => ⟨(h.just hi hn).1, hq hi (h.just hi hn).1 (h.just hi hn).2⟩, h.qs⟩
theorem Used.trans {k j : Nat} {m m2 m3 : OrM} {p q r : Prop} (h : Used k m m2 p) (h' : Used j m2 m3 q) (hr : m.ideal = true → m2.st = stN m.st k → p → q → r) : Used (k + j) m m3 r := by
  refine ⟨h'.ideal.trans h.ideal, fun hi => ?_, Nat.le_trans h.less h'.less, fun hi hn => ?_, Nat.le_trans h.qs h'.qs⟩
  · have := h.most hi; have := h'.most (h.ideal.trans hi); omega
  · have a := h.most hi
    have b := h'.most (h.ideal.trans hi)
    obtain ⟨s1, x⟩ := h.just hi (by omega)
    obtain ⟨s2, y⟩ := h'.just (h.ideal.trans hi) (by omega)
    exact ⟨by rw [s2, s1, stN_add], hr hi s1 x y⟩
/-- At most k draws were made, whatever they were used for. -/
theorem Used.up {k j : Nat} {m m2 : OrM} {p : Prop} (h : Used k m m2 p) (hk : k < j) : Used j m m2 False :=
  ⟨h.ideal, fun hi => by have := h.most hi; omega, h.less, fun hi hn => by have := h.most hi; omega, h.qs⟩
theorem used_draw {m : OrM} (k : Nat) {p : Prop} (h : p) : Used k m (m.drew k) p := ⟨rfl, fun _ => Nat.le_refl _, Nat.le_add_right _ _, fun _ _ => ⟨rfl, h⟩, Nat.le_refl _⟩
end Go.Proofs.YtdjcdejapkkcmaaGreatDoor
/- The oracle: record, Hash. -/
namespace Go.Proofs.YtdjcdejapkkcmaaGreatDoor
open Go.ChangeShapes Go.WideShapes Go.ChangeAt Go.RowKit

set_option maxRecDepth 100000 in
set_option maxHeartbeats 1000000 in
theorem copied_any (S : Nat → Prop) (w : World) (a : Option Addr) (cap : Nat) (l : List Int) (h : numsR.rel S w [.slice a l.length cap] l) (hl : l.length ≤ 1000000) :
    Calls Tryz.prog 93 #[.slice a l.length cap] w fun e w' => ∃ a' c', e = .returned (.slice a' l.length c') ∧ numsR.rel (fun k => w.heap.size ≤ k) w' [.slice a' l.length c'] l ∧ Below w.heap.size w w' := by
  have HS := Lib.hid (Src.plain (S' := fun _ => False) (Plain.int .u64) (Src.of_slice h))
  clear h
  go_enter Tryz.func93, Tryz.ntmps93
  go_wp2_with (at_builtin; refine wpList_append_rel (r := u64R) (base := w.heap.size) (F := fun _ => False) (v := .slice none 0 0) rfl _ _ rfl Tryz.etyNums rfl rfl (Own.nil _ _ _ _ _) HS.out (fun _ _ h => h.elim) (fun _ _ h => h) (by unfold maxLen; simp; omega) (by simp; omega) (Nat.le_refl _) ?_)
  intro v3 w3 ho3 hk3 _
  have hb3 : Below w.heap.size w w3 := Kept.behind (Below.refl _ _) hk3 (Nat.le_refl _) fun k hk h => by simp [Value.ownBlock] at h
  have hown := ho3.slice
  obtain ⟨a', c', rfl, -, -⟩ := sliceR.form hown
  have HG := Lib.hid hown
  have HB3 := Lib.hid hb3
  clear ho3 hb3 hown
  go_wp2_with fail
  go_ret
  exact ⟨_, _, rfl, HG.out, HB3.out⟩
/-- The map knows a further question. -/
theorem KnOK.put {m : OrM} {km : SMap} (h : KnOK m km) (q : QuM) (hn : smGet km (keyS [q.label] q.elems).data.toList = none) : KnOK { m with qs := m.qs ++ [q] } (smPut km (keyS [q.label] q.elems).data.toList (.int .i64 (m.qs.length : Nat))) := by
  refine ⟨?_, fun e he => ?_, fun i q' hq' => ?_⟩
  · have := smPut_len km (keyS [q.label] q.elems).data.toList (.int .i64 (m.qs.length : Nat))
    have h1 := h.1
    show _ ≤ (m.qs ++ [q]).length
    rw [List.length_append, List.length_singleton]
    omega
  · rcases smPut_mem he with rfl | he
    · exact ⟨m.qs.length, q, by simp, rfl, rfl⟩
    · obtain ⟨i, q', h1, h2, h3⟩ := h.2.1 e he
      exact ⟨i, q', by rw [List.getElem?_append_left (List.getElem?_eq_some_iff.1 h1).1]; exact h1, h2, h3⟩
  · rcases Nat.lt_or_ge i m.qs.length with hi | hi
    · have h1 := h.2.2 i q' (by rwa [List.getElem?_append_left hi] at hq')
      by_cases he : (keyS [q.label] q.elems).data.toList = (keyS [q'.label] q'.elems).data.toList
      · rw [← he, hn] at h1; cases h1
      · rw [smGet_put_ne _ _ he]; exact h1
    · have h2 : i < (m.qs ++ [q]).length := (List.getElem?_eq_some_iff.1 hq').1
      rw [List.length_append, List.length_singleton] at h2
      obtain rfl : i = m.qs.length := by omega
      have e : q = q' := by simpa using hq'
      subst e
      exact smGet_put_eq _ _ _
theorem etyQu : ElemTy Tryz.prog 70 118 3 40 := ElemTy.of Tryz.underlying70 (z := .agg #[.int .u64 0, .slice none 0 0, .int .u64 0]) (by kernel_rfl) rfl (by omega)
theorem own_free {α : Type} {r : Rep α} {B : Nat} {e : TypeId} {F : Nat → Prop} {w : World} {v : Value} {xs : List α} (h : Own r B e F w v xs) {k : Nat} (hv : v.ownBlock = some k) : F k := by
  obtain ⟨S, css, hS, h2, -⟩ := h
  exact (h2 k hv).2
theorem rec_fin {p mk ms mp : Nat} {va v2 : Value} {F : Nat → Prop} {km km2 sm pm : SMap} {w w1 w2 w4 w5 : World} {m : OrM} {q : QuM} (h : OrMem p mk ms mp va F km sm pm w m) (h1 : Below w.heap.size w w1) (hp2 : SMapAt w2 mk km2) (ho2 : OnlyAt mk w1 w2) (hs2 : w2.heap.size = w1.heap.size) (h4 : Below w2.heap.size w2 w4)
    (hkn : KnOK { m with qs := m.qs ++ [q] } km2) (ho5 : Own quR 0 118 (fun k => ((F k ∧ k ≠ p ∧ k ≠ mk ∧ k ≠ ms ∧ k ≠ mp) ∨ w2.heap.size ≤ k) ∨ w4.heap.size ≤ k) w5 v2 (m.qs ++ [q])) (hk5 : Kept (fun k => va.ownBlock ≠ some k) w4 w5) :
    OrMem p mk ms mp v2 (fun k => F k ∨ w.heap.size ≤ k) km2 sm pm (w5.setCell ⟨p, 3, none⟩ v2) { m with qs := m.qs ++ [q] } ∧ Kept (fun k => ¬ F k) w (w5.setCell ⟨p, 3, none⟩ v2) := by
  have hz1 := h1.size
  have hz4 := h4.size
  have hB := h.row
  have hfree : ∀ k, va.ownBlock = some k → F k ∧ k ≠ p ∧ k ≠ mk ∧ k ≠ ms ∧ k ≠ mp := fun k hk => own_free hB hk
  have bp := box_lt h.box
  have bk := h.known.lt
  have bs := h.sealed.lt
  have bm := h.proofs.lt
  have k12 : Kept (fun k => k ≠ mk) w w2 := (Kept.of_below h1).trans ho2 fun _ _ h => h
  have k14 : Kept (fun k => k ≠ mk) w w4 := k12.trans (Kept.of_below (S := fun k => k ≠ mk) h4) fun _ _ h => h
  have k24 : Kept (fun _ => True) w2 w4 := Kept.of_below h4
  have k5 : Kept (fun k => k ≠ mk ∧ va.ownBlock ≠ some k) w w5 := (k14.mono fun _ _ h => h.1).trans hk5 fun _ _ h => h.2
  have kset : Kept (fun k => k ≠ p) w5 (w5.setCell ⟨p, 3, none⟩ v2) := (Kept.refl _ _).setCell (fun _ h => h rfl) _
  have k6 : Kept (fun k => k ≠ mk ∧ k ≠ p ∧ va.ownBlock ≠ some k) w (w5.setCell ⟨p, 3, none⟩ v2) := (k5.mono fun _ _ h => ⟨h.1, h.2.2⟩).trans kset fun _ _ h => h.2.1
  have hbx := box_kept k5 h.box ⟨Ne.symm h.nkp, fun e => (hfree p e).2.1 rfl⟩
  refine ⟨⟨box_set hbx, ?_, ?_, hkn, ?_, ?_, h.lim, .inl h.fp, .inl h.fk, .inl h.fs, .inl h.fm, h.nkp, h.nsp, h.nmp, h.nks, h.nkm, h.nsm⟩, ?_⟩
  · have h5 := ho5.mono (F' := fun k => (F k ∨ w.heap.size ≤ k) ∧ k ≠ p ∧ k ≠ mk ∧ k ≠ ms ∧ k ≠ mp) fun k _ hk => by
      rcases hk with (hk | hk) | hk
      · exact ⟨.inl hk.1, hk.2⟩
      · exact ⟨.inr (by omega), by omega, by omega, by omega, by omega⟩
      · exact ⟨.inr (by omega), by omega, by omega, by omega, by omega⟩
    exact h5.keep (kset.mono fun _ _ h => h.2.1)
  · have e1 := hp2.keep k24 trivial
    have e2 := e1.keep hk5 (fun e => (hfree mk e).2.2.1 rfl)
    exact e2.keep kset h.nkp
  · exact h.sealed.keep k6 ⟨Ne.symm h.nks, h.nsp, fun e => (hfree ms e).2.2.2.1 rfl⟩
  · exact h.proofs.keep k6 ⟨Ne.symm h.nkm, h.nmp, fun e => (hfree mp e).2.2.2.2 rfl⟩
  · exact k6.mono fun k _ hn => ⟨fun e => hn (e ▸ h.fk), fun e => hn (e ▸ h.fp), fun e => hn (hfree k e).1⟩
set_option maxRecDepth 100000 in
set_option maxHeartbeats 2000000 in
theorem record_mem (F : Nat → Prop) (S : Nat → Prop) (w : World) (p mk ms mp : Nat) (va : Value) (km sm pm : SMap) (m : OrM) (ok : OrOk m) (ho : OrMem p mk ms mp va F km sm pm w m) (label : Int) (hla : okU label) (a : Option Addr) (cap : Nat) (l : List Int) (h : numsR.rel S w [.slice a l.length cap] l) (hl : l.length ≤ 1000) (ans : Int) (hans : okU ans) (hS : ∀ k, S k → k ≠ mk) (hnew : smGet km (keyS [label] l).data.toList = none) :
    Calls Tryz.prog 96 #[.pointer (some ⟨p, 0, none⟩), .string (keyS [label] l), .int .u64 label, .slice a l.length cap, .int .u64 ans] w fun e w' => e = .returned (.tuple #[]) ∧
      (∃ va', OrMem p mk ms mp va' (fun k => F k ∨ w.heap.size ≤ k) (smPut km (keyS [label] l).data.toList (.int .i64 (m.qs.length : Nat))) sm pm w' { m with qs := m.qs ++ [⟨label, l, ans⟩] }) ∧ Kept (fun k => ¬ F k) w w' := by
  obtain ⟨qa, qc, rfl, hq1, hq2⟩ := sliceR.form ho.row.slice
  have hs : (keyS [label] l).size ≤ maxLen := by rw [keyS_size]; unfold maxLen; simp; omega
  have HS := Lib.hid hs
  have H := Lib.hid h
  have HLE := Lib.hid hl
  have HM := Lib.hid ho
  have HLA := Lib.hid hla
  have HAN := Lib.hid hans
  have HSM := Lib.hid hS
  have HNW := Lib.hid hnew
  have HLI : Hid (m.qs.length ≤ 100000) := by have := ok.lim; show _ ≤ _; omega
  have hqn : ∀ w2, (binOp .eql 87 (.map (some mk)) (.map none)).run Tryz.prog w2 = .ok (.bool false) w2 := fun w2 => run_eql_map_nil w2 _ _ _ (some mk) Tryz.underlying87
  obtain ⟨x0, x1⟩ := box_cells ho.box
  have y0 := box_regrown ho.box
  clear hs h hl ho hla hans hS ok hq1 hq2 hnew
  obtain ⟨N, hN⟩ : ∃ N, m.qs.length = N := ⟨_, rfl⟩
  have HN := Lib.hid hN
  rw [hN] at x0 y0 HLI HM ⊢
  clear hN
  go_enter Tryz.func96, Tryz.ntmps96
  go_wp2_with fail
  refine wp_region_quiet_tail 10 (by kernel_rfl) (by kernel_rfl) ?_
  simp only [List.take_succ_cons, List.take_zero, List.drop_succ_cons, List.drop_zero]
  repeat (quiet_step (fail))
  refine wpQuiet_nil ?_
  intro w1 hw'
  obtain ⟨⟨dq, osq⟩, hw''⟩ := hw'
  have hb1 := below_regrown w dq osq
  rw [← hw''] at hb1
  clear hw'' x0 x1 y0
  have HB1 := Lib.hid hb1
  have HM1 := Lib.hid (HM.out.keep (Kept.of_below hb1))
  clear hb1
  go_wp2_with (at_mapUpdate; refine wpList_putS rfl _ rfl _ _ _ 87 rfl 3 Tryz.underlying87 mk km rfl HM1.out.known (by have := HM1.out.kn.1; have := HLI.out; have := HN.out; unfold maxLen; omega) (keyS [label] l) (.int .i64 N) rfl HS.out rfl ?_)
  intro w2 hp2 ho2 hs2
  have hk1 : Kept (fun k => k ≠ mk) w w2 := (Kept.of_below HB1.out).trans ho2 fun _ _ h => h
  have HK1 := Lib.hid hk1
  have HP2 := Lib.hid hp2
  have HO2 := Lib.hid ho2
  have HS2 := Lib.hid hs2
  have HR2 : Hid (numsR.rel S w2 [.slice a l.length cap] l) := numsR.keep H.out (hk1.mono fun k _ h => HSM.out k h)
  have HBX : Hid (w2.heap[p]? = some (.cells #[.bool m.ideal, .int .u64 m.st, .int .i64 m.n, .slice qa N qc, .map (some mk), .map (some ms), .map (some mp)] 91 (0, 0))) := box_kept hk1 HM.out.box (Ne.symm HM.out.nkp)
  have HRW : Hid (Own quR 0 118 (fun k => (F k ∧ k ≠ p ∧ k ≠ mk ∧ k ≠ ms ∧ k ≠ mp) ∨ w2.heap.size ≤ k) w2 (.slice qa N qc) m.qs) := (HM.out.row.keep (hk1.mono fun k _ h => h.2.2.1)).mono fun _ _ h => .inl h
  have HSZ : Hid (w.heap.size ≤ w2.heap.size) := hk1.size
  have HOB : Hid (∀ k, (Value.slice qa N qc).ownBlock = some k → k < w2.heap.size) := fun k e => (HRW.out.lt e).1
  have HNP : Hid ((Value.slice qa N qc).ownBlock ≠ some p) := fun e => (own_free HM.out.row e).2.1 rfl
  obtain ⟨x0, x1⟩ := box_cells HBX.out
  have hbd : Below w2.heap.size w2 w2.drew := (Below.refl _ _).drew
  clear hk1 hp2 ho2 hs2
  go_wp2_with fail
  go_region_law (first
    | (refine step_append_rel (r := quR) (base := 0) (v := .slice qa N qc) (u := .slice (some ⟨w3.heap.size, 0, none⟩) 1 1) (S := fun k => w2.heap.size ≤ k) rfl _ _ rfl etyQu rfl rfl (Own.keepB HRW3.out (bnew (Below.refl _ _) _)) (Src.one (quR.mk (q := ⟨label, l, ans⟩) HLA.out (numsR.keepB HC3.out (bnew (Below.refl _ _) _)) HAN.out) (CellsAt.new w3 [.int .u64 label, .slice a1 l.length c1, .int .u64 ans] 118)) (fun k _ h => .inr h) (fun k hk h => absurd (HOB.out k hk) (Nat.not_lt.2 h)) (by have := HLI.out; have := HN.out; unfold maxLen; simp; omega) (by have := HLI.out; have := HN.out; simp; omega) (Nat.zero_le _) ?_
       intro v5 w5 ho5 hk5 hl5
       obtain ⟨a6, c6, rfl, -, -⟩ := sliceR.form ho5.slice
       have HO5 := Lib.hid ho5
       obtain ⟨z0, z1⟩ := box_cells (box_kept hk5 (box_old (box_after HB3.out HBX.out)) (fun e => HNP.out e))
       have HK5 := Lib.hid hk5
       clear ho5 hk5 hl5)
    | (go_simp; first
      | (go_at_call 93; refine (copied_any S _ a cap l (numsR.keepB HR2.out hbd) (by have := HLE.out; omega)).mono ?_; rintro e w3 ⟨a1, c1, rfl, hc3, hb3⟩
         have HC3 := Lib.hid (show numsR.rel (fun k => w2.heap.size ≤ k) w3 [.slice a1 l.length c1] l from hc3)
         have HB3 := Lib.hid (hbd.trans hb3)
         have HRW3 := Lib.hid (HRW.out.keepB HB3.out)
         obtain ⟨y0, y1⟩ := box_cells (box_after HB3.out HBX.out)
         have yy := fun o' => (box_cells (box_old (o' := o') (box_after HB3.out HBX.out))).1
         clear hc3 hb3)))
  all_goals
    have hF := rec_fin (q := ⟨label, l, ans⟩) (v2 := .slice a6 (m.qs ++ [(⟨label, l, ans⟩ : QuM)]).length c6) HM.out HB1.out HP2.out HO2.out HS2.out (bnew HB3.out (.cells #[.int .u64 label, .slice a1 l.length c1, .int .u64 ans] 118)) (by rw [← HN.out]; exact HM.out.kn.put ⟨label, l, ans⟩ HNW.out) (HO5.out.mono fun k _ h => h.imp id fun h => h) HK5.out
    rw [List.length_append, List.length_singleton] at hF
    have HF := Lib.hid hF
    clear hF
    go_wp2_with fail
    go_end0
    exact ⟨rfl, ⟨_, HF.out.1⟩, HF.out.2⟩
/-- A question, exactly. -/
def OrM.push (m : OrM) (q : QuM) : OrM := { m with qs := m.qs ++ [q] }
def OrM.ask (m : OrM) (label : Int) (l : List Int) : Int × OrM :=
  if elemsB l = true then (match m.know label l with
    | some a => (a, m)
    | none => if m.ideal = true then (drawZ (nextS m.st), (m.drew 1).push ⟨label, l, drawZ (nextS m.st)⟩) else (hashS label l, m.push ⟨label, l, hashS label l⟩))
  else (0, m)
theorem ask_no {m : OrM} {label : Int} {l : List Int} (h : elemsB l = false) : m.ask label l = (0, m) := by unfold OrM.ask; rw [h]; rfl
theorem ask_known {m : OrM} {label a : Int} {l : List Int} (h : elemsB l = true) (hk : m.know label l = some a) : m.ask label l = (a, m) := by unfold OrM.ask; rw [if_pos h, hk]
theorem ask_new {m : OrM} {label : Int} {l : List Int} (h : elemsB l = true) (hk : m.know label l = none) : m.ask label l = if m.ideal = true then (drawZ (nextS m.st), (m.drew 1).push ⟨label, l, drawZ (nextS m.st)⟩) else (hashS label l, m.push ⟨label, l, hashS label l⟩) := by unfold OrM.ask; rw [if_pos h, hk]
/-- What Hash gives: an element; the ideal oracle makes at most one draw. -/
def HashTo (F : Nat → Prop) (p : Nat) (m : OrM) (label : Int) (l : List Int) (w : World) (e : Ending) (w' : World) : Prop :=
  ∃ (v : Int) (m' : OrM), e = .returned (.int .u64 v) ∧ m.ask label l = (v, m') ∧ (0 ≤ v ∧ v < 18446744069414584321) ∧ Used 1 m m' (v = drawZ (nextS m.st)) ∧ (m.ideal = false → v = peekS label l ∧ m'.n = m.n) ∧ m'.n + m'.qs.length ≤ m.n + m.qs.length + 2 ∧
    OrG (fun k => F k ∨ w.heap.size ≤ k) p w' m' ∧ Kept (fun k => ¬ F k) w w'
theorem OrOk.push {m : OrM} (h : OrOk m) {q : QuM} (ha : 0 ≤ q.ans ∧ q.ans < 18446744069414584321) (hk : okU q.label ∧ (∀ x ∈ q.elems, okU x) ∧ q.elems.length ≤ 1000) (hr : m.ideal = false → q.ans = hashS q.label q.elems) (hl : m.n + m.qs.length + 1 ≤ 100000) : OrOk { m with qs := m.qs ++ [q] } :=
  ⟨h.st, fun x hx => (List.mem_append.1 hx).elim (h.ans x) fun hx => (List.mem_singleton.1 hx) ▸ ha, fun x hx => (List.mem_append.1 hx).elim (h.ask x) fun hx => (List.mem_singleton.1 hx) ▸ hk,
   fun hi x hx => (List.mem_append.1 hx).elim (h.real hi x) fun hx => (List.mem_singleton.1 hx) ▸ hr hi, by show m.n + (m.qs ++ [q]).length ≤ _; rw [List.length_append, List.length_singleton]; omega⟩
set_option maxRecDepth 100000 in
set_option maxHeartbeats 2000000 in
theorem hash_gen (F : Nat → Prop) (S : Nat → Prop) (w : World) (p : Nat) (m : OrM) (ho : OrG F p w m) (label : Int) (hla : okU label) (a : Option Addr) (cap : Nat) (l : List Int) (h : numsR.rel S w [.slice a l.length cap] l) (hl : l.length ≤ 1000) (hS : ∀ k, S k → ¬ F k) (hlim : m.n + m.qs.length + 2 ≤ 100000) :
    Calls Tryz.prog 51 #[.pointer (some ⟨p, 0, none⟩), .int .u64 label, .slice a l.length cap] w (HashTo F p m label l w) := by
  have H := Lib.hid h
  have HO := Lib.hid ho
  have HWF := Lib.hid (ints_wf h)
  have HLA := Lib.hid hla
  have HSF := Lib.hid hS
  have HLI := Lib.hid hlim
  have l0 := (okU_in hla).1
  clear h ho hla hS hlim
  go_enter Tryz.func51, Tryz.ntmps51
  go_wp2_with fail
  refine (oelements_any S w a cap l H.out).mono ?_
  rintro e w1 ⟨rfl, hb1⟩
  cases he : elemsB l with
  | false =>
    have HP : Hid ((0 : Int) = peekS label l) := by show _ = _; unfold peekS; rw [he]; rfl
    have HO1 := Lib.hid (HO.out.keepB hb1)
    have HPK := Lib.hid (ask_no (m := m) (label := label) he)
    go_wp2_with fail
    go_ret
    exact ⟨0, m, rfl, HPK.out, by omega, ((Used.zero m trivial).up (by omega)).mono (fun _ _ h => h.elim), fun _ => ⟨HP.out, rfl⟩, by omega, HO1.out.mono fun _ _ h => .inl h, Kept.of_below hb1⟩
  | true =>
    have HP : Hid (peekS label l = hashS label l) := by show _ = _; unfold peekS; rw [he]; rfl
    have HX := Lib.hid (nums1 w1 24 HLA.out)
    have hbX := bnew (Below.refl w1.heap.size w1) (.cells #[.int .u64 label] 24)
    have HBX := Lib.hid hbX
    clear hbX
    go_wp2_with fail
    refine (keyX_one S (fun _ => True) _ _ _ _ _ l label (numsR.keepB (numsR.keepB H.out hb1) HBX.out) HX.out hl).mono ?_
    rintro e w2 ⟨rfl, hb2⟩
    have hbw := bnext (bnext hb1 HBX.out) hb2
    obtain ⟨ok, mk, ms, mp, va, km, sm, pm, hm⟩ := HO.out.keepB hbw
    have HEL := Lib.hid he
    obtain ⟨ix, fo, hlk, hfo, hfn⟩ := hm.look ok HLA.out HWF.out hl
    have hlk2 := hlk w2 hm.known
    have HM := Lib.hid hm
    have HOK := Lib.hid ok
    have HFO := Lib.hid hfo
    have HFN := Lib.hid hfn
    have HBW := Lib.hid hbw
    have HR2 := Lib.hid (numsR.keepB H.out hbw)
    obtain ⟨x0, x1⟩ := box_cells hm.box
    clear hlk hfo hfn he hb1 hb2 HBX HX
    cases fo with
    | true =>
      obtain ⟨q, hq, hql, hqe, hqk⟩ := HFO.out rfl
      have HPK := Lib.hid (ask_known HEL.out hqk)
      obtain ⟨b, off, c, rfl, hix, hbl, hca⟩ := hm.ans hq
      have hans := HOK.out.ans q (List.mem_of_getElem? hq)
      have HR : Hid (m.ideal = false → q.ans = peekS label l) := fun hi => by rw [HOK.out.real hi q (List.mem_of_getElem? hq), hql, hqe, HP.out]
      have HA := Lib.hid hans
      obtain ⟨ans, hae⟩ : ∃ x, q.ans = x := ⟨_, rfl⟩
      rw [hae] at hca HR HA HPK
      clear hq hql hqe hqk hm hans hae hbw ok
      go_wp2_with fail
      go_ret
      exact ⟨ans, m, rfl, HPK.out, HA.out, ((Used.zero m trivial).up (by omega)).mono (fun _ _ h => h.elim), fun hi => ⟨HR.out hi, rfl⟩, by omega, ⟨HOK.out, mk, ms, mp, _, km, sm, pm, HM.out.mono fun _ _ h => .inl h⟩, Kept.of_below HBW.out⟩
    | false =>
      clear hm hbw ok
      have hpn := ask_new HEL.out (HFN.out rfl).2
      have HNW := Lib.hid (HFN.out rfl).1
      cases hid : m.ideal with
      | true =>
        have HPK : Hid (m.ask label l = (drawZ (nextS m.st), (m.drew 1).push ⟨label, l, drawZ (nextS m.st)⟩)) := by show _ = _; rw [hpn, hid]; rfl
        clear hpn
        rw [hid] at x0
        have HID := Lib.hid hid
        clear hid
        go_wp2_with fail
        refine (draw_mem w2 p mk ms mp va F km sm pm m HID.out (by have := HLI.out; omega) HM.out).mono ?_
        rintro e w3 ⟨rfl, hm3, hk3⟩
        have HD := Lib.hid (drawZ_in (nextS m.st))
        have hok3 := OrOk.drew HOK.out HID.out (k := 1) (by have := HLI.out; omega)
        have HM3 := Lib.hid hm3
        have HK3 := Lib.hid hk3
        have HS3 := Lib.hid (show ∀ k, S k → k ≠ mk from fun k hk e => HSF.out k hk (e ▸ HM.out.fk))
        have HR3 := Lib.hid (numsR.keep HR2.out (hk3.mono fun k _ hk e => HSF.out k hk (by rw [e]; exact HM.out.fp)))
        have HOK3 := Lib.hid hok3
        obtain ⟨z, hz⟩ : ∃ z, drawZ (nextS m.st) = z := ⟨_, rfl⟩
        have HZ := Lib.hid hz
        rw [hz] at HD HPK ⊢
        clear hm3 hk3 hok3 hz x0 x1
        go_wp2_with fail
        refine (record_mem F S w3 p mk ms mp va km sm pm (m.drew 1) HOK3.out HM3.out label HLA.out a cap l HR3.out hl z (okU_of HD.out.1 (by have := HD.out.2; omega)) HS3.out HNW.out).mono ?_
        rintro e w4 ⟨rfl, ⟨va', hm4⟩, hk4⟩
        have HM4 := Lib.hid hm4
        have HK4 := Lib.hid hk4
        clear hm4 hk4
        go_wp2_with fail
        go_ret
        refine ⟨z, { m.drew 1 with qs := (m.drew 1).qs ++ [⟨label, l, z⟩] }, rfl, HPK.out, HD.out, ⟨rfl, fun _ => Nat.le_refl _, Nat.le_add_right _ _, fun _ _ => ⟨rfl, HZ.out.symm⟩, ?_⟩, fun h => ?_, ?_, ⟨HOK3.out.push HD.out ⟨HLA.out, HWF.out, hl⟩ (fun h => ?_) ?_, mk, ms, mp, va', _, sm, pm, HM4.out.mono fun k _ h => h.imp id fun h => ?_⟩, ?_⟩
        · show m.qs.length ≤ (m.qs ++ [_]).length
          rw [List.length_append]; omega
        · rw [HID.out] at h; cases h
        · show m.n + 1 + (m.qs ++ [_]).length ≤ _
          rw [List.length_append, List.length_singleton]; omega
        · have h' : m.ideal = false := h
          rw [HID.out] at h'; cases h'
        · have := HLI.out
          show m.n + 1 + m.qs.length + 1 ≤ _
          omega
        · exact Nat.le_trans (Nat.le_trans HBW.out.size HK3.out.size) h
        · exact ((Kept.of_below HBW.out).trans (kept_only HM.out.fp HK3.out) fun _ _ h => h).trans HK4.out fun _ _ h => h
      | false =>
        have HPK : Hid (m.ask label l = (hashS label l, m.push ⟨label, l, hashS label l⟩)) := by show _ = _; rw [hpn, hid]; rfl
        clear hpn
        rw [hid] at x0
        have HID := Lib.hid hid
        clear hid
        go_wp2_with fail
        refine (Hash_big label l0 S w2 a cap l HR2.out (by omega)).mono ?_
        rintro e w3 ⟨rfl, hb3⟩
        have HD := Lib.hid (hashS_in label l)
        have HM3 := Lib.hid (HM.out.keep (Kept.of_below hb3))
        have HB3 := Lib.hid hb3
        have HS3 := Lib.hid (show ∀ k, S k → k ≠ mk from fun k hk e => HSF.out k hk (e ▸ HM.out.fk))
        have HR3 := Lib.hid (numsR.keepB HR2.out hb3)
        obtain ⟨z, hz⟩ : ∃ z, hashS label l = z := ⟨_, rfl⟩
        have HZ := Lib.hid hz
        rw [hz] at HD HPK ⊢
        clear hb3 hz x0 x1
        go_wp2_with fail
        refine (record_mem F S w3 p mk ms mp va km sm pm m HOK.out HM3.out label HLA.out a cap l HR3.out hl z (okU_of HD.out.1 (by have := HD.out.2; omega)) HS3.out HNW.out).mono ?_
        rintro e w4 ⟨rfl, ⟨va', hm4⟩, hk4⟩
        have HM4 := Lib.hid hm4
        have HK4 := Lib.hid hk4
        clear hm4 hk4
        go_wp2_with fail
        go_ret
        refine ⟨z, { m with qs := m.qs ++ [⟨label, l, z⟩] }, rfl, HPK.out, HD.out, ⟨rfl, fun h => ?_, Nat.le_refl _, fun h => ?_, ?_⟩, fun _ => ⟨by rw [HP.out, HZ.out], rfl⟩, ?_, ⟨HOK.out.push HD.out ⟨HLA.out, HWF.out, hl⟩ (fun _ => HZ.out.symm) ?_, mk, ms, mp, va', _, sm, pm, HM4.out.mono fun k _ h => h.imp id fun h => ?_⟩, ?_⟩
        · rw [HID.out] at h; cases h
        · rw [HID.out] at h; cases h
        · show m.qs.length ≤ (m.qs ++ [_]).length
          rw [List.length_append]; omega
        · show m.n + (m.qs ++ [_]).length ≤ _
          rw [List.length_append, List.length_singleton]; omega
        · have := HLI.out
          omega
        · exact Nat.le_trans (Nat.le_trans HBW.out.size HB3.out.size) h
        · exact ((Kept.of_below (S := fun k => ¬ F k) HBW.out).trans (Kept.of_below (S := fun k => ¬ F k) HB3.out) fun _ _ h => h).trans HK4.out fun _ _ h => h
end Go.Proofs.YtdjcdejapkkcmaaGreatDoor
/- Notes: commitments and marks that are asked for; what is encrypted. -/
namespace Go.Proofs.YtdjcdejapkkcmaaGreatDoor
open Go.ChangeShapes Go.WideShapes Go.ChangeAt Go.RowKit

/-- A question was asked, or none: an element; the real oracle gives r. -/
def AskTo (F : Nat → Prop) (p : Nat) (m : OrM) (r : Int) (ex : Int × OrM) (w : World) (e : Ending) (w' : World) : Prop :=
  ∃ (v : Int) (m' : OrM), e = .returned (.int .u64 v) ∧ ex = (v, m') ∧ (0 ≤ v ∧ v < 18446744069414584321) ∧ Used 1 m m' (v = drawZ (nextS m.st)) ∧ (m.ideal = false → v = r ∧ m'.n = m.n) ∧ m'.n + m'.qs.length ≤ m.n + m.qs.length + 2 ∧
    OrG (fun k => F k ∨ w.heap.size ≤ k) p w' m' ∧ Kept (fun k => ¬ F k) w w'
theorem AskTo.back {F : Nat → Prop} {p : Nat} {m : OrM} {r : Int} {ex : Int × OrM} {w w1 w' : World} {e : Ending} (h : AskTo F p m r ex w1 e w') (hb : Below w.heap.size w w1) : AskTo F p m r ex w e w' := by
  obtain ⟨v, m', h1, hx, h2, h3, h4, h5, h6, h7⟩ := h
  exact ⟨v, m', h1, hx, h2, h3, h4, h5, h6.mono fun k _ h => h.imp id fun h => Nat.le_trans hb.size h, (Kept.of_below hb).trans h7 fun _ _ h => h⟩
theorem AskTo.none {F : Nat → Prop} {p : Nat} {m : OrM} {w w1 : World} (ho : OrG F p w m) (hb : Below w.heap.size w w1) : AskTo F p m 0 (0, m) w (.returned (.int .u64 0)) w1 :=
  ⟨0, m, rfl, rfl, by omega, ((Used.zero m trivial).up (by omega)).mono (fun _ _ h => h.elim), fun _ => ⟨rfl, rfl⟩, by omega, (ho.keepB hb).mono fun _ _ h => .inl h, Kept.of_below hb⟩
theorem nums_only {S T : Nat → Prop} {w : World} {b off len cap : Nat} {l : List Int} (h : numsR.rel S w [.slice (some ⟨b, off, none⟩) len cap] l) (hT : T b) : numsR.rel T w [.slice (some ⟨b, off, none⟩) len cap] l := by
  obtain ⟨a', len', cap', hv, h1, h2, h3, h4, h5⟩ := h
  simp only [List.cons.injEq, Value.slice.injEq, and_true] at hv
  obtain ⟨rfl, rfl, rfl⟩ := hv
  refine ⟨_, _, _, rfl, h1, h2, h3, h4, fun i x hx => ?_⟩
  obtain ⟨b', off', es, ha, hb, hr, hc, hlt⟩ := h5 i x hx
  cases ha
  exact ⟨b, off, es, rfl, hT, hr, hc, hlt⟩
theorem noteElemsN (w : World) (n : NoteM) (hn : NoteOk n) : Calls Tryz.prog 52 #[.agg #[.int .u64 n.value, .int .u64 n.owner, .int .u64 n.rho, .int .u64 n.blind]] w
    fun e w' => (∃ a cap, e = .returned (.slice a 4 cap) ∧ numsR.rel (fun k => w.heap.size ≤ k) w' [.slice a 4 cap] [n.value, n.owner, n.rho, n.blind]) ∧ Below w.heap.size w w' := by
  have HX := Lib.hid (nums_only (T := fun k => w.heap.size ≤ k) (nums4 (w.alloc (.cells #[.int .u64 n.value, .int .u64 n.owner, .int .u64 n.rho, .int .u64 n.blind] 56)) 24 hn.value hn.owner hn.rho hn.blind) (by rw [World.size_alloc]; omega))
  clear hn
  go_enter Tryz.func52, Tryz.ntmps52
  go_wp2_with fail
  go_ret
  exact ⟨⟨_, _, rfl, by simpa using HX.out⟩, bnew (bnew (Below.refl _ _) _) _⟩
/-- The question for a commitment, for a mark. -/
def OrM.commit (m : OrM) (n : NoteM) : Int × OrM := if noteB n = true then m.ask 2 [n.value, n.owner, n.rho, n.blind] else (0, m)
def OrM.mark (m : OrM) (key rho : Int) : Int × OrM := if markK key rho = true then m.ask 3 [key, rho] else (0, m)
set_option maxRecDepth 100000 in
set_option maxHeartbeats 1000000 in
theorem commit_any (F : Nat → Prop) (w : World) (p : Nat) (m : OrM) (ho : OrG F p w m) (hF : ∀ k, F k → k < w.heap.size) (n : NoteM) (hn : NoteOk n) (hlim : m.n + m.qs.length + 2 ≤ 100000) :
    Calls Tryz.prog 24 #[.pointer (some ⟨p, 0, none⟩), .agg #[.int .u64 n.value, .int .u64 n.owner, .int .u64 n.rho, .int .u64 n.blind]] w (AskTo F p m (commitV n) (m.commit n) w) := by
  have hb0 := bnew (Below.refl w.heap.size w) (.cells #[.int .u64 n.value, .int .u64 n.owner, .int .u64 n.rho, .int .u64 n.blind] 56)
  have HX := Lib.hid (box_new w (.cells #[.int .u64 n.value, .int .u64 n.owner, .int .u64 n.rho, .int .u64 n.blind] 56))
  have HO := Lib.hid (ho.keepB hb0)
  have HO0 := Lib.hid ho
  have HB := Lib.hid hb0
  have HF := Lib.hid hF
  have HN := Lib.hid hn
  have HLI := Lib.hid hlim
  clear hb0 ho hF hn hlim
  go_enter Tryz.func24, Tryz.ntmps24
  go_wp2_with fail
  refine (noteValid_any _ n).mono ?_
  rintro e w1 ⟨rfl, hb1⟩
  obtain ⟨x0, x1⟩ := box_cells (box_after hb1 HX.out)
  have hw1 := bnext HB.out hb1
  cases hv : noteB n with
  | false =>
    have HV : Hid (commitV n = 0) := by show _ = _; unfold commitV; rw [hv]; rfl
    have HPK : Hid (m.commit n = (0, m)) := by show _ = _; unfold OrM.commit; rw [hv]; rfl
    go_wp2_with fail
    go_ret
    rw [HV.out, HPK.out]
    exact AskTo.none HO0.out hw1
  | true =>
    have HV : Hid (commitV n = hashS 2 [n.value, n.owner, n.rho, n.blind]) := by show _ = _; unfold commitV; rw [hv]; rfl
    have HE := Lib.hid (noteB_elems hv)
    have HPK : Hid (m.commit n = m.ask 2 [n.value, n.owner, n.rho, n.blind]) := by show _ = _; unfold OrM.commit; rw [if_pos hv]
    have HW1 := Lib.hid hw1
    go_wp2_with fail
    refine (noteElemsN w1 n HN.out).mono ?_
    rintro e w2 ⟨⟨a, cap, rfl, hr⟩, hb2⟩
    have HW2 := Lib.hid (bnext HW1.out hb2)
    have HR := Lib.hid hr
    clear hw1 hb1 hb2 hr
    go_wp2_with fail
    refine (hash_gen F _ w2 p m (HO0.out.keepB HW2.out) 2 (okU_of (by omega) (by omega)) a cap [n.value, n.owner, n.rho, n.blind] HR.out (by simp) (fun k hk hf => by have h1 := HF.out k hf; have h2 := HW1.out.size; have h3 : w1.heap.size ≤ k := hk; omega) HLI.out).mono ?_
    rintro e w3 h3
    have h4 : AskTo F p m (commitV n) (m.commit n) w2 e w3 := by
      obtain ⟨v, m', h1, hx, h2, h3, h4, h5⟩ := h3
      refine ⟨v, m', h1, HPK.out.trans hx, h2, h3, fun hi => ⟨?_, (h4 hi).2⟩, h5⟩
      rw [(h4 hi).1, HV.out]
      unfold peekS; rw [HE.out]; rfl
    have H4 := Lib.hid (h4.back HW2.out)
    obtain ⟨v, m', rfl, -⟩ := h3
    clear h4
    go_wp2_with fail
    go_ret
    exact H4.out
set_option maxRecDepth 100000 in
set_option maxHeartbeats 1000000 in
theorem mark_any (F : Nat → Prop) (w : World) (p : Nat) (m : OrM) (ho : OrG F p w m) (hF : ∀ k, F k → k < w.heap.size) (key rho : Int) (hk : okU key) (hr : okU rho) (hlim : m.n + m.qs.length + 2 ≤ 100000) :
    Calls Tryz.prog 30 #[.pointer (some ⟨p, 0, none⟩), .int .u64 key, .int .u64 rho] w (AskTo F p m (markV key rho) (m.mark key rho) w) := by
  have HX := Lib.hid (nums_only (T := fun k => w.heap.size ≤ k) (nums2 w 24 hk hr) (Nat.le_refl _))
  have hb0 := bnew (Below.refl w.heap.size w) (.cells #[.int .u64 key, .int .u64 rho] 24)
  have HO := Lib.hid (ho.keepB hb0)
  have HO0 := Lib.hid ho
  have HB := Lib.hid hb0
  have HF := Lib.hid hF
  have HLI := Lib.hid hlim
  clear hb0 ho hF hlim
  by_cases h1 : key < 18446744069414584321
  · by_cases h2 : rho < 18446744069414584321
    · have hv : markK key rho = true := decide_eq_true ⟨h1, h2⟩
      have HV : Hid (markV key rho = hashS 3 [key, rho]) := by show _ = _; unfold markV; rw [hv]; rfl
      have HPK : Hid (m.mark key rho = m.ask 3 [key, rho]) := by show _ = _; unfold OrM.mark; rw [if_pos hv]
      have HE : Hid (elemsB [key, rho] = true) := by show _ = _; simp [elemsB, allUp, elemB]; omega
      clear hv
      go_enter Tryz.func30, Tryz.ntmps30
      go_wp2_with fail
      refine (hash_gen F _ _ p m HO.out 3 (okU_of (by omega) (by omega)) _ _ [key, rho] HX.out (by simp) (fun k hk hf => by have h1 := HF.out k hf; have h3 : w.heap.size ≤ k := hk; omega) HLI.out).mono ?_
      rintro e w3 h3
      have h4 : AskTo F p m (markV key rho) (m.mark key rho) (w.alloc (.cells #[.int .u64 key, .int .u64 rho] 24)) e w3 := by
        obtain ⟨v, m', h1, hx, h2, h3, h4, h5⟩ := h3
        refine ⟨v, m', h1, HPK.out.trans hx, h2, h3, fun hi => ⟨?_, (h4 hi).2⟩, h5⟩
        rw [(h4 hi).1, HV.out]
        unfold peekS; rw [HE.out]; rfl
      have H4 := Lib.hid (h4.back HB.out)
      obtain ⟨v, m', rfl, -⟩ := h3
      clear h4
      go_wp2_with fail
      go_ret
      exact H4.out
    · have HV : Hid (markV key rho = 0) := by show _ = _; unfold markV markK; rw [decide_eq_false (fun h => h2 h.2)]; rfl
      have HPK : Hid (m.mark key rho = (0, m)) := by show _ = _; unfold OrM.mark markK; rw [decide_eq_false (fun h => h2 h.2)]; rfl
      go_enter Tryz.func30, Tryz.ntmps30
      go_wp2_with fail
      go_ret
      rw [HV.out, HPK.out]
      exact AskTo.none HO0.out (Below.refl _ _)
  · have HV : Hid (markV key rho = 0) := by show _ = _; unfold markV markK; rw [decide_eq_false (fun h => h1 h.1)]; rfl
    have HPK : Hid (m.mark key rho = (0, m)) := by show _ = _; unfold OrM.mark markK; rw [decide_eq_false (fun h => h1 h.1)]; rfl
    go_enter Tryz.func30, Tryz.ntmps30
    go_wp2_with fail
    go_ret
    rw [HV.out, HPK.out]
    exact AskTo.none HO0.out (Below.refl _ _)
/-- What is asked without asking: something. -/
def KnowTo (ex : Int × Bool) (w : World) (e : Ending) (w' : World) : Prop := ∃ (v : Int) (k : Bool), e = .returned (.tuple #[.int .u64 v, .bool k]) ∧ ex = (v, k) ∧ okU v ∧ Below w.heap.size w w'
theorem KnowTo.back {ex : Int × Bool} {w w1 w' : World} {e : Ending} (h : KnowTo ex w1 e w') (hb : Below w.heap.size w w1) : KnowTo ex w e w' := by
  obtain ⟨v, k, h1, hx, h2, h3⟩ := h
  exact ⟨v, k, h1, hx, h2, bnext hb h3⟩
theorem PeekTo.know {m : OrM} {label : Int} {l : List Int} {w w' : World} {e : Ending} (h : PeekTo m label l w e w') : KnowTo (m.peek label l) w e w' := by
  obtain ⟨v, k, h1, hx, h2, -, h3⟩ := h
  exact ⟨v, k, h1, hx, okU_of h2.1 (by omega), h3⟩
/-- The commitment, the mark of a note, as far as it is known. -/
def OrM.cmt (m : OrM) (n : NoteM) : Int × Bool := if noteB n = true then m.peek 2 [n.value, n.owner, n.rho, n.blind] else (0, false)
def OrM.mkd (m : OrM) (key rho : Int) : Int × Bool := if markK key rho = true then m.peek 3 [key, rho] else (0, false)
set_option maxRecDepth 100000 in
set_option maxHeartbeats 1000000 in
theorem commitment_some (F : Nat → Prop) (w : World) (p : Nat) (m : OrM) (ho : OrG F p w m) (n : NoteM) (hn : NoteOk n) : Calls Tryz.prog 103 #[.pointer (some ⟨p, 0, none⟩), .agg #[.int .u64 n.value, .int .u64 n.owner, .int .u64 n.rho, .int .u64 n.blind]] w (KnowTo (m.cmt n) w) := by
  have hb0 := bnew (Below.refl w.heap.size w) (.cells #[.int .u64 n.value, .int .u64 n.owner, .int .u64 n.rho, .int .u64 n.blind] 56)
  have HX := Lib.hid (box_new w (.cells #[.int .u64 n.value, .int .u64 n.owner, .int .u64 n.rho, .int .u64 n.blind] 56))
  have HO := Lib.hid (ho.keepB hb0)
  have HB := Lib.hid hb0
  have HN := Lib.hid hn
  clear hb0 ho hn
  go_enter Tryz.func103, Tryz.ntmps103
  go_wp2_with fail
  refine (noteValid_any _ n).mono ?_
  rintro e w1 ⟨rfl, hb1⟩
  obtain ⟨x0, x1⟩ := box_cells (box_after hb1 HX.out)
  have hw1 := bnext HB.out hb1
  cases hv : noteB n with
  | false =>
    have HPK : Hid (m.cmt n = (0, false)) := by show _ = _; unfold OrM.cmt; rw [hv]; rfl
    go_wp2_with fail
    go_ret2
    exact ⟨0, false, rfl, HPK.out, okU_of (by omega) (by omega), hw1⟩
  | true =>
    have HPK : Hid (m.cmt n = m.peek 2 [n.value, n.owner, n.rho, n.blind]) := by show _ = _; unfold OrM.cmt; rw [if_pos hv]
    have HW1 := Lib.hid hw1
    have HO1 := Lib.hid (HO.out.keepB hb1)
    go_wp2_with fail
    refine (noteElems_any w1 n HN.out).mono ?_
    rintro e w2 ⟨⟨a, cap, rfl, hr⟩, hb2⟩
    have HW2 := Lib.hid (bnext HW1.out hb2)
    have HO2 := Lib.hid (HO1.out.keepB hb2)
    clear hw1 hb1 hb2
    go_wp2_with fail
    refine (peek_gen F _ w2 p m HO2.out 2 (by omega) (by omega) a cap [n.value, n.owner, n.rho, n.blind] hr (by simp)).mono ?_
    rintro e w3 h3
    have H4 : Hid (KnowTo (m.cmt n) w e w3) := by rw [HPK.out]; exact h3.know.back HW2.out
    obtain ⟨v, k, rfl, -⟩ := h3
    go_wp2_with fail
    go_ret2
    exact H4.out
set_option maxRecDepth 100000 in
set_option maxHeartbeats 1000000 in
theorem marked_some (F : Nat → Prop) (w : World) (p : Nat) (m : OrM) (ho : OrG F p w m) (key rho : Int) (hk : okU key) (hr : okU rho) : Calls Tryz.prog 167 #[.pointer (some ⟨p, 0, none⟩), .int .u64 key, .int .u64 rho] w (KnowTo (m.mkd key rho) w) := by
  have HX := Lib.hid (nums2 w 24 hk hr)
  have hb0 := bnew (Below.refl w.heap.size w) (.cells #[.int .u64 key, .int .u64 rho] 24)
  have HO := Lib.hid (ho.keepB hb0)
  have HB := Lib.hid hb0
  have HK := Lib.hid hk
  have HR := Lib.hid hr
  clear hb0 ho hk hr
  by_cases h1 : key < 18446744069414584321
  · by_cases h2 : rho < 18446744069414584321
    · have HPK : Hid (m.mkd key rho = m.peek 3 [key, rho]) := by show _ = _; unfold OrM.mkd markK; rw [decide_eq_true ⟨h1, h2⟩]; rfl
      go_enter Tryz.func167, Tryz.ntmps167
      go_wp2_with fail
      refine (peek_gen F _ _ p m HO.out 3 (by omega) (by omega) _ _ [key, rho] HX.out (by simp)).mono ?_
      rintro e w3 h3
      have H4 : Hid (KnowTo (m.mkd key rho) w e w3) := by rw [HPK.out]; exact h3.know.back HB.out
      obtain ⟨v, k, rfl, -⟩ := h3
      go_wp2_with fail
      go_ret2
      exact H4.out
    · have HPK : Hid (m.mkd key rho = (0, false)) := by show _ = _; unfold OrM.mkd markK; rw [decide_eq_false (fun h => h2 h.2)]; rfl
      go_enter Tryz.func167, Tryz.ntmps167
      go_wp2_with fail
      go_ret2
      exact ⟨0, false, rfl, HPK.out, okU_of (by omega) (by omega), Below.refl _ _⟩
  · have HPK : Hid (m.mkd key rho = (0, false)) := by show _ = _; unfold OrM.mkd markK; rw [decide_eq_false (fun h => h1 h.1)]; rfl
    go_enter Tryz.func167, Tryz.ntmps167
    go_wp2_with fail
    go_ret2
    exact ⟨0, false, rfl, HPK.out, okU_of (by omega) (by omega), Below.refl _ _⟩
def plainL (n : NoteM) : List Int := if noteB n = true then [n.value, n.blind] else []
def GiveNums (l : List Int) (w : World) (e : Ending) (w' : World) : Prop := (∃ a cap, e = .returned (.slice a l.length cap) ∧ numsR.rel (fun k => w.heap.size ≤ k) w' [.slice a l.length cap] l) ∧ Below w.heap.size w w'
theorem plain_any (w : World) (n : NoteM) (hn : NoteOk n) : Calls Tryz.prog 111 #[.agg #[.int .u64 n.value, .int .u64 n.owner, .int .u64 n.rho, .int .u64 n.blind]] w (GiveNums (plainL n) w) := by
  have hb0 := bnew (Below.refl w.heap.size w) (.cells #[.int .u64 n.value, .int .u64 n.owner, .int .u64 n.rho, .int .u64 n.blind] 56)
  have HX := Lib.hid (box_new w (.cells #[.int .u64 n.value, .int .u64 n.owner, .int .u64 n.rho, .int .u64 n.blind] 56))
  have HB := Lib.hid hb0
  have HN := Lib.hid hn
  clear hb0 hn
  go_enter Tryz.func111, Tryz.ntmps111
  go_wp2_with fail
  refine (noteValid_any _ n).mono ?_
  rintro e w1 ⟨rfl, hb1⟩
  obtain ⟨x0, x1⟩ := box_cells (box_after hb1 HX.out)
  have HW1 := Lib.hid (bnext HB.out hb1)
  cases hv : noteB n with
  | false =>
    have HV : Hid (plainL n = []) := by show _ = _; unfold plainL; rw [hv]; rfl
    go_wp2_with fail
    go_ret
    rw [HV.out]
    exact ⟨⟨none, 0, rfl, sliceR.nil⟩, HW1.out⟩
  | true =>
    have HV : Hid (plainL n = [n.value, n.blind]) := by show _ = _; unfold plainL; rw [hv]; rfl
    have HR := Lib.hid (nums_only (T := fun k => w.heap.size ≤ k) (nums2 w1 24 HN.out.value HN.out.blind) HW1.out.size)
    have HW2 := Lib.hid (bnew HW1.out (.cells #[.int .u64 n.value, .int .u64 n.blind] 24))
    go_wp2_with fail
    go_ret
    rw [HV.out]
    exact ⟨⟨_, _, rfl, HR.out⟩, HW2.out⟩
end Go.Proofs.YtdjcdejapkkcmaaGreatDoor
/- Appending to a row that is new since a world: the row and the worlds between, in one law. -/
