/- Contracts of the library, laid at this program. -/
import Derived.Shelf.Strings.Builder1
import Derived.Shelf.Strings.Builder2
import Derived.Shelf.Strings.OnBuilder
import Derived.Shelf.Small.Strs
import Derived.Shelf.Strconv.Itoa0
import Derived.Shelf.Strconv.Itoa1
import Derived.Shelf.LaysM
import Derived.Shelf.Strconv.Itoa2
import Derived.Shelf.Strconv.Itoa3
import Derived.Shelf.Strings.Search1
import Derived.Shelf.Strings.Search2
import Derived.Shelf.Strings.Search3
import Derived.Shelf.Strings.Shaped
import Derived.Shelf.Bits.Mul64
import Derived.Test.YtdjcdejapkkcmaaGreatDoorProg
import Derived.Test.YtdjcdejapkkcmaaGreatDoorM15
import Derived.Lib.AppendIntMem
import Derived.Test.YtdjcdejapkkcmaaGreatDoorM11
import Derived.Test.YtdjcdejapkkcmaaGreatDoorM13
import Derived.Test.YtdjcdejapkkcmaaGreatDoorM09
namespace Go.Proofs.YtdjcdejapkkcmaaGreatDoor
open Go.Shelf
def lays156_ren : Go.Shelf.Ren := ⟨fun | 156 => 157 | 165 => 234 | 166 => 235 | 169 => 206 | 240 => 317 | 241 => 318 | 276 => 377 | 277 => 378 | n => n, fun | 31 => 238 | 9 => 9 | 3 => 3 | 4 => 4 | 0 => 0 | 20 => 20 | 72 => 296 | 76 => 352 | 70 => 294 | 37 => 28 | 75 => 351 | 127 => 395 | 164 => 500 | 5 => 5 | 80 => 304 | n => n, fun | n => n⟩
theorem lays156 : Go.Proofs.Lays.n156 Tryz.prog lays156_ren := {
  mixed := by kernel_rfl
  f156 := Tryz.func157.trans (congrArg some (by kernel_rfl))
  f165 := Tryz.func234.trans (congrArg some (by kernel_rfl))
  f166 := Tryz.func235.trans (congrArg some (by kernel_rfl))
  f169 := Tryz.func206.trans (congrArg some (by kernel_rfl))
  f240 := Tryz.func317.trans (congrArg some (by kernel_rfl))
  f241 := Tryz.func318.trans (congrArg some (by kernel_rfl))
  f276 := Tryz.func377.trans (congrArg some (by kernel_rfl))
  f277 := Tryz.func378.trans (congrArg some (by kernel_rfl))
  t0 := Tryz.underlying0
  a0 := Tryz.isAgg0
  z0 := Tryz.sizeOf0
  v0 := Tryz.zeroValue0
  t3 := Tryz.underlying3
  a3 := Tryz.isAgg3
  z3 := Tryz.sizeOf3
  v3 := Tryz.zeroValue3
  t4 := Tryz.underlying4
  a4 := Tryz.isAgg4
  z4 := Tryz.sizeOf4
  v4 := Tryz.zeroValue4
  t9 := Tryz.underlying9
  a9 := Tryz.isAgg9
  z9 := Tryz.sizeOf9
  v9 := Tryz.zeroValue9
  t20 := Tryz.underlying20
  a20 := Tryz.isAgg20
  z20 := Tryz.sizeOf20
  v20 := Tryz.zeroValue20
  t31 := Tryz.underlying238
  a31 := Tryz.isAgg238
  z31 := Tryz.sizeOf238
  v31 := Tryz.zeroValue238
  t37 := Tryz.underlying28
  a37 := Tryz.isAgg28
  z37 := Tryz.sizeOf28
  v37 := Tryz.zeroValue28
  t70 := Tryz.underlying294
  a70 := Tryz.isAgg294
  z70 := Tryz.sizeOf294
  v70 := Tryz.zeroValue294
  t72 := Tryz.underlying296
  a72 := Tryz.isAgg296
  z72 := Tryz.sizeOf296
  v72 := Tryz.zeroValue296
  t75 := Tryz.underlying351
  a75 := Tryz.isAgg351
  z75 := Tryz.sizeOf351
  v75 := Tryz.zeroValue351
  t76 := Tryz.underlying352
  a76 := Tryz.isAgg352
  z76 := Tryz.sizeOf352
  v76 := Tryz.zeroValue352
  t127 := Tryz.underlying395
  a127 := Tryz.isAgg395
  z127 := Tryz.sizeOf395
  v127 := Tryz.zeroValue395
  t164 := Tryz.underlying500
  a164 := Tryz.isAgg500
  z164 := Tryz.sizeOf500
  v164 := Tryz.zeroValue500 }
theorem Builder_Extra_156 : Builder.Extra Tryz.prog lays156_ren := {
  sizeBuilder := by kernel_rfl
  liesBuilder := by kernel_rfl
  t5 := Tryz.underlying5
  a5 := Tryz.isAgg5
  z5 := Tryz.sizeOf5
  v5 := Tryz.zeroValue5
  infoByte := by kernel_rfl
  cellsByte := by kernel_rfl
  sizeByte := by kernel_rfl
  neB5 := by decide }
open Go.RowKit in
theorem strings_Join (bk o c : Nat) (xs : List ByteArray) (sep : ByteArray) (w : World) (hcells : ∀ (j : Nat) x, xs[j]? = some x → w.cell? ⟨bk, o + j, none⟩ = some (.string x)) (hbk : bk < w.heap.size) (hN : xs.length ≤ 140737488355328) (hcap : xs.length ≤ c) (hlen : (Lib.join (xs.map (·.data.toList)) sep.data.toList).length ≤ 140737488355328) :
    Calls Tryz.prog 157 #[.slice (some ⟨bk, o, none⟩) xs.length c, .string sep] w fun e w' => e = .returned (.string ⟨(Lib.join (xs.map (·.data.toList)) sep.data.toList).toArray⟩) ∧ Below w.heap.size w w' := Any.strings_Join lays156 Builder_Extra_156 bk o c xs sep w hcells hbk hN hcap hlen
def lays283_ren : Go.Shelf.Ren := ⟨fun | 283 => 313 | n => n, fun | 3 => 3 | 9 => 9 | 4 => 4 | n => n, fun | n => n⟩
theorem lays283 : Go.Proofs.Lays.n283 Tryz.prog lays283_ren := {
  mixed := by kernel_rfl
  f283 := Tryz.func313.trans (congrArg some (by kernel_rfl))
  t3 := Tryz.underlying3
  a3 := Tryz.isAgg3
  z3 := Tryz.sizeOf3
  v3 := Tryz.zeroValue3
  t4 := Tryz.underlying4
  a4 := Tryz.isAgg4
  z4 := Tryz.sizeOf4
  v4 := Tryz.zeroValue4
  t9 := Tryz.underlying9
  a9 := Tryz.isAgg9
  z9 := Tryz.sizeOf9
  v9 := Tryz.zeroValue9 }
open Go.Lib in
theorem internal_strconv_small (i : Nat) (h : i < 100) (w : World) :
    Calls Tryz.prog 313 #[.int .i64 i] w fun e w' => e = .returned (.string ⟨(Lib.decDigits i).toArray⟩) ∧ w' = w := Any.internal_strconv_small lays283 i h w
def laysM284_ren : Go.Shelf.Ren := ⟨fun | 284 => 314 | 129 => 321 | 317 => 373 | 318 => 374 | n => n, fun | 53 => 24 | 3 => 3 | 212 => 498 | 0 => 0 | 4 => 4 | 46 => 124 | 5 => 5 | 9 => 9 | n => n, fun | 17 => 2 | n => n⟩
theorem laysM284 : Go.Proofs.LaysM.n284 Tryz.prog laysM284_ren := {
  mixed := by kernel_rfl
  f129 := Tryz.func321.trans (congrArg some (by kernel_rfl))
  f284 := Tryz.func314.trans (congrArg some (by kernel_rfl))
  f317 := Tryz.func373.trans (congrArg some (by kernel_rfl))
  f318 := Tryz.func374.trans (congrArg some (by kernel_rfl))
  t0 := Tryz.underlying0
  a0 := Tryz.isAgg0
  z0 := Tryz.sizeOf0
  v0 := Tryz.zeroValue0
  t3 := Tryz.underlying3
  a3 := Tryz.isAgg3
  z3 := Tryz.sizeOf3
  v3 := Tryz.zeroValue3
  t4 := Tryz.underlying4
  a4 := Tryz.isAgg4
  z4 := Tryz.sizeOf4
  v4 := Tryz.zeroValue4
  t5 := Tryz.underlying5
  a5 := Tryz.isAgg5
  z5 := Tryz.sizeOf5
  v5 := Tryz.zeroValue5
  t9 := Tryz.underlying9
  a9 := Tryz.isAgg9
  z9 := Tryz.sizeOf9
  v9 := Tryz.zeroValue9
  t46 := Tryz.underlying124
  a46 := Tryz.isAgg124
  z46 := Tryz.sizeOf124
  v46 := Tryz.zeroValue124
  t53 := Tryz.underlying24
  a53 := Tryz.isAgg24
  z53 := Tryz.sizeOf24
  v53 := Tryz.zeroValue24
  t212 := Tryz.underlying498
  a212 := Tryz.isAgg498
  z212 := Tryz.sizeOf498
  v212 := Tryz.zeroValue498
  g17 := by kernel_rfl
  i0 := by kernel_rfl
  i3 := by kernel_rfl
  i4 := by kernel_rfl
  i5 := by kernel_rfl
  i9 := by kernel_rfl
  i46 := by kernel_rfl
  i53 := by kernel_rfl
  i212 := by kernel_rfl
  m17 := by kernel_rfl }
open Go.Lib in
theorem internal_strconv_numDigits (u : Nat) (h1 : 1 ≤ u) (h2 : u < 18446744073709551616) (w : World) (htab : Lib.TabIs Tryz.prog w "internal/strconv.uint64pow10" .u64 Lib.pow10Tab) :
    Calls Tryz.prog 314 #[.int .u64 u] w fun e w' => e = .returned (.int .i64 (Lib.nDigits u)) ∧ w' = w := Any.internal_strconv_numDigits laysM284 u h1 h2 w htab
def lays285_ren : Go.Shelf.Ren := ⟨fun | 285 => 315 | n => n, fun | 37 => 28 | 53 => 24 | 3 => 3 | 4 => 4 | 51 => 451 | 9 => 9 | 5 => 5 | 0 => 0 | n => n, fun | n => n⟩
theorem lays285 : Go.Proofs.Lays.n285 Tryz.prog lays285_ren := {
  mixed := by kernel_rfl
  f285 := Tryz.func315.trans (congrArg some (by kernel_rfl))
  t0 := Tryz.underlying0
  a0 := Tryz.isAgg0
  z0 := Tryz.sizeOf0
  v0 := Tryz.zeroValue0
  t3 := Tryz.underlying3
  a3 := Tryz.isAgg3
  z3 := Tryz.sizeOf3
  v3 := Tryz.zeroValue3
  t4 := Tryz.underlying4
  a4 := Tryz.isAgg4
  z4 := Tryz.sizeOf4
  v4 := Tryz.zeroValue4
  t5 := Tryz.underlying5
  a5 := Tryz.isAgg5
  z5 := Tryz.sizeOf5
  v5 := Tryz.zeroValue5
  t9 := Tryz.underlying9
  a9 := Tryz.isAgg9
  z9 := Tryz.sizeOf9
  v9 := Tryz.zeroValue9
  t37 := Tryz.underlying28
  a37 := Tryz.isAgg28
  z37 := Tryz.sizeOf28
  v37 := Tryz.zeroValue28
  t51 := Tryz.underlying451
  a51 := Tryz.isAgg451
  z51 := Tryz.sizeOf451
  v51 := Tryz.zeroValue451
  t53 := Tryz.underlying24
  a53 := Tryz.isAgg24
  z53 := Tryz.sizeOf24
  v53 := Tryz.zeroValue24 }
open Go.RowKit Go.Sort Go.Lib in
theorem internal_strconv_formatBase10 (blk off cap : Nat) (u : Nat) (d : Array UInt8) (w : World) (hH : Holds (fun (b : UInt8) => Value.int .u8 (b.toNat : Int)) w blk off d) (hu : u < 10 ^ d.size) (hu64 : u < 18446744073709551616) (hsz : d.size < 4611686018427387904) :
    Calls Tryz.prog 315 #[.slice (some ⟨blk, off, none⟩) d.size cap, .int .u64 u] w fun e w' =>
      e = .returned (.tuple #[]) ∧ ∃ (n v' : Nat) (dk : Array UInt8), w' = (putRow (fun (b : UInt8) => Value.int .u8 (b.toNat : Int)) w blk off dk).drewN n ∧ FmtInv d.size u 0 v' dk := Any.internal_strconv_formatBase10 lays285 blk off cap u d w hH hu hu64 hsz
def lays171_ren : Go.Shelf.Ren := ⟨fun | 171 => 155 | 243 => 232 | 246 => 312 | 283 => 313 | 284 => 314 | 285 => 315 | 286 => 316 | 129 => 321 | 317 => 373 | 318 => 374 | 319 => 375 | 320 => 376 | 337 => 422 | 338 => 423 | n => n, fun | 3 => 3 | 9 => 9 | 2 => 2 | 4 => 4 | 171 => 445 | 0 => 0 | 53 => 24 | 37 => 28 | 5 => 5 | 173 => 447 | 212 => 498 | 51 => 451 | 20 => 20 | 213 => 499 | 46 => 124 | 232 => 558 | 233 => 559 | n => n, fun | 17 => 2 | 18 => 5 | 19 => 6 | n => n⟩
theorem lays171 : Go.Proofs.Lays.n171 Tryz.prog lays171_ren := {
  mixed := by kernel_rfl
  f129 := Tryz.func321.trans (congrArg some (by kernel_rfl))
  f171 := Tryz.func155.trans (congrArg some (by kernel_rfl))
  f243 := Tryz.func232.trans (congrArg some (by kernel_rfl))
  f246 := Tryz.func312.trans (congrArg some (by kernel_rfl))
  f283 := Tryz.func313.trans (congrArg some (by kernel_rfl))
  f284 := Tryz.func314.trans (congrArg some (by kernel_rfl))
  f285 := Tryz.func315.trans (congrArg some (by kernel_rfl))
  f286 := Tryz.func316.trans (congrArg some (by kernel_rfl))
  f317 := Tryz.func373.trans (congrArg some (by kernel_rfl))
  f318 := Tryz.func374.trans (congrArg some (by kernel_rfl))
  f319 := Tryz.func375.trans (congrArg some (by kernel_rfl))
  f320 := Tryz.func376.trans (congrArg some (by kernel_rfl))
  f337 := Tryz.func422.trans (congrArg some (by kernel_rfl))
  f338 := Tryz.func423.trans (congrArg some (by kernel_rfl))
  t0 := Tryz.underlying0
  a0 := Tryz.isAgg0
  z0 := Tryz.sizeOf0
  v0 := Tryz.zeroValue0
  t2 := Tryz.underlying2
  a2 := Tryz.isAgg2
  z2 := Tryz.sizeOf2
  v2 := Tryz.zeroValue2
  t3 := Tryz.underlying3
  a3 := Tryz.isAgg3
  z3 := Tryz.sizeOf3
  v3 := Tryz.zeroValue3
  t4 := Tryz.underlying4
  a4 := Tryz.isAgg4
  z4 := Tryz.sizeOf4
  v4 := Tryz.zeroValue4
  t5 := Tryz.underlying5
  a5 := Tryz.isAgg5
  z5 := Tryz.sizeOf5
  v5 := Tryz.zeroValue5
  t9 := Tryz.underlying9
  a9 := Tryz.isAgg9
  z9 := Tryz.sizeOf9
  v9 := Tryz.zeroValue9
  t20 := Tryz.underlying20
  a20 := Tryz.isAgg20
  z20 := Tryz.sizeOf20
  v20 := Tryz.zeroValue20
  t37 := Tryz.underlying28
  a37 := Tryz.isAgg28
  z37 := Tryz.sizeOf28
  v37 := Tryz.zeroValue28
  t46 := Tryz.underlying124
  a46 := Tryz.isAgg124
  z46 := Tryz.sizeOf124
  v46 := Tryz.zeroValue124
  t51 := Tryz.underlying451
  a51 := Tryz.isAgg451
  z51 := Tryz.sizeOf451
  v51 := Tryz.zeroValue451
  t53 := Tryz.underlying24
  a53 := Tryz.isAgg24
  z53 := Tryz.sizeOf24
  v53 := Tryz.zeroValue24
  t171 := Tryz.underlying445
  a171 := Tryz.isAgg445
  z171 := Tryz.sizeOf445
  v171 := Tryz.zeroValue445
  t173 := Tryz.underlying447
  a173 := Tryz.isAgg447
  z173 := Tryz.sizeOf447
  v173 := Tryz.zeroValue447
  t212 := Tryz.underlying498
  a212 := Tryz.isAgg498
  z212 := Tryz.sizeOf498
  v212 := Tryz.zeroValue498
  t213 := Tryz.underlying499
  a213 := Tryz.isAgg499
  z213 := Tryz.sizeOf499
  t232 := Tryz.underlying558
  a232 := Tryz.isAgg558
  z232 := Tryz.sizeOf558
  v232 := Tryz.zeroValue558
  t233 := Tryz.underlying559
  a233 := Tryz.isAgg559
  z233 := Tryz.sizeOf559
  v233 := Tryz.zeroValue559
  g17 := by kernel_rfl
  g18 := by kernel_rfl
  g19 := by kernel_rfl }
open Go.RowKit Go.Sort Go.Lib in
theorem strconv_Itoa_small (i : Nat) (hi : i < 100) (w : World) :
    Calls Tryz.prog 155 #[.int .i64 i] w fun e w' => e = .returned (.string ⟨(Lib.decDigits i).toArray⟩) ∧ w' = w := Any.strconv_Itoa_small lays171 i hi w
end Go.Proofs.YtdjcdejapkkcmaaGreatDoor
/- The text of an address: some text, and its error. -/
namespace Go.Proofs.YtdjcdejapkkcmaaGreatDoor
open Go.ChangeShapes Go.WideShapes Go.ChangeAt Go.RowKit Go.Sort

/-- The table of the powers of ten is as Go lays it. -/
def TabAt (w : World) : Prop := Lib.TabIs Tryz.prog w "internal/strconv.uint64pow10" .u64 Lib.pow10Tab
theorem TabAt.keepB {w w' : World} (h : TabAt w) (hb : Below w.heap.size w w') : TabAt w' := Lib.tabBelow_of_tabIs h w' hb
theorem TabAt.keep {S : Nat → Prop} {w w' : World} (h : TabAt w) (hk : Kept S w w') (hS : S 2) : TabAt w' := by
  have hg : Tryz.prog.globalNamed "internal/strconv.uint64pow10" = some 2 := by kernel_rfl
  unfold TabAt Lib.TabIs World.var? at *
  rw [hg] at h ⊢
  simp only [Option.bind_some] at h ⊢
  have hlt : 2 < w.heap.size := by
    rcases Nat.lt_or_ge 2 w.heap.size with h' | h'
    · exact h'
    · rw [Array.getElem?_eq_none h'] at h; simp at h
  rw [hk.block _ hlt hS]
  exact h
theorem holds_zero0 (w : World) (T : TypeId) (nd : Nat) (hs : nd ≤ 24) : Holds (fun (b : UInt8) => Value.int .u8 (b.toNat : Int)) (w.alloc (.cells Lib.zeros24 T)) w.heap.size 0 (Array.replicate nd (0 : UInt8)) := fun j hj => by
  have hj' : j < nd := by simpa using hj
  refine ⟨?_, World.frozen?_alloc_new _ _ _ _⟩
  rw [World.cell?_alloc_new, Lib.zeros24_at _ (by omega), getElem!_pos _ j hj]
  simp
theorem fin_zero (w : World) (o : Obj) (dk : Array UInt8) (k : Nat) : Below w.heap.size w ((putRow (fun (b : UInt8) => Value.int .u8 (b.toNat : Int)) (w.alloc o) w.heap.size 0 dk).drewN k) := by
  rw [alloc_eq_grow]
  obtain ⟨os', _, e⟩ := putRow_grow_new (fun (b : UInt8) => Value.int .u8 (b.toNat : Int)) w #[o] w.heap.size 0 dk (Nat.le_refl _)
  rw [e]
  exact Lib.below_grow w.heap.size w (Nat.le_refl _) k os'
/-- The text of a number. -/
def decS (n : Int) : ByteArray := ⟨(Lib.decDigits n.toNat).toArray⟩
theorem decS_len {n : Int} (h : okU n) : (decS n).data.toList.length ≤ 20 := by
  obtain ⟨n0, n1⟩ := okU_in h
  unfold decS
  rw [List.toList_toArray, Lib.decDigits_length]
  by_cases h1 : 1 ≤ n.toNat
  · have := Lib.numDigits_eq n.toNat h1 (by omega)
    split at this <;> omega
  · rw [Lib.nDigits_small (by omega)]; omega
set_option maxRecDepth 100000 in
set_option maxHeartbeats 1000000 in
theorem formatUintIn_any (n : Int) (hn : okU n) (w : World) (htab : TabAt w) :
    Calls Tryz.prog 233 #[.int .u64 n, .int .i64 10] w fun e w' => e = .returned (.string (decS n)) ∧ Below w.heap.size w w' := by
  obtain ⟨n0, n1⟩ := okU_in hn
  obtain ⟨u, rfl⟩ : ∃ u : Nat, n = u := ⟨n.toNat, by omega⟩
  by_cases hs : u < 100
  · have hw : IntKind.i64.wrap (u : Int) = (u : Int) := by rw [IntKind.wrap_i64]; omega
    have hc : ((u : Int) < 100) = True := by simp; omega
    clear hn n0 n1
    go_enter Tryz.func233, Tryz.ntmps233
    go_wp2_with fail
    refine (internal_strconv_small u hs _).mono ?_
    rintro e w1 ⟨rfl, rfl⟩
    go_wp2_with fail
    go_ret
    exact ⟨rfl, Below.refl _ _⟩
  · have hu1 : 1 ≤ u := by omega
    have hu64 : u < 18446744073709551616 := by omega
    have hnd20 : Lib.nDigits u ≤ 20 := by have := Lib.numDigits_eq u hu1 hu64; split at this <;> omega
    have hal : Tryz.prog.arrayLen 445 = 24 := by kernel_rfl
    have hsl1 : ∀ W, (Instr.sliceAt 445 (.pointer (some ⟨w.heap.size, 0, none⟩)) none (some (.int .i64 (Lib.nDigits u : Int))) none).run Tryz.prog W = .ok (.slice (some ⟨w.heap.size, 0, none⟩) (Lib.nDigits u) 24) W := fun W => by
      rw [run_sliceAt_array_h W 445 ⟨w.heap.size, 0, none⟩ (by simp [Program.arrayLen, Program.elem, Tryz.underlying445]) .i64 (Lib.nDigits u : Int) (by omega) (by rw [hal]; omega)]
      go_simp
    have hH0 := holds_zero0 w 445 (Lib.nDigits u) (by omega)
    have hfmt := internal_strconv_formatBase10 w.heap.size 0 24 u (Array.replicate (Lib.nDigits u) 0) (w.alloc (.cells Lib.zeros24 445)) hH0 (by rw [Array.size_replicate]; exact Lib.lt_pow_nDigits u) hu64 (by rw [Array.size_replicate]; omega)
    rw [Array.size_replicate] at hfmt
    have HH0 := Lib.hid hH0
    have HT := Lib.hid (htab.keepB (bnew (Below.refl _ _) (.cells Lib.zeros24 445)))
    clear hH0 hal htab hn n0 n1 hnd20
    have hlt : ((u : Int) < 100) = False := by simp; omega
    go_enter Tryz.func233, Tryz.ntmps233
    go_wp2_with fail
    refine (internal_strconv_numDigits u hu1 hu64 _ HT.out).mono ?_
    rintro e w1 ⟨rfl, rfl⟩
    go_wp2_with fail
    refine hfmt.mono ?_
    rintro e w1 ⟨rfl, k, v', dk, rfl, hF⟩
    have hcv : (convert 28 9 (.slice (some ⟨w.heap.size, 0, none⟩) (Lib.nDigits u) 24)).run Tryz.prog ((putRow (fun (b : UInt8) => Value.int .u8 (b.toNat : Int)) (w.alloc (.cells Lib.zeros24 445)) w.heap.size 0 dk).drewN k) = .ok (.string ⟨(Lib.decDigits u).toArray⟩) ((putRow (fun (b : UInt8) => Value.int .u8 (b.toNat : Int)) (w.alloc (.cells Lib.zeros24 445)) w.heap.size 0 dk).drewN k) := by
      have h := run_convert_bytes_back (P := Tryz.prog) ((putRow (fun (b : UInt8) => Value.int .u8 (b.toNat : Int)) (w.alloc (.cells Lib.zeros24 445)) w.heap.size 0 dk).drewN k) 28 9 5 ⟨w.heap.size, 0, none⟩ 24 (Lib.decDigits u) Tryz.underlying28 Tryz.underlying5 Tryz.underlying9 (fun j hj => by
        rw [Lib.row_is_numeral hF j hj, Lib.add_plain, World.cell?_drewN]
        exact cell?_putRow (fun (b : UInt8) => Value.int .u8 (b.toNat : Int)) _ w.heap.size 0 _ dk HH0.out (by rw [hF.size, Array.size_replicate]) j (by rw [hF.size]; rw [Lib.decDigits_length] at hj; exact hj))
      rw [Lib.decDigits_length] at h
      exact h
    have HB := Lib.hid (fin_zero w (.cells Lib.zeros24 445) dk k)
    go_wp2_with fail
    go_ret
    exact ⟨rfl, HB.out⟩
theorem formatUint_any (n : Int) (hn : okU n) (w : World) (htab : TabAt w) :
    Calls Tryz.prog 156 #[.int .u64 n, .int .i64 10] w fun e w' => e = .returned (.string (decS n)) ∧ Below w.heap.size w w' := by
  have HN := Lib.hid hn
  have HT := Lib.hid htab
  clear hn htab
  go_enter Tryz.func156, Tryz.ntmps156
  go_wp2_with fail
  refine (formatUintIn_any n HN.out _ HT.out).mono ?_
  rintro e w1 ⟨rfl, hb⟩
  go_wp2_with fail
  go_ret
  exact ⟨rfl, hb⟩
structure AdrOk (a : AddrM) : Prop where
  num : okI a.num
  own : okU a.own
  p0 : okU a.p0
  p1 : okU a.p1
def adrB (a : AddrM) : Bool := decide (0 ≤ a.num ∧ a.num < 4) && (decide (a.own < 18446744069414584321) && groupB a.p0 a.p1)
set_option maxRecDepth 100000 in
theorem keysValid_any (w : World) (a : AddrM) : Calls Tryz.prog 154 #[.agg (adC a)] w fun e w' => e = .returned (.bool (adrB a)) ∧ Below w.heap.size w w' := by
  have hx := box_new w (.cells (adC a) 80)
  have HX := Lib.hid hx
  have HB := Lib.hid (bnew (Below.refl w.heap.size w) (.cells (adC a) 80))
  have HU : Hid (adrB a = (decide (0 ≤ a.num ∧ a.num < 4) && (decide (a.own < 18446744069414584321) && groupB a.p0 a.p1))) := rfl
  obtain ⟨x0, x1⟩ := box_cells hx
  clear hx
  go_enter Tryz.func154, Tryz.ntmps154
  go_wp2_with fail
  refine (isNumber_any _ a.num).mono ?_
  rintro e w1 ⟨rfl, hb1⟩
  have HB1 := Lib.hid (bnext HB.out hb1)
  have HX1 := Lib.hid (box_after hb1 HX.out)
  clear x0 x1 hb1
  obtain ⟨x0, x1⟩ := box_cells HX1.out
  cases hn : decide (0 ≤ a.num ∧ a.num < 4) with
  | false =>
    have HF : Hid (adrB a = false) := by show _ = _; rw [HU.out, hn]; rfl
    go_wp2_with fail
    go_ret
    exact ⟨ret_bool HF.out.symm, HB1.out⟩
  | true =>
    by_cases ho : a.own < 18446744069414584321
    · have HF : Hid (adrB a = groupB a.p0 a.p1) := by show _ = _; rw [HU.out, hn, decide_eq_true ho]; rfl
      clear hn
      go_wp2_with fail
      refine (groupValid_any _ a.p0 a.p1).mono ?_
      rintro e w2 ⟨rfl, hb2⟩
      go_wp2_with fail
      go_ret
      exact ⟨ret_bool HF.out.symm, bnext HB1.out hb2⟩
    · have HF : Hid (adrB a = false) := by show _ = _; rw [HU.out, hn, decide_eq_false ho]; rfl
      clear hn
      go_wp2_with fail
      go_ret
      exact ⟨ret_bool HF.out.symm, HB1.out⟩
/-- The error of an address. -/
def fmtE (a : AddrM) : Int := if adrB a = true then 0 else 1
theorem join4 (w : World) (s0 s1 s2 s3 : ByteArray) (h : ([s0, s1, s2, s3].map (fun s : ByteArray => s.data.toList.length)).sum ≤ 80) (T : TypeId) :
    Calls Tryz.prog 157 #[.slice (some ⟨w.heap.size, 0, none⟩) 4 4, .string ⟨#[58]⟩] (w.alloc (.cells #[.string s0, .string s1, .string s2, .string s3] T)) fun e w' => (∃ s : ByteArray, e = .returned (.string s) ∧ s.size ≤ 100) ∧ Below w.heap.size w w' := by
  have hlen : (Lib.join ([s0, s1, s2, s3].map (·.data.toList)) (⟨#[58]⟩ : ByteArray).data.toList).length ≤ 100 := by
    simp only [List.map_cons, List.map_nil, List.sum_cons, List.sum_nil] at h
    rw [List.map_cons, Lib.join_length]
    unfold Lib.lens
    simp only [List.map_cons, List.map_nil, List.sum_cons, List.sum_nil, List.length_cons, List.length_nil]
    omega
  refine (strings_Join w.heap.size 0 4 [s0, s1, s2, s3] ⟨#[58]⟩ (w.alloc (.cells #[.string s0, .string s1, .string s2, .string s3] T)) (fun j x hj => ?_) (by rw [World.size_alloc]; omega) (by simp) (by simp) ?_).mono ?_
  · rw [World.cell?_alloc_new]
    match j with
    | 0 => simp_all
    | 1 => simp_all
    | 2 => simp_all
    | 3 => simp_all
    | j + 4 => simp at hj
  · omega
  · rintro e w' ⟨rfl, hb⟩
    exact ⟨⟨_, rfl, by show (List.toArray _).size ≤ 100; rw [List.size_toArray]; exact hlen⟩, bnext (bnew (Below.refl _ _) _) hb⟩
set_option maxRecDepth 100000 in
set_option maxHeartbeats 1000000 in
theorem format_any (w : World) (htab : TabAt w) (a : AddrM) (ha : AdrOk a) : Calls Tryz.prog 102 #[.agg (adC a)] w fun e w' => (∃ s, e = .returned (.tuple #[.string s, .int .i64 (fmtE a)])) ∧ Below w.heap.size w w' := by
  have hx := box_new w (.cells (adC a) 80)
  have HX := Lib.hid hx
  have HA := Lib.hid ha
  have HB := Lib.hid (bnew (Below.refl w.heap.size w) (.cells (adC a) 80))
  have HT := Lib.hid (htab.keepB (bnew (Below.refl w.heap.size w) (.cells (adC a) 80)))
  clear htab ha
  obtain ⟨x0, x1⟩ := box_cells hx
  clear hx
  go_enter Tryz.func102, Tryz.ntmps102
  go_wp2_with fail
  refine (keysValid_any _ a).mono ?_
  rintro e w1 ⟨rfl, hb1⟩
  have HB1 := Lib.hid (bnext HB.out hb1)
  have HX1 := Lib.hid (box_after hb1 HX.out)
  have HT1 := Lib.hid (HT.out.keepB hb1)
  clear x0 x1 hb1
  cases hv : adrB a with
  | false =>
    have HF : Hid (fmtE a = 1) := by show _ = _; unfold fmtE; rw [hv]; rfl
    go_wp2_with fail
    rw [HF.out]
    go_ret2
    exact ⟨⟨_, rfl⟩, HB1.out⟩
  | true =>
    have HF : Hid (fmtE a = 0) := by show _ = _; unfold fmtE; rw [hv]; rfl
    have x0 := box_regrown HX1.out
    have HNI : Hid (0 ≤ a.num ∧ a.num < 100) := by
      show _ ∧ _
      unfold adrB at hv
      simp only [Bool.and_eq_true, decide_eq_true_eq] at hv
      omega
    clear hv
    obtain ⟨nn, hnn⟩ : ∃ nn : Nat, a.num = nn := ⟨a.num.toNat, by have := HNI.out.1; omega⟩
    have hcI : ∀ (d : Nat) (os : Array Obj), Calls Tryz.prog 155 #[.int .i64 a.num] (grow (redrawn w1 d) os) fun e w' => e = .returned (.string (decS a.num)) ∧ Below (grow (redrawn w1 d) os).heap.size (grow (redrawn w1 d) os) w' := fun d os => by
      have := HNI.out
      rw [hnn]
      refine (strconv_Itoa_small nn (by omega) _).mono ?_
      rintro e w' ⟨rfl, rfl⟩
      exact ⟨rfl, Below.refl _ _⟩
    have hcF : ∀ (n : Int) (d : Nat) (os : Array Obj), okU n → Calls Tryz.prog 156 #[.int .u64 n, .int .i64 10] (grow (redrawn w1 d) os) fun e w' => e = .returned (.string (decS n)) ∧ Below (grow (redrawn w1 d) os).heap.size (grow (redrawn w1 d) os) w' := fun n d os hn => formatUint_any n hn _ (HT1.out.keepB (below_regrown w1 d os))
    clear hnn
    go_wp2_with fail
    refine wp_region_quiet_tail 14 (by kernel_rfl) (by kernel_rfl) ?_
    simp only [List.take_succ_cons, List.take_zero, List.drop_succ_cons, List.drop_zero]
    repeat (quiet_step (first
        | with_reducible exact Calls.regrown_of (hcI _ _)
        | with_reducible exact Calls.regrown_of (hcF a.own _ _ HA.out.own)
        | with_reducible exact Calls.regrown_of (hcF a.p0 _ _ HA.out.p0)
        | with_reducible exact Calls.regrown_of (hcF a.p1 _ _ HA.out.p1)))
    refine wpQuiet_nil ?_
    intro wq hw'
    obtain ⟨⟨dq, osq⟩, hw''⟩ := hw'
    have hbq := below_regrown w1 dq osq
    rw [← hw''] at hbq
    clear hw'' x0 hcI hcF
    have HBQ := Lib.hid (bnext HB1.out hbq)
    have hl : ∀ n : Int, okU n → (decS n).data.toList.length ≤ 20 := fun n hn => decS_len hn
    have HS := Lib.hid (show ([decS a.num, decS a.own, decS a.p0, decS a.p1].map (fun s : ByteArray => s.data.toList.length)).sum ≤ 80 from by
      have h0 : okU a.num := okU_of HNI.out.1 (by have := HNI.out.2; omega)
      have := hl _ h0; have := hl _ HA.out.own; have := hl _ HA.out.p0; have := hl _ HA.out.p1
      simp only [List.map_cons, List.map_nil, List.sum_cons, List.sum_nil]
      omega)
    clear hl hbq
    generalize decS a.num = s0 at *
    generalize decS a.own = s1 at *
    generalize decS a.p0 = s2 at *
    generalize decS a.p1 = s3 at *
    go_wp2_with fail
    refine (join4 wq s0 s1 s2 s3 HS.out _).mono ?_
    rintro e w2 ⟨⟨sj, rfl, hsj⟩, hb2⟩
    have HB2 := Lib.hid (bnext HBQ.out hb2)
    clear hb2
    have hsz : ¬ 9223372036854775807 < 5 + sj.size := by omega
    go_wp2_with fail
    rw [HF.out]
    go_ret2
    exact ⟨⟨_, rfl⟩, HB2.out⟩
end Go.Proofs.YtdjcdejapkkcmaaGreatDoor
/- The builder: the balance of a request; payments; notes to be spent. -/
namespace Go.Proofs.YtdjcdejapkkcmaaGreatDoor
open Go.ChangeShapes Go.WideShapes Go.ChangeAt Go.RowKit Go.Sort

abbrev reqC (q : ReqM) (ia : Option Addr) (ic : Nat) (oa : Option Addr) (oc : Nat) : Array Value := #[.int .u64 q.anchor, .slice ia q.ins.length ic, .slice oa q.outs.length oc, .int .u64 q.dep, .int .u64 q.wd, .int .u64 q.fee, .int .u64 q.acc, .int .u64 q.nonce, .int .u64 q.secret, .int .i64 q.exp, .int .u64 q.seed]
def sumF (x : Int) (l : List Int) : Nat → Int
  | 0 => x
  | k + 1 => IntKind.u64.wrap (sumF x l k + l.getD k 0)
theorem sumF_step {α : Type} (x : Int) (l : List α) (f : α → Int) (k : Nat) (h : k < l.length) : sumF x (l.map f) (k + 1) = IntKind.u64.wrap (sumF x (l.map f) k + f l[k]) := by
  show IntKind.u64.wrap (sumF x (l.map f) k + _) = _
  rw [getD_at _ _ k (by simpa using h)]; simp
def balIn (q : ReqM) : Int := sumF q.dep (q.ins.map fun i => i.note.value) q.ins.length
def balOut (q : ReqM) : Int := sumF (IntKind.u64.wrap (q.wd + q.fee)) (q.outs.map fun i => i.value) q.outs.length
set_option maxRecDepth 100000 in
set_option maxHeartbeats 1000000 in
theorem balanced_any (S : Nat → Prop) (w : World) (q : ReqM) (ia oa : Option Addr) (ic oc : Nat) (h : ReqAt S w q ia ic oa oc) :
    Calls Tryz.prog 61 #[.agg (reqC q ia ic oa oc)] w fun e w' => e = .returned (.bool (balIn q == balOut q)) ∧ Below w.heap.size w w' := by
  have g1 := (sliceR.lens h.ins).2
  have g2 := (sliceR.lens h.outs).2
  unfold maxLen at g1 g2
  have hx := box_new w (.cells (reqC q ia ic oa oc) 39)
  have hb0 := bnew (Below.refl w.heap.size w) (.cells (reqC q ia ic oa oc) 39)
  have H := Lib.hid (h.keepB hb0)
  have HX := Lib.hid hx
  have HB := Lib.hid hb0
  have HI0 : Hid (q.dep = sumF q.dep (q.ins.map fun i => i.note.value) 0) := rfl
  have HO0 : Hid (IntKind.u64.wrap (q.wd + q.fee) = sumF (IntKind.u64.wrap (q.wd + q.fee)) (q.outs.map fun i => i.value) 0) := rfl
  have HIN : Hid (balIn q = sumF q.dep (q.ins.map fun i => i.note.value) q.ins.length) := rfl
  have HON : Hid (balOut q = sumF (IntKind.u64.wrap (q.wd + q.fee)) (q.outs.map fun i => i.value) q.outs.length) := rfl
  clear h hb0
  go_enter Tryz.func61, Tryz.ntmps61
  go_upto_region 1 with (fail)
  generalize w.alloc (.cells (reqC q ia ic oa oc) 39) = W at *
  obtain ⟨x0, x1⟩ := box_cells hx
  clear hx
  go_quiet (fail)
  obtain ⟨W2, hW2, HB2⟩ : ∃ y, W.drewN nq = y ∧ Hid (Below W.heap.size W y) := ⟨_, rfl, bdrewN (Below.refl _ _) nq⟩
  rw [hW2]
  have H2 := Lib.hid (H.out.keepB HB2.out)
  have HX2 := Lib.hid (box_after HB2.out HX.out)
  have HBW := Lib.hid (bnext HB.out HB2.out)
  clear hW2 x0 x1 H HX HB HB2
  obtain ⟨x0, x1⟩ := box_cells HX2.out
  go_wp2_with fail
  go_loopw [3, 19] (fun vs vi wr => ∃ k : Nat, k ≤ q.ins.length ∧ vi = .int .i64 k ∧ vs = .int .u64 (sumF q.dep (q.ins.map fun i => i.note.value) k) ∧ Below W2.heap.size W2 wr) (fun _ vi _ => q.ins.length - (intOf vi).toNat)
  case atStart => exact ⟨0, Nat.zero_le _, rfl, by rw [← HI0.out], Below.refl _ _⟩
  case round =>
    obtain ⟨k, hk, rfl, rfl, hbr⟩ := hrel
    by_cases hlt : k < q.ins.length
    · obtain ⟨b, off, pa, pc, rfl, hbl, hok, hpa, c0, c1, c2, c3, c4, c5, c6, c7, c8⟩ := spents_at (spentsR.keepB H2.out.ins hbr) k hlt
      have HS : Hid (sumF q.dep (q.ins.map fun i => i.note.value) (k + 1) = IntKind.u64.wrap (sumF q.dep (q.ins.map fun i => i.note.value) k + q.ins[k].note.value)) := sumF_step q.dep q.ins (fun i => i.note.value) k hlt
      clear hpa
      generalize q.ins[k] = i at *
      generalize sumF q.dep (q.ins.map fun i => i.note.value) k = m at *
      have hbn := bnew (Below.refl wr.heap.size wr) (.cells #[.int .u64 i.note.value, .int .u64 i.note.owner, .int .u64 i.note.rho, .int .u64 i.note.blind, .int .u64 i.key, .int .i64 i.number, .int .i64 i.position, .slice pa i.path.length pc, .bool i.dummy] 58)
      go_wp2_with fail
      go_roundw
      case rel => exact ⟨k + 1, by omega, by go_num, by rw [HS.out], bnext hbr hbn⟩
      case measure => simp [intOf]; omega
    · obtain rfl : k = q.ins.length := by omega
      obtain ⟨sI, hsI⟩ : ∃ y, sumF q.dep (q.ins.map fun i => i.note.value) q.ins.length = y := ⟨_, rfl⟩
      rw [hsI] at HIN ⊢
      have HX3 := Lib.hid (box_after hbr HX2.out)
      clear hsI x0 x1
      obtain ⟨x0, x1⟩ := box_cells HX3.out
      obtain ⟨wo, hwo⟩ : ∃ y, y = wr := ⟨_, rfl⟩
      subst hwo
      go_wp2_with fail
      go_loopw [4, 32] (fun vs vi wr => ∃ k : Nat, k ≤ q.outs.length ∧ vi = .int .i64 k ∧ vs = .int .u64 (sumF (IntKind.u64.wrap (q.wd + q.fee)) (q.outs.map fun i => i.value) k) ∧ Below wo.heap.size wo wr) (fun _ vi _ => q.outs.length - (intOf vi).toNat)
      case atStart => exact ⟨0, Nat.zero_le _, rfl, by rw [← HO0.out], Below.refl _ _⟩
      case round =>
        obtain ⟨j, hj, rfl, rfl, hbs⟩ := hrel
        by_cases hjl : j < q.outs.length
        · obtain ⟨b, off, rfl, hbl, hok, c0, c1, c2, c3, c4⟩ := pays_at (paysR.keepB (paysR.keepB H2.out.outs hbr) hbs) j hjl
          have HS : Hid (sumF (IntKind.u64.wrap (q.wd + q.fee)) (q.outs.map fun i => i.value) (j + 1) = IntKind.u64.wrap (sumF (IntKind.u64.wrap (q.wd + q.fee)) (q.outs.map fun i => i.value) j + q.outs[j].value)) := sumF_step _ q.outs (fun i => i.value) j hjl
          generalize q.outs[j] = i at *
          generalize sumF (IntKind.u64.wrap (q.wd + q.fee)) (q.outs.map fun i => i.value) j = m at *
          have hbn := bnew (Below.refl wr.heap.size wr) (.cells #[.int .i64 i.adr.num, .int .u64 i.adr.own, .int .u64 i.adr.p0, .int .u64 i.adr.p1, .int .u64 i.value] 84)
          go_wp2_with fail
          go_roundw
          case rel => exact ⟨j + 1, by omega, by go_num, by rw [HS.out], bnext hbs hbn⟩
          case measure => simp [intOf]; omega
        · obtain rfl : j = q.outs.length := by omega
          obtain ⟨sO, hsO⟩ : ∃ y, sumF (IntKind.u64.wrap (q.wd + q.fee)) (q.outs.map fun i => i.value) q.outs.length = y := ⟨_, rfl⟩
          rw [hsO] at HON ⊢
          clear hsO
          go_wp2_with fail
          go_ret
          exact ⟨ret_bool (by rw [HIN.out, HON.out]), bnext (bnext HBW.out hbr) hbs⟩
def payB (p : PayM) : Bool := adrB p.adr && decide (p.value ≤ 4294967295)
theorem PayOk.adr {p : PayM} (h : PayOk p) : AdrOk p.adr := ⟨h.num, h.own, h.p0, h.p1⟩
theorem fmtE_true {a : AddrM} (h : adrB a = true) : fmtE a = 0 := by unfold fmtE; rw [h]; rfl
theorem fmtE_false {a : AddrM} (h : adrB a = false) : fmtE a = 1 := by unfold fmtE; rw [h]; rfl
set_option maxRecDepth 100000 in
set_option maxHeartbeats 1000000 in
theorem bvalidOuts_any (S : Nat → Prop) (w : World) (htab : TabAt w) (a : Option Addr) (cap : Nat) (l : List PayM) (h : paysR.rel S w [.slice a l.length cap] l) :
    Calls Tryz.prog 59 #[.slice a l.length cap] w fun e w' => e = .returned (.bool (l.all payB)) ∧ Below w.heap.size w w' := by
  have g1 := (sliceR.lens h).2
  unfold maxLen at g1
  have H := Lib.hid h
  have HT := Lib.hid htab
  have HU : Hid (∀ p : PayM, payB p = (adrB p.adr && decide (p.value ≤ 4294967295))) := fun _ => rfl
  clear h htab
  go_enter Tryz.func59, Tryz.ntmps59
  go_wp2_with fail
  go_loopw [9] (fun vi wr => ∃ k : Nat, k ≤ l.length ∧ vi = .int .i64 k ∧ Hid ((l.take k).all payB = true) ∧ Below w.heap.size w wr) (fun vi _ => l.length - (intOf vi).toNat)
  case atStart => exact ⟨0, Nat.zero_le _, rfl, rfl, Below.refl _ _⟩
  case round =>
    obtain ⟨k, hk, rfl, hall, hbr⟩ := hrel
    by_cases hlt : k < l.length
    · obtain ⟨b, off, rfl, hbl, hok, c0, c1, c2, c3, c4⟩ := pays_at (paysR.keepB H.out hbr) k hlt
      have hno := Lib.hid (all_false payB l k hlt)
      have hyes := Lib.hid (all_take_succ payB l k hlt)
      generalize l[k] = i at *
      have hbn := bnew (Below.refl wr.heap.size wr) (.cells #[.int .i64 i.adr.num, .int .u64 i.adr.own, .int .u64 i.adr.p0, .int .u64 i.adr.p1, .int .u64 i.value] 84)
      have HIN := Lib.hid (box_new wr (.cells #[.int .i64 i.adr.num, .int .u64 i.adr.own, .int .u64 i.adr.p0, .int .u64 i.adr.p1, .int .u64 i.value] 84))
      have HBN := Lib.hid (bnext hbr hbn)
      have HOK := Lib.hid hok.adr
      clear hok hbn
      go_wp2_with fail
      refine (format_any _ (HT.out.keepB HBN.out) i.adr HOK.out).mono ?_
      rintro e w1 ⟨⟨sx, rfl⟩, hb1⟩
      have hbw := bnext HBN.out hb1
      clear c0 c1 c2 c3 c4
      obtain ⟨x0, x1⟩ := box_cells (box_after hb1 HIN.out)
      cases ha : adrB i.adr with
      | false =>
        have HF : Hid (l.all payB = false) := by show _ = _; exact hno.out (by rw [HU.out, ha]; rfl)
        rw [fmtE_false ha]
        go_wp2_with fail
        go_ret
        exact ⟨ret_bool HF.out.symm, hbw⟩
      | true =>
        rw [fmtE_true ha]
        by_cases hv : i.value ≤ 4294967295
        · have HY : Hid ((l.take (k + 1)).all payB = true) := by
            show _ = _
            rw [hyes.out, hall.out, HU.out, ha, decide_eq_true hv]; rfl
          go_wp2_with fail
          go_roundw
          case rel => exact ⟨k + 1, by omega, by go_num, HY, hbw⟩
          case measure => simp [intOf]; omega
        · have HF : Hid (l.all payB = false) := by show _ = _; exact hno.out (by rw [HU.out, decide_eq_false hv]; simp)
          go_wp2_with fail
          go_ret
          exact ⟨ret_bool HF.out.symm, hbw⟩
    · obtain rfl : k = l.length := by omega
      have HF : Hid (l.all payB = true) := by have := hall.out; rw [List.take_length] at this; exact this
      go_wp2_with fail
      go_ret
      exact ⟨ret_bool HF.out.symm, hbr⟩
end Go.Proofs.YtdjcdejapkkcmaaGreatDoor
/- The builder: notes to be spent. -/
namespace Go.Proofs.YtdjcdejapkkcmaaGreatDoor
open Go.ChangeShapes Go.WideShapes Go.ChangeAt Go.RowKit Go.Sort

def inB (D : Nat) (i : SpentM) : Bool :=
  noteB i.note && (elemsB [i.key] && (decide (0 ≤ i.number ∧ i.number < 4) && (decide (i.path.length = D) && (elemsB i.path && decide (0 ≤ i.position ∧ i.position < 2 ^ D)))))
def sameK (i o : SpentM) : Bool := o.key == i.key && o.note.rho == i.note.rho
/-- Note k has another mark than those ahead of it. -/
def freshB (l : List SpentM) (i : SpentM) (k : Nat) : Bool := allUp (fun j => match l[j]? with | some o => !sameK i o | none => true) k
def insF (D : Nat) (l : List SpentM) (k : Nat) : Bool := match l[k]? with | some i => inB D i && freshB l i k | none => true
def insOk (D : Nat) (l : List SpentM) : Bool := allUp (insF D l) l.length
theorem insF_at (D : Nat) (l : List SpentM) (k : Nat) (h : k < l.length) : insF D l k = (inB D l[k] && freshB l l[k] k) := by
  unfold insF; rw [List.getElem?_eq_getElem h]
theorem fresh_no {l : List SpentM} {i : SpentM} {k j : Nat} (h : j < l.length) (hj : j < k) (hs : sameK i l[j] = true) : freshB l i k = false :=
  allUp_false (k := j) (by simp only [List.getElem?_eq_getElem h, hs, Bool.not_true]) hj
theorem fresh_step {l : List SpentM} {i : SpentM} {j : Nat} (h : j < l.length) (hf : freshB l i j = true) (hs : sameK i l[j] = false) : freshB l i (j + 1) = true :=
  allUp_step hf (by simp only [List.getElem?_eq_getElem h, hs, Bool.not_false])
set_option maxRecDepth 100000 in
set_option maxHeartbeats 8000000 in
theorem validIns_any (S : Nat → Prop) (w : World) (D : Nat) (hD0 : 1 ≤ D) (hD1 : D ≤ 12) (a : Option Addr) (cap : Nat) (l : List SpentM) (h : spentsR.rel S w [.slice a l.length cap] l) :
    Calls Tryz.prog 58 #[.slice a l.length cap, .int .i64 D] w fun e w' => e = .returned (.bool (insOk D l)) ∧ Below w.heap.size w w' := by
  have g1 := (sliceR.lens h).2
  unfold maxLen at g1
  have H := Lib.hid h
  have D0 : (1 : Int) ≤ (D : Int) := by omega
  have D1 : (D : Int) ≤ 12 := by omega
  obtain ⟨e1, e2, e3⟩ := pow12 ⟨D, by omega⟩
  simp only at e1 e2 e3
  have HI : Hid (∀ i : SpentM, inB D i = (noteB i.note && (elemsB [i.key] && (decide (0 ≤ i.number ∧ i.number < 4) && (decide (i.path.length = D) && (elemsB i.path && decide (0 ≤ i.position ∧ i.position < 2 ^ D))))))) := fun _ => rfl
  have HIO : Hid (∀ k, insF D l k = false → k < l.length → insOk D l = false) := fun k h1 h2 => allUp_false h1 h2
  have HIY : Hid (insOk D l = allUp (insF D l) l.length) := rfl
  have HST : Hid (∀ k, allUp (insF D l) k = true → insF D l k = true → allUp (insF D l) (k + 1) = true) := fun k h1 h2 => allUp_step h1 h2
  have HAT := Lib.hid (insF_at D l)
  generalize hP2 : (2 : Int) ^ D = P2 at *
  clear h
  go_enter Tryz.func58, Tryz.ntmps58
  go_wp2_with fail
  go_loopw [11] (fun vi wr => ∃ k : Nat, k ≤ l.length ∧ vi = .int .i64 k ∧ Hid (allUp (insF D l) k = true) ∧ Below w.heap.size w wr) (fun vi _ => l.length - (intOf vi).toNat)
  case atStart => exact ⟨0, Nat.zero_le _, rfl, rfl, Below.refl _ _⟩
  case round =>
    obtain ⟨k, hk, rfl, hall, hbr⟩ := hrel
    by_cases hlt : k < l.length
    · obtain ⟨b, off, pa, pc, rfl, hbl, hok, hpa, c0, c1, c2, c3, c4, c5, c6, c7, c8⟩ := spents_at (spentsR.keepB H.out hbr) k hlt
      have hat := HAT.out k hlt
      have HNO : Hid (∀ c, inB D l[k] = false ∨ freshB l l[k] k = false → c = insOk D l → c = false) := fun c h1 h2 => by
        rw [h2]
        refine HIO.out k ?_ hlt
        rw [hat]
        rcases h1 with h1 | h1 <;> rw [h1] <;> simp
      have HYES : Hid (inB D l[k] = true → freshB l l[k] k = true → allUp (insF D l) (k + 1) = true) := fun h1 h2 => HST.out k hall.out (by rw [hat, h1, h2]; rfl)
      clear hat
      obtain ⟨i, hi⟩ : ∃ x, l[k] = x := ⟨_, rfl⟩
      rw [hi] at hok hpa c0 c1 c2 c3 c4 c5 c6 c7 c8 HNO HYES
      clear hi
      have hbn := bnew (Below.refl wr.heap.size wr) (.cells #[.int .u64 i.note.value, .int .u64 i.note.owner, .int .u64 i.note.rho, .int .u64 i.note.blind, .int .u64 i.key, .int .i64 i.number, .int .i64 i.position, .slice pa i.path.length pc, .bool i.dummy] 58)
      have HIN := Lib.hid (box_new wr (.cells #[.int .u64 i.note.value, .int .u64 i.note.owner, .int .u64 i.note.rho, .int .u64 i.note.blind, .int .u64 i.key, .int .i64 i.number, .int .i64 i.position, .slice pa i.path.length pc, .bool i.dummy] 58))
      have HBN := Lib.hid (bnext hbr hbn)
      have HPA := Lib.hid (numsR.keepB hpa hbn)
      have HOK := Lib.hid hok
      have hnlen := (sliceR.lens hpa).2
      unfold maxLen at hnlen
      clear hok hbn hpa
      go_wp2_with fail
      refine (noteValid_any _ i.note).mono ?_
      rintro e w1 ⟨rfl, hb1⟩
      have HX1 := Lib.hid (box_after hb1 HIN.out)
      have HB1 := Lib.hid (bnext HBN.out hb1)
      have HPA1 := Lib.hid (numsR.keepB HPA.out hb1)
      clear c0 c1 c2 c3 c4 c5 c6 c7 c8 hb1
      obtain ⟨x0, x1⟩ := box_cells HX1.out
      cases hv : noteB i.note with
      | false =>
        have HF : Hid (insOk D l = false) := HNO.out _ (.inl (by rw [HI.out, hv]; rfl)) rfl
        go_wp2_with fail
        go_ret
        exact ⟨ret_bool HF.out.symm, HB1.out⟩
      | true =>
        have HK := Lib.hid (nums1 w1 24 HOK.out.key)
        go_wp2_with fail
        refine (belements_any (fun _ => True) _ _ 1 [i.key] HK.out).mono ?_
        rintro e w2 ⟨rfl, hb2⟩
        have hbn := bnew (Below.refl w1.heap.size w1) (.cells #[.int .u64 i.key] 24)
        have HX2 := Lib.hid (box_after hb2 (box_after hbn HX1.out))
        have HB2 := Lib.hid (bnext (bnext HB1.out hbn) hb2)
        have HPA2 := Lib.hid (numsR.keepB (numsR.keepB HPA1.out hbn) hb2)
        clear x0 x1 hbn hb2 HK
        obtain ⟨x0, x1⟩ := box_cells HX2.out
        cases he : elemsB [i.key] with
        | false =>
          have HF : Hid (insOk D l = false) := HNO.out _ (.inl (by rw [HI.out, hv, he]; rfl)) rfl
          go_wp2_with fail
          go_ret
          exact ⟨ret_bool HF.out.symm, HB2.out⟩
        | true =>
          by_cases hn : 0 ≤ i.number ∧ i.number < 4
          · obtain ⟨n0, n1⟩ := hn
            have HN : Hid (decide (0 ≤ i.number ∧ i.number < 4) = true) := decide_eq_true ⟨n0, n1⟩
            have xq := box_regrown HX2.out
            have elA : ∀ (d : Nat) (os : Array Obj), Calls Tryz.prog 101 #[.slice pa i.path.length pc] (grow (redrawn w2 d) os) fun e w' => e = .returned (.bool (elemsB i.path)) ∧ Below (grow (redrawn w2 d) os).heap.size (grow (redrawn w2 d) os) w' := fun d os => belements_any S _ pa pc i.path (numsR.keepB HPA2.out (below_regrown w2 d os))
            by_cases hp : i.path.length = D
            · have hpe : ((i.path.length : Int) == (D : Int)) = true := by rw [beq_iff_eq]; omega
              have hpne : ((i.path.length : Int) != (D : Int)) = false := by rw [bne_eq_false_iff_eq]; omega
              have HP : Hid (decide (i.path.length = D) = true) := decide_eq_true hp
              clear hp
              cases hel : elemsB i.path with
              | false =>
                have elT := elA
                rw [hel] at elT
                have HF : Hid (insOk D l = false) := HNO.out _ (.inl (by rw [HI.out, hel]; simp)) rfl
                clear elA
                go_wp2_with fail
                refine wp_region_quiet_below (by kernel_rfl) (by kernel_rfl) ?_
                repeat (first | go_big_quiet_step (exact Calls.regrown_of (elT _ _)) | quiet_step (exact Calls.regrown_of (elT _ _)))
                refine wpQuiet_nil ?_
                intro wq hw'
                obtain ⟨⟨dq, osq⟩, hw''⟩ := hw'
                have hbq := below_regrown w2 dq osq
                rw [← hw''] at hbq
                clear hw'' xq elT
                have HBQ := Lib.hid (bnext HB2.out hbq)
                have HXQ := Lib.hid (box_after hbq HX2.out)
                clear hbq
                go_wp2_with fail
                go_ret
                exact ⟨ret_bool HF.out.symm, HBQ.out⟩
              | true =>
                have elT := elA
                rw [hel] at elT
                clear elA
                by_cases hq0 : 0 ≤ i.position
                · by_cases hq : i.position < P2
                  · have hq' : decide (P2 ≤ i.position) = false := decide_eq_false (by omega)
                    have HY : Hid (inB D i = true) := by show _ = _; rw [HI.out, hv, he, HN.out, HP.out, hel, decide_eq_true ⟨hq0, hq⟩]; rfl
                    clear hel
                    go_wp2_with fail
                    refine wp_region_quiet_below (by kernel_rfl) (by kernel_rfl) ?_
                    repeat (first | go_big_quiet_step (exact Calls.regrown_of (elT _ _)) | quiet_step (exact Calls.regrown_of (elT _ _)))
                    refine wpQuiet_nil ?_
                    intro wq hw'
                    obtain ⟨⟨dq, osq⟩, hw''⟩ := hw'
                    have hbq := below_regrown w2 dq osq
                    rw [← hw''] at hbq
                    clear hw'' xq elT
                    have HBQ := Lib.hid (bnext HB2.out hbq)
                    have HXQ := Lib.hid (box_after hbq HX2.out)
                    clear hbq
                    clear x0 x1
                    obtain ⟨x0, x1⟩ := box_cells HXQ.out
                    have hkc : k ≤ cap := by omega
                    go_wp2_with fail
                    obtain ⟨wo, hwo⟩ : ∃ y, y = wr := ⟨_, rfl⟩
                    subst hwo
                    go_loopw [64] (fun vi wr => ∃ j : Nat, j ≤ k ∧ vi = .int .i64 j ∧ Hid (freshB l i j = true) ∧ Below wq.heap.size wq wr) (fun vi _ => k - (intOf vi).toNat)
                    case atStart => exact ⟨0, Nat.zero_le _, rfl, rfl, Below.refl _ _⟩
                    case round =>
                      obtain ⟨j, hj, rfl, hfr, hbs⟩ := hrel
                      clear x0 x1
                      by_cases hjk : j < k
                      · obtain ⟨b', off', qa, qc, hbo, hbl', -, -, c0, c1, c2, c3, c4, c5, c6, c7, c8⟩ := spents_at (spentsR.keepB (spentsR.keepB H.out HBQ.out) hbs) j (by omega)
                        cases hbo
                        have HSN : Hid (sameK i l[j] = true → freshB l i k = false) := fun h => fresh_no (by omega) hjk h
                        have HSY : Hid (sameK i l[j] = false → freshB l i (j + 1) = true) := fun h => fresh_step (by omega) hfr.out h
                        have HSU : Hid (sameK i l[j] = (l[j].key == i.key && l[j].note.rho == i.note.rho)) := rfl
                        obtain ⟨o, ho⟩ : ∃ x, l[j] = x := ⟨_, rfl⟩
                        rw [ho] at c0 c1 c2 c3 c4 c5 c6 c7 c8 HSN HSY HSU
                        clear ho
                        have hbo := bnew (Below.refl wr.heap.size wr) (.cells #[.int .u64 o.note.value, .int .u64 o.note.owner, .int .u64 o.note.rho, .int .u64 o.note.blind, .int .u64 o.key, .int .i64 o.number, .int .i64 o.position, .slice qa o.path.length qc, .bool o.dummy] 58)
                        have HBS := Lib.hid (bnext hbs hbo)
                        obtain ⟨x0, x1⟩ := box_cells (box_after hbo (box_after hbs HXQ.out))
                        by_cases hsk : o.key = i.key
                        · have s1 : (o.key == i.key) = true := by rw [beq_iff_eq]; exact hsk
                          by_cases hsr : o.note.rho = i.note.rho
                          · have s2 : (o.note.rho == i.note.rho) = true := by rw [beq_iff_eq]; exact hsr
                            have HF : Hid (insOk D l = false) := HNO.out _ (.inr (HSN.out (by rw [HSU.out, s1, s2]; rfl))) rfl
                            clear hsk hsr
                            go_wp2_with fail
                            go_ret
                            exact ⟨ret_bool HF.out.symm, bnext HBQ.out HBS.out⟩
                          · have s2 : (o.note.rho == i.note.rho) = false := by rw [beq_eq_false_iff_ne]; exact hsr
                            have HFY : Hid (freshB l i (j + 1) = true) := HSY.out (by rw [HSU.out, s1, s2]; rfl)
                            clear hsk hsr
                            go_wp2_with fail
                            go_roundw
                            case rel => exact ⟨j + 1, by omega, by go_num, HFY, HBS.out⟩
                            case measure => simp [intOf]; omega
                        · have s1 : (o.key == i.key) = false := by rw [beq_eq_false_iff_ne]; exact hsk
                          have HFY : Hid (freshB l i (j + 1) = true) := HSY.out (by rw [HSU.out, s1]; rfl)
                          clear hsk
                          go_wp2_with fail
                          go_roundw
                          case rel => exact ⟨j + 1, by omega, by go_num, HFY, HBS.out⟩
                          case measure => simp [intOf]; omega
                      · obtain rfl : j = k := by omega
                        have HY2 := Lib.hid (HYES.out HY.out hfr.out)
                        go_wp2_with fail
                        go_roundw
                        case rel => exact ⟨j + 1, by omega, by go_num, HY2.out, bnext HBQ.out hbs⟩
                        case measure => simp [intOf]; omega
                  · have hq' : decide (P2 ≤ i.position) = true := decide_eq_true (by omega)
                    have HF : Hid (insOk D l = false) := HNO.out _ (.inl (by rw [HI.out, decide_eq_false (fun h : 0 ≤ i.position ∧ i.position < P2 => hq h.2)]; simp)) rfl
                    clear hel
                    go_wp2_with fail
                    refine wp_region_quiet_below (by kernel_rfl) (by kernel_rfl) ?_
                    repeat (first | go_big_quiet_step (exact Calls.regrown_of (elT _ _)) | quiet_step (exact Calls.regrown_of (elT _ _)))
                    refine wpQuiet_nil ?_
                    intro wq hw'
                    obtain ⟨⟨dq, osq⟩, hw''⟩ := hw'
                    have hbq := below_regrown w2 dq osq
                    rw [← hw''] at hbq
                    clear hw'' xq elT
                    have HBQ := Lib.hid (bnext HB2.out hbq)
                    have HXQ := Lib.hid (box_after hbq HX2.out)
                    clear hbq
                    go_wp2_with fail
                    go_ret
                    exact ⟨ret_bool HF.out.symm, HBQ.out⟩
                · have HF : Hid (insOk D l = false) := HNO.out _ (.inl (by rw [HI.out, decide_eq_false (fun h : 0 ≤ i.position ∧ i.position < P2 => hq0 h.1)]; simp)) rfl
                  clear hel
                  go_wp2_with fail
                  refine wp_region_quiet_below (by kernel_rfl) (by kernel_rfl) ?_
                  repeat (first | go_big_quiet_step (exact Calls.regrown_of (elT _ _)) | quiet_step (exact Calls.regrown_of (elT _ _)))
                  refine wpQuiet_nil ?_
                  intro wq hw'
                  obtain ⟨⟨dq, osq⟩, hw''⟩ := hw'
                  have hbq := below_regrown w2 dq osq
                  rw [← hw''] at hbq
                  clear hw'' xq elT
                  have HBQ := Lib.hid (bnext HB2.out hbq)
                  have HXQ := Lib.hid (box_after hbq HX2.out)
                  clear hbq
                  go_wp2_with fail
                  go_ret
                  exact ⟨ret_bool HF.out.symm, HBQ.out⟩
            · have hpe : ((i.path.length : Int) == (D : Int)) = false := by rw [beq_eq_false_iff_ne]; omega
              have hpne : ((i.path.length : Int) != (D : Int)) = true := by rw [bne_iff_ne]; omega
              have HF : Hid (insOk D l = false) := HNO.out _ (.inl (by rw [HI.out, decide_eq_false hp]; simp)) rfl
              have elT := elA
              clear elA
              go_wp2_with fail
              refine wp_region_quiet_below (by kernel_rfl) (by kernel_rfl) ?_
              repeat (first | go_big_quiet_step (exact Calls.regrown_of (elT _ _)) | quiet_step (exact Calls.regrown_of (elT _ _)))
              refine wpQuiet_nil ?_
              intro wq hw'
              obtain ⟨⟨dq, osq⟩, hw''⟩ := hw'
              have hbq := below_regrown w2 dq osq
              rw [← hw''] at hbq
              clear hw'' xq elT
              have HBQ := Lib.hid (bnext HB2.out hbq)
              have HXQ := Lib.hid (box_after hbq HX2.out)
              clear hbq
              go_wp2_with fail
              go_ret
              exact ⟨ret_bool HF.out.symm, HBQ.out⟩
          · have HF : Hid (insOk D l = false) := HNO.out _ (.inl (by rw [HI.out, decide_eq_false hn]; simp)) rfl
            by_cases n0 : 0 ≤ i.number
            · have n1 : ¬ i.number < 4 := fun h => hn ⟨n0, h⟩
              go_wp2_with fail
              go_ret
              exact ⟨ret_bool HF.out.symm, HB2.out⟩
            · skip
              go_wp2_with fail
              go_ret
              exact ⟨ret_bool HF.out.symm, HB2.out⟩
    · obtain rfl : k = l.length := by omega
      have HF : Hid (insOk D l = true) := by show _ = _; rw [HIY.out]; exact hall.out
      go_wp2_with fail
      go_ret
      exact ⟨ret_bool HF.out.symm, hbr⟩
end Go.Proofs.YtdjcdejapkkcmaaGreatDoor
/- What is known of a note without asking, whatever the oracle: exactly. -/
namespace Go.Proofs.YtdjcdejapkkcmaaGreatDoor
open Go.ChangeShapes Go.WideShapes Go.ChangeAt Go.RowKit Go.Sort

theorem know_ans {m : OrM} (ok : OrOk m) {label a : Int} {l : List Int} (h : m.know label l = some a) : (0 ≤ a ∧ a < 18446744069414584321) ∧ (m.ideal = false → a = hashS label l) := by
  unfold OrM.know at h
  obtain ⟨q, hq, rfl⟩ := Option.map_eq_some_iff.1 h
  have h1 := List.find?_some hq
  simp only [Bool.and_eq_true, beq_iff_eq] at h1
  have hm := List.mem_of_find?_eq_some hq
  exact ⟨ok.ans q hm, fun hi => by rw [ok.real hi q hm, h1.1, h1.2]⟩
theorem peek_in {m : OrM} (ok : OrOk m) (label : Int) (l : List Int) : okU (m.peek label l).1 := by
  unfold OrM.peek
  split
  · split
    · rename_i a h
      have := (know_ans ok h).1
      exact okU_of this.1 (Int.lt_trans this.2 (by omega))
    · split
      · exact okU_of (by omega) (by omega)
      · exact hashS_ok _ _
  · exact okU_of (by omega) (by omega)
theorem cmt_ok {m : OrM} (ok : OrOk m) (n : NoteM) : okU (m.cmt n).1 := by
  unfold OrM.cmt
  split
  · exact peek_in ok _ _
  · exact okU_of (by omega) (by omega)
theorem commitment_gen (F : Nat → Prop) (w : World) (p : Nat) (m : OrM) (ho : OrG F p w m) (n : NoteM) (hn : NoteOk n) : Calls Tryz.prog 103 #[.pointer (some ⟨p, 0, none⟩), .agg #[.int .u64 n.value, .int .u64 n.owner, .int .u64 n.rho, .int .u64 n.blind]] w fun e w' => e = .returned (.tuple #[.int .u64 (m.cmt n).1, .bool (m.cmt n).2]) ∧ Below w.heap.size w w' := by
  refine (commitment_some F w p m ho n hn).mono ?_
  rintro e w1 ⟨v, k, rfl, hx, -, hb⟩
  rw [hx]
  exact ⟨rfl, hb⟩
theorem marked_gen (F : Nat → Prop) (w : World) (p : Nat) (m : OrM) (ho : OrG F p w m) (key rho : Int) (hk : okU key) (hr : okU rho) : Calls Tryz.prog 167 #[.pointer (some ⟨p, 0, none⟩), .int .u64 key, .int .u64 rho] w fun e w' => e = .returned (.tuple #[.int .u64 (m.mkd key rho).1, .bool (m.mkd key rho).2]) ∧ Below w.heap.size w w' := by
  refine (marked_some F w p m ho key rho hk hr).mono ?_
  rintro e w1 ⟨v, k, rfl, hx, -, hb⟩
  rw [hx]
  exact ⟨rfl, hb⟩
end Go.Proofs.YtdjcdejapkkcmaaGreatDoor
