/- Contracts of the library, laid at this program. -/
import Derived.Shelf.Strings.Builder1
import Derived.Shelf.Strings.Builder2
import Derived.Shelf.Strings.OnBuilder
import Derived.Shelf.Strconv.Itoa1
import Derived.Shelf.LaysM
import Derived.Shelf.Strconv.Itoa2
import Derived.Shelf.Strconv.Itoa3
import Derived.Shelf.Pu.ParseUintPublic10
import Derived.Shelf.Pu.ErrVarParseUint
import Derived.Shelf.Strings.Cut
import Derived.Shelf.Strings.Split
import Derived.Test.YtphacfkcifpobaaGreatDoorProg
import Derived.Test.YtphacfkcifpobaaGreatDoorM02
import Derived.Lib.AppendIntMem
import Derived.Lib.Split
import Derived.Lib.ParseIntB
import Derived.Test.YtphacfkcifpobaaGreatDoorM11
import Derived.Test.YtphacfkcifpobaaGreatDoorM08
import Derived.Test.YtphacfkcifpobaaGreatDoorM24
import Derived.Lib.SmallJoins
import Derived.Lib.ParseIntBCases
set_option maxRecDepth 100000
namespace Go.Proofs.YtphacfkcifpobaaGreatDoor
open Go.Shelf
open Go.RowKit in
open Go.RowKit in
open Go.RowKit in
open Go.RowKit in
def lays283_ren : Go.Shelf.Ren := ⟨fun | 283 => 185 | n => n, fun | 3 => 3 | 9 => 9 | 4 => 4 | n => n, fun | n => n⟩
theorem lays283 : Go.Proofs.Lays.n283 Tryz.prog lays283_ren := {
 mixed := by kernel_rfl
 f283 := Tryz.func185.trans (congrArg some (by kernel_rfl))
 t3 := Tryz.underlying3
 a3 := Tryz.isAgg3
 z3 := Tryz.sizeOf3
 v3 := Tryz.zeroValue3
 t4 := Tryz.underlying4
 a4 := Tryz.isAgg4
 z4 := Tryz.sizeOf4
 v4 := Tryz.zeroValue4
 t9 := Tryz.underlying9
 a9 := Tryz.isAgg9
 z9 := Tryz.sizeOf9
 v9 := Tryz.zeroValue9 }
open Go.Lib in
theorem internal_strconv_small  (i : Nat) (h : i < 100) (w : World) :
   Calls Tryz.prog 185 #[.int .i64 i] w fun e w' => e = .returned (.string ⟨(Lib.decDigits i).toArray⟩) ∧ w' = w := Any.internal_strconv_small lays283 i h w
def laysM284_ren : Go.Shelf.Ren := ⟨fun | 284 => 186 | 129 => 249 | 317 => 248 | 318 => 250 | n => n, fun | 53 => 24 | 3 => 3 | 212 => 365 | 0 => 0 | 4 => 4 | 46 => 165 | 5 => 5 | 9 => 9 | n => n, fun | 17 => 5 | n => n⟩
theorem laysM284 : Go.Proofs.LaysM.n284 Tryz.prog laysM284_ren := {
 mixed := by kernel_rfl
 f129 := Tryz.func249.trans (congrArg some (by kernel_rfl))
 f284 := Tryz.func186.trans (congrArg some (by kernel_rfl))
 f317 := Tryz.func248.trans (congrArg some (by kernel_rfl))
 f318 := Tryz.func250.trans (congrArg some (by kernel_rfl))
 t0 := Tryz.underlying0
 a0 := Tryz.isAgg0
 z0 := Tryz.sizeOf0
 v0 := Tryz.zeroValue0
 t3 := Tryz.underlying3
 a3 := Tryz.isAgg3
 z3 := Tryz.sizeOf3
 v3 := Tryz.zeroValue3
 t4 := Tryz.underlying4
 a4 := Tryz.isAgg4
 z4 := Tryz.sizeOf4
 v4 := Tryz.zeroValue4
 t5 := Tryz.underlying5
 a5 := Tryz.isAgg5
 z5 := Tryz.sizeOf5
 v5 := Tryz.zeroValue5
 t9 := Tryz.underlying9
 a9 := Tryz.isAgg9
 z9 := Tryz.sizeOf9
 v9 := Tryz.zeroValue9
 t46 := Tryz.underlying165
 a46 := Tryz.isAgg165
 z46 := Tryz.sizeOf165
 v46 := Tryz.zeroValue165
 t53 := Tryz.underlying24
 a53 := Tryz.isAgg24
 z53 := Tryz.sizeOf24
 v53 := Tryz.zeroValue24
 t212 := Tryz.underlying365
 a212 := Tryz.isAgg365
 z212 := Tryz.sizeOf365
 v212 := Tryz.zeroValue365
 g17 := by kernel_rfl
 i0 := by kernel_rfl
 i3 := by kernel_rfl
 i4 := by kernel_rfl
 i5 := by kernel_rfl
 i9 := by kernel_rfl
 i46 := by kernel_rfl
 i53 := by kernel_rfl
 i212 := by kernel_rfl
 m17 := by kernel_rfl }
open Go.Lib in
theorem internal_strconv_numDigits  (u : Nat) (h1 : 1 ≤ u) (h2 : u < 18446744073709551616) (w : World) (htab : Lib.TabIs Tryz.prog w "internal/strconv.uint64pow10" .u64 Lib.pow10Tab) :
   Calls Tryz.prog 186 #[.int .u64 u] w fun e w' => e = .returned (.int .i64 (Lib.nDigits u)) ∧ w' = w := Any.internal_strconv_numDigits laysM284 u h1 h2 w htab
def lays285_ren : Go.Shelf.Ren := ⟨fun | 285 => 187 | n => n, fun | 37 => 49 | 53 => 24 | 3 => 3 | 4 => 4 | 51 => 278 | 9 => 9 | 5 => 5 | 0 => 0 | n => n, fun | n => n⟩
theorem lays285 : Go.Proofs.Lays.n285 Tryz.prog lays285_ren := {
 mixed := by kernel_rfl
 f285 := Tryz.func187.trans (congrArg some (by kernel_rfl))
 t0 := Tryz.underlying0
 a0 := Tryz.isAgg0
 z0 := Tryz.sizeOf0
 v0 := Tryz.zeroValue0
 t3 := Tryz.underlying3
 a3 := Tryz.isAgg3
 z3 := Tryz.sizeOf3
 v3 := Tryz.zeroValue3
 t4 := Tryz.underlying4
 a4 := Tryz.isAgg4
 z4 := Tryz.sizeOf4
 v4 := Tryz.zeroValue4
 t5 := Tryz.underlying5
 a5 := Tryz.isAgg5
 z5 := Tryz.sizeOf5
 v5 := Tryz.zeroValue5
 t9 := Tryz.underlying9
 a9 := Tryz.isAgg9
 z9 := Tryz.sizeOf9
 v9 := Tryz.zeroValue9
 t37 := Tryz.underlying49
 a37 := Tryz.isAgg49
 z37 := Tryz.sizeOf49
 v37 := Tryz.zeroValue49
 t51 := Tryz.underlying278
 a51 := Tryz.isAgg278
 z51 := Tryz.sizeOf278
 v51 := Tryz.zeroValue278
 t53 := Tryz.underlying24
 a53 := Tryz.isAgg24
 z53 := Tryz.sizeOf24
 v53 := Tryz.zeroValue24 }
open Go.RowKit Go.Sort Go.Lib in
theorem internal_strconv_formatBase10  (blk off cap : Nat) (u : Nat) (d : Array UInt8) (w : World) (hH : Holds (fun (b : UInt8) => Value.int .u8 (b.toNat : Int)) w blk off d) (hu : u < 10 ^ d.size) (hu64 : u < 18446744073709551616) (hsz : d.size < 4611686018427387904) :
   Calls Tryz.prog 187 #[.slice (some ⟨blk, off, none⟩) d.size cap, .int .u64 u] w fun e w' =>
     e = .returned (.tuple #[]) ∧ ∃ (n v' : Nat) (dk : Array UInt8), w' = (putRow (fun (b : UInt8) => Value.int .u8 (b.toNat : Int)) w blk off dk).drewN n ∧ FmtInv d.size u 0 v' dk := Any.internal_strconv_formatBase10 lays285 blk off cap u d w hH hu hu64 hsz
open Go.RowKit Go.Sort Go.Lib in
def laysPu14_ren : Go.Shelf.Ren := ⟨fun | 14 => 76 | 16 => 128 | 17 => 129 | 19 => 179 | 20 => 180 | 21 => 181 | 22 => 182 | 23 => 183 | 24 => 184 | 25 => 246 | 27 => 155 | 26 => 247 | 28 => 231 | 29 => 295 | 30 => 185 | 31 => 186 | 32 => 187 | 33 => 188 | 35 => 249 | 34 => 248 | 36 => 250 | 37 => 251 | 38 => 252 | 39 => 309 | 40 => 310 | n => n, fun | 9 => 9 | 3 => 3 | 22 => 24 | 24 => 170 | 25 => 171 | 4 => 4 | 34 => 284 | 5 => 5 | 36 => 165 | 37 => 49 | 0 => 0 | 39 => 287 | 21 => 21 | 44 => 362 | 47 => 410 | 50 => 424 | 48 => 422 | 2 => 2 | 52 => 290 | 55 => 293 | 59 => 365 | 60 => 278 | 20 => 20 | 61 => 366 | 65 => 489 | 66 => 490 | 67 => 127 | n => n, fun | 0 => 3 | 1 => 4 | 2 => 5 | 3 => 8 | 4 => 9 | n => n⟩
theorem laysPu14 : Go.Proofs.LaysPu.n14 Tryz.prog laysPu14_ren := {
 mixed := by kernel_rfl
 f14 := Tryz.func76.trans (congrArg some (by kernel_rfl))
 f16 := Tryz.func128.trans (congrArg some (by kernel_rfl))
 f17 := Tryz.func129.trans (congrArg some (by kernel_rfl))
 f19 := Tryz.func179.trans (congrArg some (by kernel_rfl))
 f20 := Tryz.func180.trans (congrArg some (by kernel_rfl))
 f21 := Tryz.func181.trans (congrArg some (by kernel_rfl))
 f22 := Tryz.func182.trans (congrArg some (by kernel_rfl))
 f23 := Tryz.func183.trans (congrArg some (by kernel_rfl))
 f24 := Tryz.func184.trans (congrArg some (by kernel_rfl))
 f25 := Tryz.func246.trans (congrArg some (by kernel_rfl))
 f26 := Tryz.func247.trans (congrArg some (by kernel_rfl))
 f27 := Tryz.func155.trans (congrArg some (by kernel_rfl))
 f28 := Tryz.func231.trans (congrArg some (by kernel_rfl))
 f29 := Tryz.func295.trans (congrArg some (by kernel_rfl))
 f30 := Tryz.func185.trans (congrArg some (by kernel_rfl))
 f31 := Tryz.func186.trans (congrArg some (by kernel_rfl))
 f32 := Tryz.func187.trans (congrArg some (by kernel_rfl))
 f33 := Tryz.func188.trans (congrArg some (by kernel_rfl))
 f34 := Tryz.func248.trans (congrArg some (by kernel_rfl))
 f35 := Tryz.func249.trans (congrArg some (by kernel_rfl))
 f36 := Tryz.func250.trans (congrArg some (by kernel_rfl))
 f37 := Tryz.func251.trans (congrArg some (by kernel_rfl))
 f38 := Tryz.func252.trans (congrArg some (by kernel_rfl))
 f39 := Tryz.func309.trans (congrArg some (by kernel_rfl))
 f40 := Tryz.func310.trans (congrArg some (by kernel_rfl))
 t0 := Tryz.underlying0
 a0 := Tryz.isAgg0
 z0 := Tryz.sizeOf0
 v0 := Tryz.zeroValue0
 i0 := by kernel_rfl
 t2 := Tryz.underlying2
 a2 := Tryz.isAgg2
 z2 := Tryz.sizeOf2
 v2 := Tryz.zeroValue2
 i2 := by kernel_rfl
 t3 := Tryz.underlying3
 a3 := Tryz.isAgg3
 z3 := Tryz.sizeOf3
 v3 := Tryz.zeroValue3
 i3 := by kernel_rfl
 t4 := Tryz.underlying4
 a4 := Tryz.isAgg4
 z4 := Tryz.sizeOf4
 v4 := Tryz.zeroValue4
 i4 := by kernel_rfl
 t5 := Tryz.underlying5
 a5 := Tryz.isAgg5
 z5 := Tryz.sizeOf5
 v5 := Tryz.zeroValue5
 i5 := by kernel_rfl
 t9 := Tryz.underlying9
 a9 := Tryz.isAgg9
 z9 := Tryz.sizeOf9
 v9 := Tryz.zeroValue9
 i9 := by kernel_rfl
 t20 := Tryz.underlying20
 a20 := Tryz.isAgg20
 z20 := Tryz.sizeOf20
 v20 := Tryz.zeroValue20
 i20 := by kernel_rfl
 t21 := Tryz.underlying21
 a21 := Tryz.isAgg21
 z21 := Tryz.sizeOf21
 v21 := Tryz.zeroValue21
 i21 := by kernel_rfl
 t22 := Tryz.underlying24
 a22 := Tryz.isAgg24
 z22 := Tryz.sizeOf24
 v22 := Tryz.zeroValue24
 i22 := by kernel_rfl
 t24 := Tryz.underlying170
 a24 := Tryz.isAgg170
 z24 := Tryz.sizeOf170
 v24 := Tryz.zeroValue170
 i24 := by kernel_rfl
 t25 := Tryz.underlying171
 a25 := Tryz.isAgg171
 z25 := Tryz.sizeOf171
 v25 := Tryz.zeroValue171
 i25 := by kernel_rfl
 t34 := Tryz.underlying284
 a34 := Tryz.isAgg284
 z34 := Tryz.sizeOf284
 v34 := Tryz.zeroValue284
 i34 := by kernel_rfl
 c34 := by kernel_rfl
 t36 := Tryz.underlying165
 a36 := Tryz.isAgg165
 z36 := Tryz.sizeOf165
 v36 := Tryz.zeroValue165
 i36 := by kernel_rfl
 t37 := Tryz.underlying49
 a37 := Tryz.isAgg49
 z37 := Tryz.sizeOf49
 v37 := Tryz.zeroValue49
 i37 := by kernel_rfl
 t39 := Tryz.underlying287
 a39 := Tryz.isAgg287
 z39 := Tryz.sizeOf287
 v39 := Tryz.zeroValue287
 i39 := by kernel_rfl
 t44 := Tryz.underlying362
 a44 := Tryz.isAgg362
 z44 := Tryz.sizeOf362
 v44 := Tryz.zeroValue362
 i44 := by kernel_rfl
 t47 := Tryz.underlying410
 a47 := Tryz.isAgg410
 z47 := Tryz.sizeOf410
 v47 := Tryz.zeroValue410
 i47 := by kernel_rfl
 t48 := Tryz.underlying422
 a48 := Tryz.isAgg422
 z48 := Tryz.sizeOf422
 v48 := Tryz.zeroValue422
 i48 := by kernel_rfl
 t50 := Tryz.underlying424
 a50 := Tryz.isAgg424
 z50 := Tryz.sizeOf424
 v50 := Tryz.zeroValue424
 i50 := by kernel_rfl
 t52 := Tryz.underlying290
 a52 := Tryz.isAgg290
 z52 := Tryz.sizeOf290
 v52 := Tryz.zeroValue290
 i52 := by kernel_rfl
 t55 := Tryz.underlying293
 a55 := Tryz.isAgg293
 z55 := Tryz.sizeOf293
 v55 := Tryz.zeroValue293
 i55 := by kernel_rfl
 t59 := Tryz.underlying365
 a59 := Tryz.isAgg365
 z59 := Tryz.sizeOf365
 v59 := Tryz.zeroValue365
 i59 := by kernel_rfl
 t60 := Tryz.underlying278
 a60 := Tryz.isAgg278
 z60 := Tryz.sizeOf278
 v60 := Tryz.zeroValue278
 i60 := by kernel_rfl
 t61 := Tryz.underlying366
 a61 := Tryz.isAgg366
 z61 := Tryz.sizeOf366
 t65 := Tryz.underlying489
 a65 := Tryz.isAgg489
 z65 := Tryz.sizeOf489
 v65 := Tryz.zeroValue489
 i65 := by kernel_rfl
 t66 := Tryz.underlying490
 a66 := Tryz.isAgg490
 z66 := Tryz.sizeOf490
 v66 := Tryz.zeroValue490
 i66 := by kernel_rfl
 t67 := Tryz.underlying127
 a67 := Tryz.isAgg127
 z67 := Tryz.sizeOf127
 v67 := Tryz.zeroValue127
 i67 := by kernel_rfl
 g0 := by kernel_rfl
 m0 := by kernel_rfl
 g1 := by kernel_rfl
 m1 := by kernel_rfl
 g2 := by kernel_rfl
 m2 := by kernel_rfl
 g3 := by kernel_rfl
 m3 := by kernel_rfl
 g4 := by kernel_rfl
 m4 := by kernel_rfl }
open Go.RowKit in
theorem strconv_ParseUint_10_at64_ok  (s : ByteArray) (hmax : s.size ≤ 9223372036854775806) (u : Nat) (h : Lib.parseUintB 64 s.data.toList = .ok u) (w : World) :
   Calls Tryz.prog 76 #[.string s, .int .i64 10, .int .i64 64] w fun e w' => e = .returned (.tuple #[.int .u64 u, .nilIface]) ∧ (w' = w ∨ w' = Lib.bytesWorld w 5 s) := Any.strconv_ParseUint_10_at64_ok laysPu14 s hmax u h w
open Go.RowKit in
theorem strconv_ParseUint_10_at64_syntax_var  (s : ByteArray) (hlim : s.size ≤ 281474976710656) (h : Lib.parseUintB 64 s.data.toList = Lib.parseUintB 64 []) (tp : TypeId) (p : Value) (w : World) (hvar : w.var? Tryz.prog "strconv.ErrSyntax" = some #[.iface tp p]) :
   Calls Tryz.prog 76 #[.string s, .int .i64 10, .int .i64 64] w fun e w' => ∃ N, e = .returned (.tuple #[.int .u64 0, .iface 287 (.pointer (some ⟨N, 0, none⟩))]) ∧ w.heap.size ≤ N ∧ w'.heap[N]? = some (.cells #[.string ⟨#[80, 97, 114, 115, 101, 85, 105, 110, 116]⟩, .string s, .iface tp p] 362 (0, 0)) ∧ Below w.heap.size w w' := Any.strconv_ParseUint_10_at64_syntax_var laysPu14 s hlim h tp p w hvar
open Go.RowKit in
theorem strconv_ParseUint_10_at64_range_var  (s : ByteArray) (hlim : s.size ≤ 281474976710656) (h : Lib.parseUintB 64 s.data.toList = .range) (tp : TypeId) (p : Value) (w : World) (hvar : w.var? Tryz.prog "strconv.ErrRange" = some #[.iface tp p]) :
   Calls Tryz.prog 76 #[.string s, .int .i64 10, .int .i64 64] w fun e w' => ∃ N, e = .returned (.tuple #[.int .u64 18446744073709551615, .iface 287 (.pointer (some ⟨N, 0, none⟩))]) ∧ w.heap.size ≤ N ∧ w'.heap[N]? = some (.cells #[.string ⟨#[80, 97, 114, 115, 101, 85, 105, 110, 116]⟩, .string s, .iface tp p] 362 (0, 0)) ∧ Below w.heap.size w w' := Any.strconv_ParseUint_10_at64_range_var laysPu14 s hlim h tp p w hvar
def lays145_ren : Go.Shelf.Ren := ⟨fun | 145 => 33 | 220 => 49 | 219 => 74 | 217 => 121 | 225 => 122 | 224 => 123 | 267 => 124 | 266 => 174 | 314 => 175 | n => n, fun | 9 => 9 | 4 => 4 | 59 => 100 | 3 => 3 | 5 => 5 | 46 => 165 | 146 => 279 | 51 => 278 | n => n, fun | 1 => 0 | n => n⟩
theorem lays145 : Go.Proofs.Lays.n145 Tryz.prog lays145_ren := {
 mixed := by kernel_rfl
 f145 := Tryz.func33.trans (congrArg some (by kernel_rfl))
 f217 := Tryz.func121.trans (congrArg some (by kernel_rfl))
 f219 := Tryz.func74.trans (congrArg some (by kernel_rfl))
 f220 := Tryz.func49.trans (congrArg some (by kernel_rfl))
 f224 := Tryz.func123.trans (congrArg some (by kernel_rfl))
 f225 := Tryz.func122.trans (congrArg some (by kernel_rfl))
 f266 := Tryz.func174.trans (congrArg some (by kernel_rfl))
 f267 := Tryz.func124.trans (congrArg some (by kernel_rfl))
 f314 := Tryz.func175.trans (congrArg some (by kernel_rfl))
 t3 := Tryz.underlying3
 a3 := Tryz.isAgg3
 z3 := Tryz.sizeOf3
 v3 := Tryz.zeroValue3
 t4 := Tryz.underlying4
 a4 := Tryz.isAgg4
 z4 := Tryz.sizeOf4
 v4 := Tryz.zeroValue4
 t5 := Tryz.underlying5
 a5 := Tryz.isAgg5
 z5 := Tryz.sizeOf5
 v5 := Tryz.zeroValue5
 t9 := Tryz.underlying9
 a9 := Tryz.isAgg9
 z9 := Tryz.sizeOf9
 v9 := Tryz.zeroValue9
 t46 := Tryz.underlying165
 a46 := Tryz.isAgg165
 z46 := Tryz.sizeOf165
 v46 := Tryz.zeroValue165
 t51 := Tryz.underlying278
 a51 := Tryz.isAgg278
 z51 := Tryz.sizeOf278
 v51 := Tryz.zeroValue278
 t59 := Tryz.underlying100
 a59 := Tryz.isAgg100
 z59 := Tryz.sizeOf100
 v59 := Tryz.zeroValue100
 t146 := Tryz.underlying279
 a146 := Tryz.isAgg279
 z146 := Tryz.sizeOf279
 v146 := Tryz.zeroValue279
 g1 := by kernel_rfl }
open Go.RowKit Go.Lib in
theorem strings_Cut  (s sep : ByteArray) (m : Int) (w : World) (hs : s.size < 4294967281) (hm : w.cell? ⟨0, 0, none⟩ = some (.int .i64 m)) :
   Calls Tryz.prog 33 #[.string s, .string sep] w fun e w' => e = .returned (.tuple #[.string ⟨(Lib.cut s.data.toList sep.data.toList).1.toArray⟩, .string ⟨(Lib.cut s.data.toList sep.data.toList).2.1.toArray⟩, .bool (Lib.cut s.data.toList sep.data.toList).2.2]) ∧ ∃ n, w' = w.drewN n := Any.strings_Cut lays145 s sep m w hs hm
def lays146_ren : Go.Shelf.Ren := ⟨fun | 146 => 50 | 221 => 75 | 268 => 125 | 138 => 126 | 143 => 127 | 195 => 176 | 197 => 177 | 218 => 178 | 219 => 74 | 260 => 245 | 217 => 121 | 225 => 122 | 224 => 123 | 267 => 124 | 266 => 174 | 314 => 175 | n => n, fun | 9 => 9 | 31 => 123 | 3 => 3 | 4 => 4 | 0 => 0 | 105 => 282 | 21 => 21 | 5 => 5 | 46 => 165 | 119 => 418 | 139 => 421 | 138 => 420 | 146 => 279 | 51 => 278 | n => n, fun | 1 => 0 | 3 => 6 | 4 => 7 | n => n⟩
theorem lays146 : Go.Proofs.Lays.n146 Tryz.prog lays146_ren := {
 mixed := by kernel_rfl
 f138 := Tryz.func126.trans (congrArg some (by kernel_rfl))
 f143 := Tryz.func127.trans (congrArg some (by kernel_rfl))
 f146 := Tryz.func50.trans (congrArg some (by kernel_rfl))
 f195 := Tryz.func176.trans (congrArg some (by kernel_rfl))
 f197 := Tryz.func177.trans (congrArg some (by kernel_rfl))
 f217 := Tryz.func121.trans (congrArg some (by kernel_rfl))
 f218 := Tryz.func178.trans (congrArg some (by kernel_rfl))
 f219 := Tryz.func74.trans (congrArg some (by kernel_rfl))
 f221 := Tryz.func75.trans (congrArg some (by kernel_rfl))
 f224 := Tryz.func123.trans (congrArg some (by kernel_rfl))
 f225 := Tryz.func122.trans (congrArg some (by kernel_rfl))
 f260 := Tryz.func245.trans (congrArg some (by kernel_rfl))
 f266 := Tryz.func174.trans (congrArg some (by kernel_rfl))
 f267 := Tryz.func124.trans (congrArg some (by kernel_rfl))
 f268 := Tryz.func125.trans (congrArg some (by kernel_rfl))
 f314 := Tryz.func175.trans (congrArg some (by kernel_rfl))
 t0 := Tryz.underlying0
 a0 := Tryz.isAgg0
 z0 := Tryz.sizeOf0
 v0 := Tryz.zeroValue0
 t3 := Tryz.underlying3
 a3 := Tryz.isAgg3
 z3 := Tryz.sizeOf3
 v3 := Tryz.zeroValue3
 t4 := Tryz.underlying4
 a4 := Tryz.isAgg4
 z4 := Tryz.sizeOf4
 v4 := Tryz.zeroValue4
 t5 := Tryz.underlying5
 a5 := Tryz.isAgg5
 z5 := Tryz.sizeOf5
 v5 := Tryz.zeroValue5
 t9 := Tryz.underlying9
 a9 := Tryz.isAgg9
 z9 := Tryz.sizeOf9
 v9 := Tryz.zeroValue9
 t21 := Tryz.underlying21
 a21 := Tryz.isAgg21
 z21 := Tryz.sizeOf21
 v21 := Tryz.zeroValue21
 t31 := Tryz.underlying123
 a31 := Tryz.isAgg123
 z31 := Tryz.sizeOf123
 v31 := Tryz.zeroValue123
 t46 := Tryz.underlying165
 a46 := Tryz.isAgg165
 z46 := Tryz.sizeOf165
 v46 := Tryz.zeroValue165
 t51 := Tryz.underlying278
 a51 := Tryz.isAgg278
 z51 := Tryz.sizeOf278
 v51 := Tryz.zeroValue278
 t105 := Tryz.underlying282
 a105 := Tryz.isAgg282
 z105 := Tryz.sizeOf282
 v105 := Tryz.zeroValue282
 t119 := Tryz.underlying418
 a119 := Tryz.isAgg418
 z119 := Tryz.sizeOf418
 t138 := Tryz.underlying420
 a138 := Tryz.isAgg420
 z138 := Tryz.sizeOf420
 v138 := Tryz.zeroValue420
 t139 := Tryz.underlying421
 a139 := Tryz.isAgg421
 z139 := Tryz.sizeOf421
 v139 := Tryz.zeroValue421
 t146 := Tryz.underlying279
 a146 := Tryz.isAgg279
 z146 := Tryz.sizeOf279
 v146 := Tryz.zeroValue279
 g1 := by kernel_rfl
 g3 := by kernel_rfl
 g4 := by kernel_rfl }
open Go.RowKit Go.Lib in
theorem strings_Split  (s sep : ByteArray) (m : Int) (w : World) (hs : s.size < 4294967281) (hm : w.cell? ⟨0, 0, none⟩ = some (.int .i64 m)) (h1 : 1 ≤ sep.size) :
   Calls Tryz.prog 50 #[.string s, .string sep] w fun e w' =>
     e = .returned (.slice (some ⟨w.heap.size, 0, none⟩) (Lib.countB s sep + 1) (Lib.countB s sep + 1)) ∧ w' = w.alloc (.cells ((Lib.splitB sep 0 (Lib.countB s sep) s).map Value.string).toArray 9) := Any.strings_Split lays146 (by kernel_rfl) s sep m w hs hm h1
end Go.Proofs.YtphacfkcifpobaaGreatDoor
/- The text of a number. -/
namespace Go.Proofs.YtphacfkcifpobaaGreatDoor
open Go.ChangeShapes Go.WideShapes Go.ChangeAt Go.RowKit Go.Sort
def TabAt (w : World) : Prop := Lib.TabIs Tryz.prog w "internal/strconv.uint64pow10" .u64 Lib.pow10Tab
theorem TabAt.keepB {w w' : World} (h : TabAt w) (hb : Below w.heap.size w w') : TabAt w' := Lib.tabBelow_of_tabIs h w' hb
theorem TabAt.keep {S : Nat → Prop} {w w' : World} (h : TabAt w) (hk : Kept S w w') (hS : S 5) : TabAt w' := by
 have hg : Tryz.prog.globalNamed "internal/strconv.uint64pow10" = some 5 := by kernel_rfl
 unfold TabAt Lib.TabIs World.var? at *; rw [hg] at h ⊢
 simp only [Option.bind_some] at h ⊢
 have hlt : 5 < w.heap.size := by
   rcases Nat.lt_or_ge 5 w.heap.size with h' | h'
   · exact h'
   · rw [Array.getElem?_eq_none h'] at h; simp at h
 rw [hk.block _ hlt hS]
 exact h
theorem holds_zero0 (w : World) (T : TypeId) (nd : Nat) (hs : nd ≤ 24) : Holds (fun (b : UInt8) => Value.int .u8 (b.toNat : Int)) (w.alloc (.cells Lib.zeros24 T)) w.heap.size 0 (Array.replicate nd (0 : UInt8)) := fun j hj => by
 have hj' : j < nd := by simpa using hj
 refine ⟨?_, World.frozen?_alloc_new _ _ _ _⟩
 rw [World.cell?_alloc_new, Lib.zeros24_at _ (by omega), getElem!_pos _ j hj]
 simp
theorem fin_zero (w : World) (o : Obj) (dk : Array UInt8) (k : Nat) : Below w.heap.size w ((putRow (fun (b : UInt8) => Value.int .u8 (b.toNat : Int)) (w.alloc o) w.heap.size 0 dk).drewN k) := by
 rw [alloc_eq_grow]
 obtain ⟨os', _, e⟩ := putRow_grow_new (fun (b : UInt8) => Value.int .u8 (b.toNat : Int)) w #[o] w.heap.size 0 dk (Nat.le_refl _)
 rw [e]
 exact Lib.below_grow w.heap.size w (Nat.le_refl _) k os'
def decS (n : Int) : ByteArray := ⟨(Lib.decDigits n.toNat).toArray⟩
set_option maxHeartbeats 1000000 in
theorem formatUintIn_any (n : Int) (hn : okU n) (w : World) (htab : TabAt w) :
   Calls Tryz.prog 130 #[.int .u64 n, .int .i64 10] w fun e w' => e = .returned (.string (decS n)) ∧ Below w.heap.size w w' := by
 obtain ⟨n0, n1⟩ := okU_in hn
 obtain ⟨u, rfl⟩ : ∃ u : Nat, n = u := ⟨n.toNat, by omega⟩
 by_cases hs : u < 100
 · have hw : IntKind.i64.wrap (u : Int) = (u : Int) := by rw [IntKind.wrap_i64]; omega
   have hc : ((u : Int) < 100) = True := by simp; omega
   clear hn n0 n1
   go_enter Tryz.func130, Tryz.ntmps130
   go_wp2_with fail
   refine (internal_strconv_small u hs _).mono ?_
   rintro e w1 ⟨rfl, rfl⟩; go_wp2_with fail; go_ret
   exact ⟨rfl, Below.refl _ _⟩
 · have hu1 : 1 ≤ u := by omega
   have hu64 : u < 18446744073709551616 := by omega
   have hnd20 : Lib.nDigits u ≤ 20 := by have := Lib.numDigits_eq u hu1 hu64; split at this <;> omega
   have hal : Tryz.prog.arrayLen 290 = 24 := by kernel_rfl
   have hsl1 : ∀ W, (Instr.sliceAt 290 (.pointer (some ⟨w.heap.size, 0, none⟩)) none (some (.int .i64 (Lib.nDigits u : Int))) none).run Tryz.prog W = .ok (.slice (some ⟨w.heap.size, 0, none⟩) (Lib.nDigits u) 24) W := fun W => by
     rw [run_sliceAt_array_h W 290 ⟨w.heap.size, 0, none⟩ (by simp [Program.arrayLen, Program.elem, Tryz.underlying290]) .i64 (Lib.nDigits u : Int) (by omega) (by rw [hal]; omega)]
     go_simp
   have hH0 := holds_zero0 w 290 (Lib.nDigits u) (by omega)
   have hfmt := internal_strconv_formatBase10 w.heap.size 0 24 u (Array.replicate (Lib.nDigits u) 0) (w.alloc (.cells Lib.zeros24 290)) hH0 (by rw [Array.size_replicate]; exact Lib.lt_pow_nDigits u) hu64 (by rw [Array.size_replicate]; omega)
   rw [Array.size_replicate] at hfmt; have HH0 := Lib.hid hH0; have HT := Lib.hid (htab.keepB (bnew (Below.refl _ _) (.cells Lib.zeros24 290))); clear hH0 hal htab hn n0 n1 hnd20
   have hlt : ((u : Int) < 100) = False := by simp; omega
   go_enter Tryz.func130, Tryz.ntmps130
   go_wp2_with fail
   refine (internal_strconv_numDigits u hu1 hu64 _ HT.out).mono ?_
   rintro e w1 ⟨rfl, rfl⟩; go_wp2_with fail
   refine hfmt.mono ?_
   rintro e w1 ⟨rfl, k, v', dk, rfl, hF⟩
   have hcv : (convert 49 9 (.slice (some ⟨w.heap.size, 0, none⟩) (Lib.nDigits u) 24)).run Tryz.prog ((putRow (fun (b : UInt8) => Value.int .u8 (b.toNat : Int)) (w.alloc (.cells Lib.zeros24 290)) w.heap.size 0 dk).drewN k) = .ok (.string ⟨(Lib.decDigits u).toArray⟩) ((putRow (fun (b : UInt8) => Value.int .u8 (b.toNat : Int)) (w.alloc (.cells Lib.zeros24 290)) w.heap.size 0 dk).drewN k) := by
     have h := run_convert_bytes_back (P := Tryz.prog) ((putRow (fun (b : UInt8) => Value.int .u8 (b.toNat : Int)) (w.alloc (.cells Lib.zeros24 290)) w.heap.size 0 dk).drewN k) 49 9 5 ⟨w.heap.size, 0, none⟩ 24 (Lib.decDigits u) Tryz.underlying49 Tryz.underlying5 Tryz.underlying9 (fun j hj => by
       rw [Lib.row_is_numeral hF j hj, Lib.add_plain, World.cell?_drewN]
       exact cell?_putRow (fun (b : UInt8) => Value.int .u8 (b.toNat : Int)) _ w.heap.size 0 _ dk HH0.out (by rw [hF.size, Array.size_replicate]) j (by rw [hF.size]; rw [Lib.decDigits_length] at hj; exact hj))
     rw [Lib.decDigits_length] at h
     exact h
   have HB := Lib.hid (fin_zero w (.cells Lib.zeros24 290) dk k); go_wp2_with fail; go_ret
   exact ⟨rfl, HB.out⟩
theorem formatUint_any (n : Int) (hn : okU n) (w : World) (htab : TabAt w) :
   Calls Tryz.prog 77 #[.int .u64 n, .int .i64 10] w fun e w' => e = .returned (.string (decS n)) ∧ Below w.heap.size w w' := by
 have HN := Lib.hid hn; have HT := Lib.hid htab; clear hn htab
 go_enter Tryz.func77, Tryz.ntmps77
 go_wp2_with fail
 refine (formatUintIn_any n HN.out _ HT.out).mono ?_
 rintro e w1 ⟨rfl, hb⟩; go_wp2_with fail; go_ret
 exact ⟨rfl, hb⟩
end Go.Proofs.YtphacfkcifpobaaGreatDoor
/- Texts of scripts in plain Lean: steps, their words, the reading of a line and of a text. -/
namespace Go.Proofs.YtphacfkcifpobaaGreatDoor
open Go.ChangeShapes Go.WideShapes Go.ChangeAt Go.RowKit Go.Sort
structure StepM where
 kind : Int
 node : Int
 «to» : Int
 num : Int
 amt : Int
 fee : Int
 bytes : List Int
structure UseM where
 word : ByteArray
 node : Bool
 «to» : Bool
 num : Bool
 amt : Bool
 fee : Bool
 oct : Bool
def useK : Nat → UseM
 | 1 => ⟨⟨#[109, 105, 110, 101]⟩, true, false, false, true, false, false⟩
 | 2 => ⟨⟨#[100, 101, 112, 111, 115, 105, 116]⟩, true, false, false, true, true, false⟩
 | 3 => ⟨⟨#[112, 97, 121]⟩, true, true, true, true, true, false⟩
 | 4 => ⟨⟨#[119, 105, 116, 104, 100, 114, 97, 119]⟩, true, false, false, true, true, false⟩
 | 5 => ⟨⟨#[100, 101, 108, 105, 118, 101, 114]⟩, false, true, false, false, false, false⟩
 | 6 => ⟨⟨#[100, 114, 111, 112]⟩, false, true, false, false, false, false⟩
 | 7 => ⟨⟨#[114, 101, 112, 101, 97, 116]⟩, false, true, false, false, false, false⟩
 | 8 => ⟨⟨#[105, 110, 106, 101, 99, 116]⟩, true, true, true, false, false, true⟩
 | 9 => ⟨⟨#[97, 110, 110, 111, 117, 110, 99, 101]⟩, true, true, false, false, false, false⟩
 | _ => ⟨⟨#[]⟩, false, false, false, false, false, false⟩
def amtOf (s : ByteArray) : Option Nat := match Lib.parseUintB 64 s.data.toList with
 | .ok n => if decS n = s then some n else none
 | _ => none
def numOf (s : ByteArray) : Option Nat := match amtOf s with
 | some n => if n ≤ 1000000000 then some n else none
 | none => none
def digV (c : UInt8) : Int := if 48 ≤ c.toNat ∧ c.toNat ≤ 57 then c.toNat - 48 else if 97 ≤ c.toNat ∧ c.toNat ≤ 102 then c.toNat - 87 else -1
def hexOf : List UInt8 → Option (List Int)
 | [] => some []
 | [_] => none
 | a :: b :: r => if digV a < 0 ∨ digV b < 0 then none else (hexOf r).map fun l => (digV a * 16 + digV b) :: l
def octOf (s : ByteArray) : Option (List Int) := if s = ⟨#[45]⟩ then some [] else if s.size = 0 ∨ ¬ s.size % 2 = 0 ∨ 4194304 < s.size / 2 then none else hexOf s.data.toList
abbrev WdM := List ByteArray × Bool
def hd1 (st : WdM) : ByteArray := st.1.headD ⟨#[]⟩
def takeAmt (st : WdM) : Int × WdM := match amtOf (hd1 st) with
 | some n => (n, (st.1.tail, st.2))
 | none => (0, (st.1.tail, true))
def takeNum (st : WdM) : Int × WdM := match numOf (hd1 st) with
 | some n => (n, (st.1.tail, st.2))
 | none => (0, (st.1.tail, true))
def takeOct (st : WdM) : List Int × WdM := match octOf (hd1 st) with
 | some l => (l, (st.1.tail, st.2))
 | none => ([], (st.1.tail, true))
def ifU {α : Type} (use : Bool) (z : α) (f : WdM → α × WdM) (st : WdM) : α × WdM := if use = true then f st else (z, st)
def fieldsK (k : Nat) (st : WdM) : StepM × WdM :=
 let a := ifU (useK k).node 0 takeNum st
 let b := ifU (useK k).to 0 takeNum a.2
 let c := ifU (useK k).num 0 takeNum b.2
 let d := ifU (useK k).amt 0 takeAmt c.2
 let e := ifU (useK k).fee 0 takeAmt d.2
 let f := ifU (useK k).oct [] takeOct e.2
 (⟨k, a.1, b.1, c.1, d.1, e.1, f.1⟩, f.2)
def stepK (k : Nat) (st : WdM) : Option StepM := if (fieldsK k st).2.2 = true ∨ ¬ (fieldsK k st).2.1 = [] then none else some (fieldsK k st).1
def findK (w : ByteArray) : Nat → Nat → Option Nat
 | 0, _ => none
 | n + 1, k => if (useK k).word = w then some k else findK w n (k + 1)
def spB : ByteArray := ⟨#[32]⟩
def wordsOf (line : ByteArray) : List ByteArray := Lib.splitB spB 0 (Lib.countB line spB) line
def lineS (line : ByteArray) : Option StepM := match findK ((wordsOf line).headD ⟨#[]⟩) 9 1 with
 | some k => stepK k ((wordsOf line).tail, false)
 | none => none
def nlB : ByteArray := ⟨#[10]⟩
end Go.Proofs.YtphacfkcifpobaaGreatDoor
/- Texts of scripts: the reader of words. -/
namespace Go.Proofs.YtphacfkcifpobaaGreatDoor
open Go.ChangeShapes Go.WideShapes Go.ChangeAt Go.RowKit Go.Sort
def strR : Rep ByteArray where
 n := 1
 rel _ _ cs x := cs = [.string x]
 len h := by rw [h]; rfl
 one h := by rw [h]; simp [Value.oneCell']
 keep h _ := h
 mono h _ := h
abbrev useC (u : UseM) : Array Value := #[.string u.word, .bool u.node, .bool u.to, .bool u.num, .bool u.amt, .bool u.fee, .bool u.oct]
def WdAt (S : Nat → Prop) (w : World) (p : Nat) (st : WdM) : Prop := ∃ a, w.heap[p]? = some (.cells #[.slice a st.1.length st.1.length, .bool st.2] 126 (0, 0)) ∧ (sliceR strR).rel S w [.slice a st.1.length st.1.length] st.1
theorem WdAt.keep {S T : Nat → Prop} {w w' : World} {p : Nat} {st : WdM} (h : WdAt S w p st) (hk : Kept T w w') (hS : ∀ k, S k → T k) (hp : T p) : WdAt S w' p st := by
 obtain ⟨a, h1, h2⟩ := h
 exact ⟨a, box_kept hk h1 hp, (sliceR strR).keep h2 (hk.mono fun k _ => hS k)⟩
theorem WdAt.keepB {S : Nat → Prop} {w w' : World} {p : Nat} {st : WdM} (h : WdAt S w p st) (hb : Below w.heap.size w w') : WdAt S w' p st := by
 obtain ⟨a, h1, h2⟩ := h
 exact ⟨a, box_after hb h1, (sliceR strR).keepB h2 hb⟩
theorem WdAt.put {S : Nat → Prop} {w : World} {p : Nat} {st : WdM} (h : WdAt S w p st) (hS : ¬ S p) (a : Option Addr) (l : List ByteArray) (hr : (sliceR strR).rel S w [.slice a l.length l.length] l) : WdAt S (w.setCell ⟨p, 0, none⟩ (.slice a l.length l.length)) p (l, st.2) := by
 obtain ⟨a0, h1, h2⟩ := h
 refine ⟨a, ?_, (sliceR strR).keep hr ((Kept.refl S w).setCell (fun _ => hS) _)⟩
 have := box_set (i := 0) (v := .slice a l.length l.length) h1
 simpa using this
theorem WdAt.bad {S : Nat → Prop} {w : World} {p : Nat} {st : WdM} (h : WdAt S w p st) (hS : ¬ S p) : WdAt S (w.setCell ⟨p, 1, none⟩ (.bool true)) p (st.1, true) := by
 obtain ⟨a0, h1, h2⟩ := h
 refine ⟨a0, ?_, (sliceR strR).keep h2 ((Kept.refl S w).setCell (fun _ => hS) _)⟩
 have := box_set (i := 1) (v := .bool true) h1
 simpa using this
theorem WdAt.cells {S : Nat → Prop} {w : World} {p : Nat} {st : WdM} (h : WdAt S w p st) : ∃ a, w.cell? ⟨p, 0, none⟩ = some (.slice a st.1.length st.1.length) ∧ w.cell? ⟨p, 1, none⟩ = some (.bool st.2) ∧ ∀ i, w.frozen? ⟨p, i, none⟩ = false := by
 obtain ⟨a, h1, -⟩ := h; obtain ⟨x0, x1⟩ := box_cells h1
 exact ⟨a, x0 0, x0 1, x1⟩
theorem kset (w : World) (p i : Nat) (v : Value) : Kept (fun k => k ≠ p) w (w.setCell ⟨p, i, none⟩ v) := (Kept.refl _ w).setCell (fun _ h => h rfl) v
theorem next_any (S : Nat → Prop) (w : World) (p : Nat) (st : WdM) (h : WdAt S w p st) (hS : ¬ S p) :
   Calls Tryz.prog 51 #[.pointer (some ⟨p, 0, none⟩)] w fun e w' => e = .returned (.string (hd1 st)) ∧ WdAt S w' p (st.1.tail, st.2 || st.1.isEmpty) ∧ Kept (fun k => k ≠ p) w w' := by
 obtain ⟨rest, bad⟩ := st; have H := Lib.hid h; obtain ⟨a, hb, hl⟩ := h; obtain ⟨x0, x1⟩ := box_cells hb; have HL := Lib.hid hl
 match rest with
 | [] =>
   clear hb hl
   go_enter Tryz.func51, Tryz.ntmps51
   go_wp2_with fail; go_ret
   -- MARK
   refine ⟨rfl, ?_, kset _ _ _ _⟩
   have := H.out.bad hS
   simpa using this
 | [s] =>
   obtain ⟨b, off, es, rfl, hSb, hlt, hes, hc⟩ := sliceR.at hl 0 (by simp)
   have c0 : w.cell? ⟨b, off, none⟩ = some (.string s) := by
     have := hc 0 (.string s) (by rw [show es = [.string s] from hes]; rfl)
     simpa using this
   clear hb hl hes hc
   go_enter Tryz.func51, Tryz.ntmps51
   go_wp2_with fail; go_ret
   refine ⟨rfl, ?_, kset _ _ _ _⟩
   have hp := H.out.put hS (some ⟨b, off, none⟩) [] ⟨_, 0, 0, rfl, rfl, Nat.le_refl _, Nat.zero_le _, (fun h => by cases h), fun i x h => by simp at h⟩
   -- MARK1
   simpa using hp
 | s :: s1 :: r =>
   obtain ⟨b, off, es, rfl, hSb, hlt, hes, hc⟩ := sliceR.at hl 0 (by simp)
   have c0 : w.cell? ⟨b, off, none⟩ = some (.string s) := by
     have := hc 0 (.string s) (by rw [show es = [.string s] from hes]; rfl)
     simpa using this
   clear hb hl hes hc
   go_enter Tryz.func51, Tryz.ntmps51
   go_wp2_with fail; go_ret
   refine ⟨rfl, ?_, kset _ _ _ _⟩
   have hp := H.out.put hS (some ⟨b, off + 1, none⟩) (s1 :: r) (by have h := sliceR.dropN HL.out 1 (by simp); rw [show strR.n = 1 from rfl] at h; exact h)
   -- MARK2
   simpa using hp
end Go.Proofs.YtphacfkcifpobaaGreatDoor
/- Texts of scripts: what a kind uses, digits, numbers. -/
namespace Go.Proofs.YtphacfkcifpobaaGreatDoor
open Go.ChangeShapes Go.WideShapes Go.ChangeAt Go.RowKit Go.Sort
structure TxtAt (w : World) : Prop where
 tab : TabAt w
 mx : ∃ m, w.cell? ⟨0, 0, none⟩ = some (.int .i64 m)
 es : ∃ tp p, w.var? Tryz.prog "strconv.ErrSyntax" = some #[.iface tp p]
 er : ∃ tp p, w.var? Tryz.prog "strconv.ErrRange" = some #[.iface tp p]
def TxtB (B : Nat) (w : World) : Prop := B ≤ w.heap.size ∧ ∀ w', Below B w w' → TxtAt w'
theorem TxtAt.on {w : World} (h : TxtAt w) : TxtB w.heap.size w := by
 refine ⟨Nat.le_refl _, fun w' hb => ⟨h.tab.keepB hb, ?_, ?_, ?_⟩⟩
 · obtain ⟨m, hm⟩ := h.mx
   exact ⟨m, (Kept.of_below (S := fun _ => True) hb).cell trivial hm⟩
 · obtain ⟨tp, p, hv⟩ := h.es
   exact ⟨tp, p, Joins.var_stays (g := 3) (by kernel_rfl) hv hb (Nat.le_refl _)⟩
 · obtain ⟨tp, p, hv⟩ := h.er
   exact ⟨tp, p, Joins.var_stays (g := 4) (by kernel_rfl) hv hb (Nat.le_refl _)⟩
theorem TxtB.at {B : Nat} {w : World} (h : TxtB B w) : TxtAt w := h.2 w (Below.refl _ _)
theorem TxtB.next {B : Nat} {w w' : World} (h : TxtB B w) (hb : Below B w w') : TxtB B w' := ⟨Nat.le_trans h.1 hb.size, fun w2 h2 => h.2 w2 (hb.trans h2)⟩
theorem TxtB.keep {B p : Nat} {w w' : World} (h : TxtB B w) (hk : Kept (fun k => k ≠ p) w w') (hp : B ≤ p) : TxtB B w' :=
 h.next ((hk.mono (S' := fun k => k < B) fun k _ hB => by show k ≠ p; omega).below h.1)
theorem TxtB.keepB {B : Nat} {w w' : World} (h : TxtB B w) (hb : Below w.heap.size w w') : TxtB B w' := h.next (hb.mono h.1)
abbrev useZ : Array Value := #[.string ⟨#[]⟩, .bool false, .bool false, .bool false, .bool false, .bool false, .bool false]
theorem takeAmt_ok {st : WdM} {n : Nat} (h : Lib.parseUintB 64 (hd1 st).data.toList = .ok n) (hd : decS n = hd1 st) : takeAmt st = ((n : Int), (st.1.tail, st.2)) := by
 unfold takeAmt amtOf; rw [h]
 simp only [if_pos hd]
theorem takeAmt_ne {st : WdM} {n : Nat} (h : Lib.parseUintB 64 (hd1 st).data.toList = .ok n) (hd : ¬ decS n = hd1 st) : takeAmt st = (0, (st.1.tail, true)) := by
 unfold takeAmt amtOf; rw [h]
 simp only [if_neg hd]
theorem takeAmt_no {st : WdM} (h : ∀ n, ¬ Lib.parseUintB 64 (hd1 st).data.toList = .ok n) : takeAmt st = (0, (st.1.tail, true)) := by
 unfold takeAmt amtOf
 cases hp : Lib.parseUintB 64 (hd1 st).data.toList with
 | ok n => exact absurd hp (h n)
 | _ => rfl
theorem str_eq {a b : ByteArray} (h : a = b) : (a.toList == b.toList) = true := by rw [h]; exact beq_self_eq_true _
theorem str_ne {a b : ByteArray} (h : ¬ a = b) : (a.toList == b.toList) = false := by
 rw [beq_eq_false_iff_ne]
 intro e
 rw [ByteArray.toList_eq, ByteArray.toList_eq] at e
 exact h (bytes_inj e)
set_option maxHeartbeats 1000000 in
theorem amount_any (S : Nat → Prop) (w : World) (B p : Nat) (st : WdM) (h : WdAt S w p st) (hS : ¬ S p) (ht : TxtB B w) (hp : B ≤ p) (hl : (hd1 st).size ≤ 1000000) :
   Calls Tryz.prog 54 #[.pointer (some ⟨p, 0, none⟩)] w fun e w' => e = .returned (.int .u64 (takeAmt st).1) ∧ WdAt S w' p (takeAmt st).2 ∧ Kept (fun k => k ≠ p) w w' := by
 have HT := Lib.hid ht; have HLN := Lib.hid hl
 have HW : Hid (∀ w', Kept (fun k => k ≠ p) w w' → TxtB B w') := fun w' hk => ht.keep hk hp
 have HN := Lib.hid (next_any S w p st h hS); obtain ⟨s, hs⟩ : ∃ s, hd1 st = s := ⟨_, rfl⟩
 have HE : Hid (s.data.toList ≠ [] → (st.2 || st.1.isEmpty) = st.2) := by
   intro hne
   obtain ⟨l, b⟩ := st
   match l, hs with
   | [], hs => exact absurd (by rw [← hs]; rfl) hne
   | _ :: _, _ => simp
 obtain ⟨R, hR⟩ : ∃ R, takeAmt st = R := ⟨_, rfl⟩; rw [hR]; have HR := Lib.hid hR; have HS := Lib.hid hs; rw [hs] at HN HLN; clear h ht hl hR hs
 go_enter Tryz.func54, Tryz.ntmps54
 go_wp2_with fail
 refine HN.out.mono ?_
 rintro e w1 ⟨rfl, hw1, hk1⟩; have HW1 := Lib.hid hw1; have HK1 := Lib.hid hk1; have HT1 := Lib.hid (HW.out _ hk1); obtain ⟨a1, c0, c1, c2⟩ := hw1.cells; clear hw1 hk1; go_wp2_with fail; have hsz : s.size ≤ 1000000 := HLN.out
 cases hpu : Lib.parseUintB 64 s.data.toList with
 | ok n =>
   have hne : s.data.toList ≠ [] := fun h => by rw [h] at hpu; simp [Lib.parseUintB] at hpu
   rw [HE.out hne] at HW1 c1
   have hn : okU (n : Int) := okU_of (by omega) (by have := Lib.parseUintB_le hpu; omega)
   refine (strconv_ParseUint_10_at64_ok s (by omega) n hpu _).mono ?_
   rintro e w2 ⟨rfl, hw2⟩
   have hb2 : Below w1.heap.size w1 w2 := by
     rcases hw2 with rfl | rfl
     · exact Below.refl _ _
     · exact Joins.below_bytesWorld _ _ _ _ (Nat.le_refl _)
   have HPU := Lib.hid hpu; clear hw2 hpu; have HW2 := Lib.hid (HW1.out.keepB hb2)
   have HK2 : Hid (Kept (fun k => k ≠ p) w w2) := HK1.out.trans (Kept.of_below hb2) fun _ _ h => h
   have HT2 := Lib.hid (HT1.out.keepB hb2); clear HW1 HK1 HT1 hb2 c0 c1 c2; go_wp2_with fail
   refine (formatUint_any n hn _ HT2.out.at.tab).mono ?_
   rintro e w3 ⟨rfl, hb3⟩; have HW3 := Lib.hid (HW2.out.keepB hb3)
   have HK3 : Hid (Kept (fun k => k ≠ p) w w3) := HK2.out.trans (Kept.of_below hb3) fun _ _ h => h
   clear HW2 HK2 HT2 hb3; obtain ⟨a3, c0, c1, c2⟩ := HW3.out.cells
   by_cases hd : decS n = s
   · have e1 := str_eq hd
     have e3 := HR.out.symm.trans (takeAmt_ok (by rw [HS.out]; exact HPU.out) (by rw [HS.out]; exact hd))
     -- MARKB
     go_wp2_with fail; go_ret; rw [e3]
     refine ⟨rfl, HW3.out, HK3.out⟩
   · have e1 := str_ne hd
     have e3 := HR.out.symm.trans (takeAmt_ne (by rw [HS.out]; exact HPU.out) (by rw [HS.out]; exact hd))
     go_wp2_with fail; go_ret; rw [e3]
     refine ⟨rfl, HW3.out.bad hS, HK3.out.trans (kset _ _ _ _) fun _ _ h => h⟩
 | range =>
   obtain ⟨tp, pv, hv⟩ := HT1.out.at.er
   refine (strconv_ParseUint_10_at64_range_var s (by omega) hpu tp pv _ hv).mono ?_
   rintro e w2 ⟨N, rfl, -, -, hb2⟩; have HPU := Lib.hid hpu
   have e3 := HR.out.symm.trans (takeAmt_no fun n hn => by rw [HS.out, HPU.out] at hn; cases hn)
   clear hpu hv; have HW2 := Lib.hid (HW1.out.keepB hb2)
   have HK2 : Hid (Kept (fun k => k ≠ p) w w2) := HK1.out.trans (Kept.of_below hb2) fun _ _ h => h
   clear HW1 HK1 HT1 hb2 c0 c1 c2; obtain ⟨a3, c0, c1, c2⟩ := HW2.out.cells; go_wp2_with fail; go_ret; rw [e3]
   refine ⟨rfl, HW2.out.bad hS, HK2.out.trans (kset _ _ _ _) fun _ _ h => h⟩
 | _ =>
   obtain ⟨tp, pv, hv⟩ := HT1.out.at.es
   refine (strconv_ParseUint_10_at64_syntax_var s (by omega) hpu tp pv _ hv).mono ?_
   rintro e w2 ⟨N, rfl, -, -, hb2⟩; have HPU := Lib.hid hpu
   have e3 := HR.out.symm.trans (takeAmt_no fun n hn => by rw [HS.out, HPU.out] at hn; cases hn)
   clear hpu hv; have HW2 := Lib.hid (HW1.out.keepB hb2)
   have HK2 : Hid (Kept (fun k => k ≠ p) w w2) := HK1.out.trans (Kept.of_below hb2) fun _ _ h => h
   clear HW1 HK1 HT1 hb2 c0 c1 c2; obtain ⟨a3, c0, c1, c2⟩ := HW2.out.cells; go_wp2_with fail; go_ret; rw [e3]
   refine ⟨rfl, HW2.out.bad hS, HK2.out.trans (kset _ _ _ _) fun _ _ h => h⟩
theorem number_any (S : Nat → Prop) (w : World) (B p : Nat) (st : WdM) (h : WdAt S w p st) (hS : ¬ S p) (ht : TxtB B w) (hp : B ≤ p) (hl : (hd1 st).size ≤ 1000000) :
   Calls Tryz.prog 53 #[.pointer (some ⟨p, 0, none⟩)] w fun e w' => e = .returned (.int .i64 (takeNum st).1) ∧ WdAt S w' p (takeNum st).2 ∧ Kept (fun k => k ≠ p) w w' := by
 have HA := Lib.hid (amount_any S w B p st h hS ht hp hl); obtain ⟨r, hr⟩ : ∃ r, takeAmt st = r := ⟨_, rfl⟩
 have hnum : takeNum st = if r.1 ≤ 1000000000 then r else (0, (st.1.tail, true)) := by
   rw [← hr]; unfold takeNum numOf takeAmt
   cases amtOf (hd1 st) with
   | none => rfl
   | some n =>
     by_cases hn : n ≤ 1000000000
     · have h2 : (n : Int) ≤ 1000000000 := by omega
       simp only [if_pos hn, if_pos h2]
     · have h2 : ¬ (n : Int) ≤ 1000000000 := by omega
       simp only [if_neg hn, if_neg h2]
 have hr0 : 0 ≤ r.1 := by
   rw [← hr]; unfold takeAmt
   cases amtOf (hd1 st) with
   | none => exact Int.le_refl _
   | some n => exact Int.natCast_nonneg n
 have htl : r.2.1 = st.1.tail := by
   rw [← hr]; unfold takeAmt
   cases amtOf (hd1 st) <;> rfl
 rw [hr] at HA; obtain ⟨R, hR⟩ : ∃ R, takeNum st = R := ⟨_, rfl⟩; rw [hR]; have HR := Lib.hid (hR.symm.trans hnum); obtain ⟨n, st2⟩ := r; clear hr hnum h ht hl hR
 go_enter Tryz.func53, Tryz.ntmps53
 go_wp2_with fail
 refine HA.out.mono ?_
 rintro e w1 ⟨rfl, hw1, hk1⟩; have HW1 := Lib.hid hw1; have HK1 := Lib.hid hk1; obtain ⟨a1, c0, c1, c2⟩ := hw1.cells; clear hw1 hk1
 by_cases hn : n ≤ 1000000000
 · have d1 : decide (1000000000 < n) = false := decide_eq_false (by omega)
   have e3 := HR.out.trans (if_pos hn); go_wp2_with fail; go_ret; rw [e3]
   -- MARKN
   refine ⟨by go_num, HW1.out, HK1.out⟩
 · have d1 : decide (1000000000 < n) = true := decide_eq_true (by omega)
   have e3 := HR.out.trans (if_neg hn); go_wp2_with fail; go_ret; rw [e3]
   refine ⟨rfl, ?_, HK1.out.trans (kset _ _ _ _) fun _ _ h => h⟩
   have := HW1.out.bad hS; rw [← htl]
   exact this
end Go.Proofs.YtphacfkcifpobaaGreatDoor
/- Texts of scripts: bytes in hexadecimal. -/
namespace Go.Proofs.YtphacfkcifpobaaGreatDoor
open Go.ChangeShapes Go.WideShapes Go.ChangeAt Go.RowKit Go.Sort
theorem str_len (s : ByteArray) : s.data.toList.length = s.size := Array.length_toList
end Go.Proofs.YtphacfkcifpobaaGreatDoor
/- Texts of scripts: the words of a line. -/
namespace Go.Proofs.YtphacfkcifpobaaGreatDoor
open Go.ChangeShapes Go.WideShapes Go.ChangeAt Go.RowKit Go.Sort
theorem splitB_count (sep : ByteArray) (h1 : 1 ≤ sep.size) : ∀ (n : Nat) (s : ByteArray), s.size ≤ n → (Lib.splitB sep 0 (Lib.countB s sep) s).length = Lib.countB s sep + 1
 | n, s, hn => by
   rcases Lib.indexB_cases s sep with h | ⟨i, h, hi⟩
   · rw [Lib.countB_miss s sep h]; rfl
   · rw [Lib.countB_hit s sep i h1 h, Nat.add_comm 1, Lib.splitB_hit sep 0 _ s i h, List.length_cons]
     match n with
     | 0 => omega
     | n + 1 =>
       rw [splitB_count sep h1 n _ (by rw [ByteArray.size_extract]; omega)]
theorem splitB_mem (sep : ByteArray) : ∀ (k : Nat) (s x : ByteArray), x ∈ Lib.splitB sep 0 k s → x.size ≤ s.size
 | 0, s, x, h => by
   unfold Lib.splitB at h
   simp only [List.mem_singleton] at h
   rw [h]; exact Nat.le_refl _
 | k + 1, s, x, h => by
   unfold Lib.splitB at h
   split at h
   · simp only [List.mem_singleton] at h
     rw [h]; exact Nat.le_refl _
   · rw [List.mem_cons] at h
     rcases h with h | h
     · rw [h, ByteArray.size_extract]; omega
     · have := splitB_mem sep k _ x h
       rw [ByteArray.size_extract] at this; omega
theorem wordsOf_len (line : ByteArray) : (wordsOf line).length = Lib.countB line spB + 1 := splitB_count spB (by decide) line.size line (Nat.le_refl _)
theorem wordsOf_mem {line x : ByteArray} (h : x ∈ wordsOf line) : x.size ≤ line.size := splitB_mem _ _ _ _ h
def WdS (st : WdM) : Prop := ∀ x ∈ st.1, x.size ≤ 1000000
theorem WdS.hd {st : WdM} (h : WdS st) : (hd1 st).size ≤ 1000000 := by
 obtain ⟨l, b⟩ := st
 match l with
 | [] => exact Nat.zero_le _
 | x :: _ => exact h x (by simp)
theorem WdS.tl {st : WdM} (h : WdS st) (b : Bool) : WdS (st.1.tail, b) := fun x hx => h x (List.mem_of_mem_tail hx)
theorem takeAmt_tl (st : WdM) : ∃ b, (takeAmt st).2 = (st.1.tail, b) := by unfold takeAmt; split <;> exact ⟨_, rfl⟩
theorem takeNum_tl (st : WdM) : ∃ b, (takeNum st).2 = (st.1.tail, b) := by unfold takeNum; split <;> exact ⟨_, rfl⟩
theorem takeOct_tl (st : WdM) : ∃ b, (takeOct st).2 = (st.1.tail, b) := by unfold takeOct; split <;> exact ⟨_, rfl⟩
theorem WdS.amt {st : WdM} (h : WdS st) : WdS (takeAmt st).2 := by obtain ⟨b, e⟩ := takeAmt_tl st; rw [e]; exact h.tl b
theorem WdS.num {st : WdM} (h : WdS st) : WdS (takeNum st).2 := by obtain ⟨b, e⟩ := takeNum_tl st; rw [e]; exact h.tl b
theorem WdS.oct {st : WdM} (h : WdS st) : WdS (takeOct st).2 := by obtain ⟨b, e⟩ := takeOct_tl st; rw [e]; exact h.tl b
end Go.Proofs.YtphacfkcifpobaaGreatDoor
