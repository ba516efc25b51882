/- The ties of the listed variables to the program's text, fact by fact. -/
import Derived.Test.YtphacfkcifpobaaGreatDoorRows
import Derived.LaidByTextLater
import Derived.SevenTiedAt
namespace Go.Proofs.YtphacfkcifpobaaGreatDoor
open Go
abbrev laidA : List (String × DataW Unit) := [("unicode/utf8.acceptRanges", Rows.laid_unicode_utf8_acceptRanges), ("strconv.ErrSyntax", Rows.laid_strconv_ErrSyntax), ("strconv.ErrRange", Rows.laid_strconv_ErrRange), ("internal/strconv.uint64pow10", Rows.laid_internal_strconv_uint64pow10), ("math/bits.deBruijn32tab", Rows.laid_math_bits_deBruijn32tab), ("math/bits.deBruijn64tab", Rows.laid_math_bits_deBruijn64tab), ("moidore/parser.operators", Rows.laid_moidore_parser_operators)]
theorem pin_laid_unicode_utf8_first : Tryz.pinned.checked.prog.pinnedFits "unicode/utf8.first" = true := by kernel_rfl
theorem noOwnUnsafe : Tryz.pinned.checked.prog.headLifts.contains "ownunsafe" = false := by kernel_rfl
theorem fits1 : Tryz.pinned.checked.prog.listedFits [("unicode/utf8.first", Rows.laid_unicode_utf8_first), ("unicode/utf8.acceptRanges", Rows.laid_unicode_utf8_acceptRanges), ("strconv.ErrSyntax", Rows.laid_strconv_ErrSyntax), ("strconv.ErrRange", Rows.laid_strconv_ErrRange), ("internal/strconv.uint64pow10", Rows.laid_internal_strconv_uint64pow10), ("math/bits.deBruijn32tab", Rows.laid_math_bits_deBruijn32tab), ("math/bits.deBruijn64tab", Rows.laid_math_bits_deBruijn64tab), ("moidore/parser.operators", Rows.laid_moidore_parser_operators)] = true := by
  unfold Program.listedFits
  rw [noOwnUnsafe]
  kernel_rfl
theorem tieA0 : Tryz.pinned.checked.prog.headLifts.contains "ownunsafe" = false := by kernel_rfl
theorem tieA1 : Tryz.prog.worded (varsWordLater true) = true := by kernel_rfl
theorem tieA2 : Tryz.prog.worded (varsWordLater !true) = false := by kernel_rfl
theorem tieA3 : Tryz.prog.worded rootWordLater = true := by kernel_rfl
theorem tieA4 : laidA.map (fun x => Tryz.prog.kindOfLater x.1) = ([.data, .sentinel, .sentinel, .data, .data, .data, .data] : List LaidKind).map some := by kernel_rfl
theorem tieA5 : (Tryz.prog.funcNamed "gosem.cut.vars").isSome = true := by kernel_rfl
theorem tieA6 : varsNamedLaterB Tryz.prog (varsId Tryz.prog) laidA = true := by kernel_rfl
theorem tieA7 : ∀ os tape, varsDone Tryz.prog 400 (varsId Tryz.prog) os tape = true := fun _ _ => by kernel_rfl
theorem tieA8 : ∀ os tape, (DataW.laidRun Tryz.prog (varsWorld Tryz.prog 400 (varsId Tryz.prog) os tape).memory 8 (laidA.map (·.1))).map (·.1) = some laidA := fun _ _ => by kernel_rfl
theorem tieA9 : ∀ os tape, (DataW.laidRun Tryz.prog (varsWorld Tryz.prog 400 (varsId Tryz.prog) os tape).memory 8 (laidA.map (·.1))).map (fun x => decide x.2.Nodup && laidRowsB Tryz.prog (varsWorld Tryz.prog 400 (varsId Tryz.prog) os tape).memory x.2) = some true := fun _ _ => by kernel_rfl
theorem tieA : Tryz.prog.laidByTextLater laidA [.data, .sentinel, .sentinel, .data, .data, .data, .data] true :=
  Program.laidByTextLater_by_run 400 8 tieA1 tieA2 tieA3 tieA4 tieA5 tieA6 tieA7 tieA8 tieA9
theorem scriptNew_row_tie : Rows.scriptNewRow.laidByTextAt .later Tryz.pinned [.pinned, .data, .sentinel, .sentinel, .data, .data, .data, .data] true :=
  OpenClaim.laidByTextAt_pinned rfl rfl tieA rfl rfl rfl rfl (fun y hy _e => by
    simp only [Rows.scriptNewRow, List.zip_cons_cons, List.zip_nil_right, List.mem_cons, List.mem_nil_iff, or_false] at hy
    rcases hy with rfl | rfl | rfl | rfl | rfl | rfl | rfl | rfl
    · exact ⟨pin_laid_unicode_utf8_first, by kernel_rfl⟩
    · cases _e
    · cases _e
    · cases _e
    · cases _e
    · cases _e
    · cases _e
    · cases _e) fits1
end Go.Proofs.YtphacfkcifpobaaGreatDoor
