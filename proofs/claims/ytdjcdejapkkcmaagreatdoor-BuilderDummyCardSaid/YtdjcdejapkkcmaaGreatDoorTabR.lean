/- The table of powers of ten, out of what a row lists. -/
import Derived.Test.YtdjcdejapkkcmaaGreatDoorM16
import Derived.LaidSub
import Derived.Lib.LaidTab
namespace Go.Proofs.YtdjcdejapkkcmaaGreatDoor
open Go.ChangeShapes Go.WideShapes Go.ChangeAt Go.RowKit

theorem tab_of {laid : List (String × DataW Unit)} {W : World} (h : laidMetH Tryz.prog laid W) (e : ((laid.filter fun x => x.1 == "internal/strconv.uint64pow10").filter fun x => x.2.handleName?.isNone) = [("internal/strconv.uint64pow10", Lib.tabData .u64 Lib.pow10Tab)]) : TabAt W := by
  have h1 := (laidMetH_iff.1 (h.filter fun x => x.1 == "internal/strconv.uint64pow10")).1
  rw [e] at h1
  exact Lib.tabIs_of_head (g := 2) (t := 498) (e := 24) (n := 20) (by kernel_rfl) (by kernel_rfl) (by kernel_rfl) (by kernel_rfl) (by kernel_rfl) (by kernel_rfl) h1
end Go.Proofs.YtdjcdejapkkcmaaGreatDoor
