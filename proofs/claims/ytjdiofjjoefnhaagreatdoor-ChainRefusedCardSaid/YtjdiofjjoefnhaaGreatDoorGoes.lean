/- No function of the program starts a goroutine. -/
import Derived.Test.YtjdiofjjoefnhaaGreatDoorMKit
import Derived.Test.YtjdiofjjoefnhaaGreatDoorRows
import GoSem.ClaimSeven
import Derived.KernelRfl
set_option maxRecDepth 100000
namespace Go.Proofs.YtjdiofjjoefnhaaGreatDoor
open Go
theorem Hl {P:Program}(h:P.funcs.toList.all (fun j=> !j.goes)=true)(f:FuncId):P.goes f=false:=by
 have y: ∀j∈P.funcs.toList,j.goes=false:=fun j u=>by simpa using TJ.1 h j u
 have h1: ∀g:Nat,(P.funcs[g]?).any Func.goes=false:=fun g=>by
  rcases hg:P.funcs[g]? with _|j
  ·rfl
  ·have:j∈P.funcs.toList:=Array.mem_toList_iff.2 (Ud hg)
   show j.goes=false;exact y j this
 have h2:P.funcs.any Func.goes=false:=by
  rw [←Array.any_toList,List.any_eq_false];intro j u;simp [y j u]
 unfold Program.goes;rw [h2,ll,Bool.or_false,List.any_eq_false];intro g _;simp [h1 g]
theorem DO:Tryz.prog.funcs.toList.all (fun j=> !j.goes)=true:=by kernel_rfl
theorem Hm {P:Program}(h: ∀f,P.goes f=false)(c:OpenClaim)(j:c.start= .entering):c.goesBy P=false:=by
 unfold OpenClaim.goesBy Program.goesAt Program.goesFrom;rw [j]
 cases P.funcNamed c.func with
 |none=>rfl
 |some f=>show(P.goes f||false)=false;rw [h f];rfl
theorem sX (c:OpenClaim)(j:c.start= .entering):c.goesBy Tryz.prog=false:=Hm (fun f=>Hl DO f) c j
end Go.Proofs.YtjdiofjjoefnhaaGreatDoor
