/- No function of the program starts a goroutine. No conditions. -/
import Derived.Test.YtkndlfdpmpdihaaGreatDoorRows
import Derived.SevenTiedAt
set_option linter.unusedVariables false
set_option linter.unusedSimpArgs false
namespace Go.Proofs.YtkndlfdpmpdihaaGreatDoor
open Go
set_option maxRecDepth 100000
theorem goes_of {P:Program} (h:P.funcs.toList.any Func.goes=false) (f:FuncId):P.goes f=false:=by
 have h1:∀g:FuncId,(P.funcs[g]?).any Func.goes=false:=by
  intro g
  cases hg:P.funcs[g]? with
  |none=>rfl
  |some fn=>
    show fn.goes=false
    have hm:fn∈P.funcs.toList:=by
     rw[←Array.getElem?_toList] at hg;exact List.mem_of_getElem? hg
    have:=List.any_eq_false.1 h fn hm;simpa using this
 have h2:P.funcs.any Func.goes=false:=by
  rw[←Array.any_toList];exact h
 unfold Program.goes;rw[h2];simp[h1]
theorem noGo:Tryz.prog.funcs.toList.any Func.goes=false:=by kernel_rfl
theorem named4:Tryz.prog.funcNamed "minuterie/minuterietop.TopLatency" = some 4:=by kernel_rfl
theorem goesly:false=Rows.topLatencyRow.goesBy Tryz.prog:=by
 have e1:Rows.topLatencyRow.func = "minuterie/minuterietop.TopLatency" := rfl;have e2:Rows.topLatencyRow.start=.entering:=rfl;unfold OpenClaim.goesBy Program.goesAt Program.goesFrom;rw[e1,e2,named4];simp only[Option.any_some,goes_of noGo,Bool.or_false]
end Go.Proofs.YtkndlfdpmpdihaaGreatDoor
