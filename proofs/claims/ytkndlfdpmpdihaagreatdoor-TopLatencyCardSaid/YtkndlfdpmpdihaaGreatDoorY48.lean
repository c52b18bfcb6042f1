/- Closed facts of TopLatency's row. No conditions. -/
import Derived.Test.YtkndlfdpmpdihaaGreatDoorRows
import Derived.JoinedOf
set_option linter.unusedVariables false
set_option linter.unusedSimpArgs false
namespace Go.Proofs.YtkndlfdpmpdihaaGreatDoor
open Go
set_option maxRecDepth 100000
theorem jRec:(Rows.topLatencyRow.recurses==Tryz.prog.recurses 4)=true:=by kernel_rfl
theorem jNam:(Rows.topLatencyRow.named==Tryz.prog.varsNamed 4)=true:=by kernel_rfl
end Go.Proofs.YtkndlfdpmpdihaaGreatDoor
