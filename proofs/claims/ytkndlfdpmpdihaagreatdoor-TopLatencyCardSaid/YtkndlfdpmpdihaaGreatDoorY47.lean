/- Closed facts of TopLatency's row. No conditions. -/
import Derived.Test.YtkndlfdpmpdihaaGreatDoorRows
import Derived.JoinedOf
set_option linter.unusedVariables false
set_option linter.unusedSimpArgs false
namespace Go.Proofs.YtkndlfdpmpdihaaGreatDoor
open Go
set_option maxRecDepth 100000
theorem jInPlace:(Rows.topLatencyRow.inPlace==Tryz.prog.inPlace 4)=true:=by kernel_rfl
theorem jUnf:(Rows.topLatencyRow.unfollowed==Tryz.prog.unfollowed 4)=true:=by kernel_rfl
end Go.Proofs.YtkndlfdpmpdihaaGreatDoor
