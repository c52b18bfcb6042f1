/- Closed facts of TopGaps's row. No conditions. -/
import Derived.Test.YtkndlfdpmpdihaaGreatDoorRows
import Derived.JoinedOf
set_option linter.unusedVariables false
set_option linter.unusedSimpArgs false
namespace Go.Proofs.YtkndlfdpmpdihaaGreatDoor
open Go
set_option maxRecDepth 100000
theorem jInPlace:(Rows.topGapsRow.inPlace==Tryz.prog.inPlace 5)=true:=by kernel_rfl
theorem jUnf:(Rows.topGapsRow.unfollowed==Tryz.prog.unfollowed 5)=true:=by kernel_rfl
end Go.Proofs.YtkndlfdpmpdihaaGreatDoor
