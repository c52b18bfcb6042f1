/- Closed facts of TopGaps's row. No conditions. -/
import Derived.Test.YtkndlfdpmpdihaaGreatDoorRows
import Derived.Test.YtkndlfdpmpdihaaGreatDoorX48
import Derived.Test.YtkndlfdpmpdihaaGreatDoorX49
import Derived.JoinedOf
set_option linter.unusedVariables false
set_option linter.unusedSimpArgs false
namespace Go.Proofs.YtkndlfdpmpdihaaGreatDoor
open Go
set_option maxRecDepth 100000
theorem joined:joinedFacts Tryz.prog 5 Tryz.f5 Rows.topGapsSpec Rows.topGapsRow=true:=by
 unfold joinedFacts
 rw [jInPlace,jUnf,jRec,jNam]
 kernel_rfl
end Go.Proofs.YtkndlfdpmpdihaaGreatDoor
