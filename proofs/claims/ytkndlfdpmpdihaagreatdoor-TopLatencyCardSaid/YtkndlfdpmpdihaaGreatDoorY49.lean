/- Closed facts of TopLatency's row. No conditions. -/
import Derived.Test.YtkndlfdpmpdihaaGreatDoorRows
import Derived.Test.YtkndlfdpmpdihaaGreatDoorY47
import Derived.Test.YtkndlfdpmpdihaaGreatDoorY48
import Derived.JoinedOf
set_option linter.unusedVariables false
set_option linter.unusedSimpArgs false
namespace Go.Proofs.YtkndlfdpmpdihaaGreatDoor
open Go
set_option maxRecDepth 100000
theorem joined:joinedFacts Tryz.prog 4 Tryz.f4 Rows.topLatencySpec Rows.topLatencyRow=true:=by
 unfold joinedFacts;rw[jInPlace,jUnf,jRec,jNam]
 kernel_rfl
end Go.Proofs.YtkndlfdpmpdihaaGreatDoor
