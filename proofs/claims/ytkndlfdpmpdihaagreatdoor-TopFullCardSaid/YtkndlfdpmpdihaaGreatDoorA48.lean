/- Closed facts of TopFull's row. No conditions. -/
import Derived.Test.YtkndlfdpmpdihaaGreatDoorRows
import Derived.Test.YtkndlfdpmpdihaaGreatDoorA46
import Derived.Test.YtkndlfdpmpdihaaGreatDoorA47
import Derived.JoinedOf
set_option linter.unusedVariables false
set_option linter.unusedSimpArgs false
namespace Go.Proofs.YtkndlfdpmpdihaaGreatDoor
open Go
set_option maxRecDepth 100000
theorem joined : joinedFacts Tryz.prog 6 Tryz.f6 Rows.topFullSpec Rows.topFullRow = true := by
  unfold joinedFacts
  rw [jInPlace, jUnf, jRec, jNam]
  kernel_rfl
end Go.Proofs.YtkndlfdpmpdihaaGreatDoor
