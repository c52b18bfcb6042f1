/- Closed facts of TopDog's row. No conditions. -/
import Derived.Test.YtkndlfdpmpdihaaGreatDoorRows
import Derived.Test.YtkndlfdpmpdihaaGreatDoorJA
import Derived.Test.YtkndlfdpmpdihaaGreatDoorJB
import Derived.JoinedOf
set_option linter.unusedVariables false
set_option linter.unusedSimpArgs false
namespace Go.Proofs.YtkndlfdpmpdihaaGreatDoor
open Go
set_option maxRecDepth 100000
theorem joined : joinedFacts Tryz.prog 3 Tryz.f3 Rows.topDogSpec Rows.topDogRow = true := by
  unfold joinedFacts
  rw [jInPlace, jUnf, jRec, jNam]
  kernel_rfl
end Go.Proofs.YtkndlfdpmpdihaaGreatDoor
