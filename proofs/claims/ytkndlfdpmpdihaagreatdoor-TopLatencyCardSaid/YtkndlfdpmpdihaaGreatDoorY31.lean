/- The making of the board, reckoned. No conditions. -/
import Derived.Test.YtkndlfdpmpdihaaGreatDoorY29
import Derived.Test.YtkndlfdpmpdihaaGreatDoorY30
set_option linter.unusedVariables false
set_option linter.unusedSimpArgs false
namespace Go.Ev
open Go.Proofs Go.Proofs.YtkndlfdpmpdihaaGreatDoor
set_option maxRecDepth 1000000
noncomputable def ev17:EvF:=evY Tryz.prog G8 (evalDrawnP Tryz.prog G8) bk 3000 100
theorem ev17_ok:EvOkT Tryz.prog G8 ev17:=evY_ok draws_ok bk_ok 3000 100
def m7:ML:=⟨7,Lit.a7,Lit.w7,Lit.v7,Lit.w7r⟩
theorem m7_ok:MLOk Tryz.prog G8 m7:=ml_is ev17_ok (by kernel_rfl)
end Go.Ev
