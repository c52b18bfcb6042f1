/- A timer, reckoned. No conditions. -/
import Derived.Test.YtkndlfdpmpdihaaGreatDoorY29
import Derived.Test.YtkndlfdpmpdihaaGreatDoorY30
set_option linter.unusedVariables false
set_option linter.unusedSimpArgs false
namespace Go.Ev
open Go.Proofs Go.Proofs.YtkndlfdpmpdihaaGreatDoor
set_option maxRecDepth 1000000
noncomputable def ev1219:EvF:=evY Tryz.prog G8 (evalDrawnP Tryz.prog G8) bk 3000 100
theorem ev1219_ok:EvOkT Tryz.prog G8 ev1219:=evY_ok draws_ok bk_ok 3000 100
def m219:ML:=⟨219,Lit.a219,Lit.w219,Lit.v219,Lit.w219r⟩
theorem m219_ok:MLOk Tryz.prog G8 m219:=ml_is ev1219_ok (by kernel_rfl)
end Go.Ev
