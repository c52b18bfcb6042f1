/- Serving, reckoned. No conditions. -/
import Derived.Test.YtkndlfdpmpdihaaGreatDoorY29
import Derived.Test.YtkndlfdpmpdihaaGreatDoorY33
set_option linter.unusedVariables false
set_option linter.unusedSimpArgs false
namespace Go.Ev
open Go.Proofs Go.Proofs.YtkndlfdpmpdihaaGreatDoor
set_option maxRecDepth 1000000
noncomputable def ev1221:EvF:=evY Tryz.prog G8 (evalDrawnP Tryz.prog G8) bk 3000 100
theorem ev1221_ok:EvOkT Tryz.prog G8 ev1221:=evY_ok draws_ok bk_ok 3000 100
def m221:ML:=⟨221,Lit.a221,Lit.w221,Lit.v221,Lit.w221r⟩
theorem m221_ok:MLOk Tryz.prog G8 m221:=ml_is ev1221_ok (by kernel_rfl)
end Go.Ev
