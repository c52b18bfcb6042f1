/- The package variables that are read. lives(), reckoned. Conditions: those that each statement shows. -/
import Derived.Test.YtkndlfdpmpdihaaGreatDoorY00
import Derived.Test.YtkndlfdpmpdihaaGreatDoorY31
import Derived.Test.YtkndlfdpmpdihaaGreatDoorY32
import Derived.Test.YtkndlfdpmpdihaaGreatDoorY34
set_option linter.unusedVariables false
set_option linter.unusedSimpArgs false
namespace Go.Ev
def tab64:List Value:=[.int .u8 0,.int .u8 1,.int .u8 56,.int .u8 2,.int .u8 57,.int .u8 49,.int .u8 28,.int .u8 3,.int .u8 61,.int .u8 58,.int .u8 42,.int .u8 50,.int .u8 38,.int .u8 29,.int .u8 17,.int .u8 4,.int .u8 62,.int .u8 47,.int .u8 59,.int .u8 36,.int .u8 45,.int .u8 43,.int .u8 51,.int .u8 22,.int .u8 53,.int .u8 39,.int .u8 33,.int .u8 30,.int .u8 24,.int .u8 18,.int .u8 12,.int .u8 5,.int .u8 63,.int .u8 55,.int .u8 48,.int .u8 27,.int .u8 60,.int .u8 41,.int .u8 37,.int .u8 16,.int .u8 46,.int .u8 35,.int .u8 44,.int .u8 21,.int .u8 52,.int .u8 32,.int .u8 23,.int .u8 11,.int .u8 54,.int .u8 26,.int .u8 40,.int .u8 15,.int .u8 34,.int .u8 20,.int .u8 31,.int .u8 10,.int .u8 25,.int .u8 14,.int .u8 19,.int .u8 9,.int .u8 13,.int .u8 8,.int .u8 7,.int .u8 6]
def pow10:List Value:=[.int .u64 1,.int .u64 10,.int .u64 100,.int .u64 1000,.int .u64 10000,.int .u64 100000,.int .u64 1000000,.int .u64 10000000,.int .u64 100000000,.int .u64 1000000000,.int .u64 10000000000,.int .u64 100000000000,.int .u64 1000000000000,.int .u64 10000000000000,.int .u64 100000000000000,.int .u64 1000000000000000,.int .u64 10000000000000000,.int .u64 100000000000000000,.int .u64 1000000000000000000,.int .u64 10000000000000000000]
def g8:List Obj:=[.cells ⟨pow10⟩ 0 (0,21),dead,.cells ⟨tab64⟩ 0 (0,65),dead,dead,dead,dead,dead]
end Go.Ev
namespace Go.Ev
open Go.Proofs Go.Proofs.YtkndlfdpmpdihaaGreatDoor
set_option maxRecDepth 1000000
def mls:List ML:=[m7,m219,m221]
theorem mls_ok:∀m∈mls,MLOk Tryz.prog G8 m:=by
 intro m h;simp only[mls,List.mem_cons,List.not_mem_nil,or_false] at h;rcases h with rfl|rfl|rfl
 ·exact m7_ok
 ·exact m219_ok
 ·exact m221_ok
noncomputable def bkL:EvF:=orB (memL mls) bk
noncomputable def evL:EvF:=evY Tryz.prog G8 (evalDrawnP Tryz.prog G8) bkL 3000 100
theorem evL_ok:EvOkT Tryz.prog G8 evL:=evY_ok draws_ok (orB_ok (memL_ok mls_ok) bk_ok) 3000 100
theorem lives_run:fillR g8 (fun w=>ansIs (evL 21 #[] w) (.bool true)) ⟨.nil,0⟩=true:=by kernel_rfl
end Go.Ev
