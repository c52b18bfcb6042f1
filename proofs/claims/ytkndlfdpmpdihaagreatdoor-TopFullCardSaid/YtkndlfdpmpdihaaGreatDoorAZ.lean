/-
  The law TopFull: for every input the call returns true, and each argument reads afterwards as it read before; the row's listed variables are tied to the program's text. Conditions: none beyond the given statement's own.
-/
import Derived.Test.YtkndlfdpmpdihaaGreatDoorRows
import Derived.Test.YtkndlfdpmpdihaaGreatDoorCards
import Derived.Test.YtkndlfdpmpdihaaGreatDoorTie
import Derived.Test.YtkndlfdpmpdihaaGreatDoorA45
import Derived.Test.YtkndlfdpmpdihaaGreatDoorA48
import Derived.Test.YtkndlfdpmpdihaaGreatDoorA49
import Derived.SevenTiedAt
namespace Go.Proofs.YtkndlfdpmpdihaaGreatDoor.topFull
open Go.ChangeShapes Go.WideShapes Go.ChangeAt Go.RowKit
set_option linter.unusedVariables false
theorem instance6 : Tryz.f6.isInstance Tryz.prog Rows.topFullRow.origin Rows.topFullRow.targs := of_decide_eq_true (by kernel_rfl)
theorem wrapper6 : Tryz.f6.isWrapper Tryz.prog Rows.topFullRow.wrapper Rows.topFullRow.mainSum := by unfold Func.isWrapper; first | (rw [if_pos (by decide +kernel)]; kernel_rfl) | (rw [if_neg (by decide +kernel)]; exact ⟨rfl, rfl⟩)
theorem over : Rows.TopFullSaid :=
  OpenClaim.holds_of_wide 6 Tryz.f6 rfl rfl rfl rfl rfl rfl rfl ⟨rfl, rfl, rfl, rfl, rfl⟩ rfl rfl rfl rfl rfl named6 Tryz.func6 joined instance6 wrapper6
    (fun os started H enc _ => lifted os started H enc)
theorem textly : Rows.topFullRow.wfByText (OpenSpec.ofChange Rows.topFullSpec) = true := by kernel_rfl
theorem mainly : Tryz.prog.mainIs = some (true, "b9ecf976b6306105840aac86f1774f67dc77425e2d1e1ab0908ad696b99d1a92".toList) := by kernel_rfl
theorem looked : true = Tryz.prog.looks [] := by kernel_rfl
theorem card : Rows.TopFullCardSaid :=
  Claim7.holds_tied_plain_at .later [] [.data, .data, .data, .data, .sentinel, .sentinel, .pinned] true (true, "b9ecf976b6306105840aac86f1774f67dc77425e2d1e1ab0908ad696b99d1a92") true over (fun _ h => by cases h) textly (fun _ h => by cases h) topFull_row_tie rfl ⟨rfl, rfl⟩ mainly rfl
    (fun f fn hf hfn => by
      obtain rfl : f = 6 := Option.some.inj (named6.symm.trans hf) |>.symm
      obtain rfl : fn = Tryz.f6 := (Option.some.inj (Tryz.func6.symm.trans hfn)).symm
      exact ⟨looked, fun j t ht => by
        rw [Tryz.params6] at ht
        have hm : t ∈ [3, 56] := by simpa using Array.mem_of_getElem? ht
        have hall : ([3, 56].all fun u => !Tryz.prog.wantsStandIn u) = true := by kernel_rfl
        exact (show Tryz.prog.wantsStandIn t = false by simpa using List.all_eq_true.1 hall t hm)⟩)
    goesly
end Go.Proofs.YtkndlfdpmpdihaaGreatDoor.topFull
namespace Go.Proofs.YtkndlfdpmpdihaaGreatDoor
theorem topFull_holds : Rows.TopFullCardSaid := topFull.card
#print axioms topFull_holds
end Go.Proofs.YtkndlfdpmpdihaaGreatDoor
