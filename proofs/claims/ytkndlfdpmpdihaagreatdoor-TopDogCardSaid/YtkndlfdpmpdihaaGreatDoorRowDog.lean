/-
  The law TopDog: for every input the call returns true, and each argument reads afterwards as it read before; the row's listed variables are tied to the program's text. Conditions: none beyond the given statement's own.
-/
import Derived.Test.YtkndlfdpmpdihaaGreatDoorRows
import Derived.Test.YtkndlfdpmpdihaaGreatDoorCards
import Derived.Test.YtkndlfdpmpdihaaGreatDoorTie
import Derived.Test.YtkndlfdpmpdihaaGreatDoorRowL
import Derived.Test.YtkndlfdpmpdihaaGreatDoorJF
import Derived.Test.YtkndlfdpmpdihaaGreatDoorJC
import Derived.SevenTiedAt
namespace Go.Proofs.YtkndlfdpmpdihaaGreatDoor.topDog
open Go.ChangeShapes Go.WideShapes Go.ChangeAt Go.RowKit
set_option linter.unusedVariables false
theorem instance3 : Tryz.f3.isInstance Tryz.prog Rows.topDogRow.origin Rows.topDogRow.targs := of_decide_eq_true (by kernel_rfl)
theorem wrapper3 : Tryz.f3.isWrapper Tryz.prog Rows.topDogRow.wrapper Rows.topDogRow.mainSum := by unfold Func.isWrapper; first | (rw [if_pos (by decide +kernel)]; kernel_rfl) | (rw [if_neg (by decide +kernel)]; exact ⟨rfl, rfl⟩)
theorem over : Rows.TopDogSaid :=
  OpenClaim.holds_of_wide 3 Tryz.f3 rfl rfl rfl rfl rfl rfl rfl ⟨rfl, rfl, rfl, rfl, rfl⟩ rfl rfl rfl rfl rfl named3 Tryz.func3 joined instance3 wrapper3
    (fun os started H enc _ => lifted os started H enc)
theorem textly : Rows.topDogRow.wfByText (OpenSpec.ofChange Rows.topDogSpec) = true := by kernel_rfl
theorem mainly : Tryz.prog.mainIs = some (true, "b9ecf976b6306105840aac86f1774f67dc77425e2d1e1ab0908ad696b99d1a92".toList) := by kernel_rfl
theorem looked : true = Tryz.prog.looks [] := by kernel_rfl
theorem card : Rows.TopDogCardSaid :=
  Claim7.holds_tied_plain_at .later [] [.data, .data, .data, .data, .sentinel, .sentinel, .pinned] true (true, "b9ecf976b6306105840aac86f1774f67dc77425e2d1e1ab0908ad696b99d1a92") true over (fun _ h => by cases h) textly (fun _ h => by cases h) topDog_row_tie rfl ⟨rfl, rfl⟩ mainly rfl
    (fun f fn hf hfn => by
      obtain rfl : f = 3 := Option.some.inj (named3.symm.trans hf) |>.symm
      obtain rfl : fn = Tryz.f3 := (Option.some.inj (Tryz.func3.symm.trans hfn)).symm
      exact ⟨looked, fun j t ht => by
        rw [Tryz.params3] at ht
        have hm : t ∈ [22, 22, 4, 22, 23] := by simpa using Array.mem_of_getElem? ht
        have hall : ([22, 22, 4, 22, 23].all fun u => !Tryz.prog.wantsStandIn u) = true := by kernel_rfl
        exact (show Tryz.prog.wantsStandIn t = false by simpa using List.all_eq_true.1 hall t hm)⟩)
    goesly
end Go.Proofs.YtkndlfdpmpdihaaGreatDoor.topDog
namespace Go.Proofs.YtkndlfdpmpdihaaGreatDoor
theorem topDog_holds : Rows.TopDogCardSaid := topDog.card
#print axioms topDog_holds
end Go.Proofs.YtkndlfdpmpdihaaGreatDoor
