/- The law TopGaps: for every input the call returns true, and each argument reads afterwards as it read before; the row's listed variables are tied to the program's text. Conditions: none beyond the given statement's own. -/
import Derived.Test.YtkndlfdpmpdihaaGreatDoorRows
import Derived.Test.YtkndlfdpmpdihaaGreatDoorCards
import Derived.Test.YtkndlfdpmpdihaaGreatDoorTie
import Derived.Test.YtkndlfdpmpdihaaGreatDoorX47
import Derived.Test.YtkndlfdpmpdihaaGreatDoorX50
import Derived.Test.YtkndlfdpmpdihaaGreatDoorX51
import Derived.SevenTiedAt
namespace Go.Proofs.YtkndlfdpmpdihaaGreatDoor.topGaps
open Go.ChangeShapes Go.WideShapes Go.ChangeAt Go.RowKit
set_option linter.unusedVariables false
theorem instance5:Tryz.f5.isInstance Tryz.prog Rows.topGapsRow.origin Rows.topGapsRow.targs:=of_decide_eq_true (by kernel_rfl)
theorem wrapper5:Tryz.f5.isWrapper Tryz.prog Rows.topGapsRow.wrapper Rows.topGapsRow.mainSum:=by unfold Func.isWrapper;first | (rw [if_pos (by decide +kernel)];kernel_rfl) | (rw [if_neg (by decide +kernel)];exact ⟨rfl,rfl⟩)
theorem over:Rows.TopGapsSaid:=
 OpenClaim.holds_of_wide 5 Tryz.f5 rfl rfl rfl rfl rfl rfl rfl ⟨rfl,rfl,rfl,rfl,rfl⟩ rfl rfl rfl rfl rfl named5 Tryz.func5 joined instance5 wrapper5
  (fun os started H enc _=>lifted os started H enc)
theorem textly:Rows.topGapsRow.wfByText (OpenSpec.ofChange Rows.topGapsSpec)=true:=by kernel_rfl
theorem mainly:Tryz.prog.mainIs=some (true, "b9ecf976b6306105840aac86f1774f67dc77425e2d1e1ab0908ad696b99d1a92".toList):=by kernel_rfl
theorem looked:true=Tryz.prog.looks []:=by kernel_rfl
theorem card:Rows.TopGapsCardSaid:=
 Claim7.holds_tied_plain_at .later [] [.data,.data,.data,.data,.sentinel,.sentinel,.pinned] true (true, "b9ecf976b6306105840aac86f1774f67dc77425e2d1e1ab0908ad696b99d1a92") true over (fun _ h=>by cases h) textly (fun _ h=>by cases h) topGaps_row_tie rfl ⟨rfl,rfl⟩ mainly rfl
  (fun f fn hf hfn=>by
   obtain rfl:f=5:=Option.some.inj (named5.symm.trans hf) |>.symm
   obtain rfl:fn=Tryz.f5:=(Option.some.inj (Tryz.func5.symm.trans hfn)).symm
   exact ⟨looked,fun j t ht=>by
    rw [Tryz.params5] at ht
    have hm:t∈[40,56]:=by simpa using Array.mem_of_getElem? ht
    have hall:([40,56].all fun u=>!Tryz.prog.wantsStandIn u)=true:=by kernel_rfl
    exact (show Tryz.prog.wantsStandIn t=false by simpa using List.all_eq_true.1 hall t hm)⟩)
  goesly
end Go.Proofs.YtkndlfdpmpdihaaGreatDoor.topGaps
namespace Go.Proofs.YtkndlfdpmpdihaaGreatDoor
theorem topGaps_holds:Rows.TopGapsCardSaid:=topGaps.card
#print axioms topGaps_holds
end Go.Proofs.YtkndlfdpmpdihaaGreatDoor
