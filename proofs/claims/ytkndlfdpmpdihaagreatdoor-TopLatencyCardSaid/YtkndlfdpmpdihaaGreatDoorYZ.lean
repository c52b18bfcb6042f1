/- The law TopLatency: for every input the call returns true, and each argument reads afterwards as it read before; the row's listed variables are tied to the program's text. Conditions: none beyond the given statement's own. -/
import Derived.Test.YtkndlfdpmpdihaaGreatDoorRows
import Derived.Test.YtkndlfdpmpdihaaGreatDoorCards
import Derived.Test.YtkndlfdpmpdihaaGreatDoorTie
import Derived.Test.YtkndlfdpmpdihaaGreatDoorY46
import Derived.Test.YtkndlfdpmpdihaaGreatDoorY49
import Derived.Test.YtkndlfdpmpdihaaGreatDoorY50
import Derived.SevenTiedAt
namespace Go.Proofs.YtkndlfdpmpdihaaGreatDoor.topLatency
open Go.ChangeShapes Go.WideShapes Go.ChangeAt Go.RowKit
set_option linter.unusedVariables false
theorem instance4:Tryz.f4.isInstance Tryz.prog Rows.topLatencyRow.origin Rows.topLatencyRow.targs:=of_decide_eq_true (by kernel_rfl)
theorem wrapper4:Tryz.f4.isWrapper Tryz.prog Rows.topLatencyRow.wrapper Rows.topLatencyRow.mainSum:=by unfold Func.isWrapper;first|(rw[if_pos (by decide +kernel)];kernel_rfl)|(rw[if_neg (by decide +kernel)];exact⟨rfl,rfl⟩)
theorem over:Rows.TopLatencySaid:=
 OpenClaim.holds_of_wide 4 Tryz.f4 rfl rfl rfl rfl rfl rfl rfl ⟨rfl,rfl,rfl,rfl,rfl⟩ rfl rfl rfl rfl rfl named4 Tryz.func4 joined instance4 wrapper4
  (fun os started H enc _=>lifted os started H enc)
theorem textly:Rows.topLatencyRow.wfByText (OpenSpec.ofChange Rows.topLatencySpec)=true:=by kernel_rfl
theorem mainly:Tryz.prog.mainIs=some (true, "b9ecf976b6306105840aac86f1774f67dc77425e2d1e1ab0908ad696b99d1a92".toList):=by kernel_rfl
theorem looked:true=Tryz.prog.looks []:=by kernel_rfl
theorem card:Rows.TopLatencyCardSaid:=
 Claim7.holds_tied_plain_at .later [] [.data,.data,.data,.data,.sentinel,.sentinel,.pinned] true (true, "b9ecf976b6306105840aac86f1774f67dc77425e2d1e1ab0908ad696b99d1a92") true over (fun _ h=>by cases h) textly (fun _ h=>by cases h) topLatency_row_tie rfl ⟨rfl,rfl⟩ mainly rfl
  (fun f fn hf hfn=>by
   obtain rfl:f=4:=Option.some.inj (named4.symm.trans hf) |>.symm;obtain rfl:fn=Tryz.f4:=(Option.some.inj (Tryz.func4.symm.trans hfn)).symm
   exact⟨looked,fun j t ht=>by
    rw[Tryz.params4] at ht
    have hm:t∈[22,37,56,56]:=by simpa using Array.mem_of_getElem? ht
    have hall:([22,37,56,56].all fun u=>!Tryz.prog.wantsStandIn u)=true:=by kernel_rfl
    exact(show Tryz.prog.wantsStandIn t=false by simpa using List.all_eq_true.1 hall t hm)⟩)
  goesly
end Go.Proofs.YtkndlfdpmpdihaaGreatDoor.topLatency
namespace Go.Proofs.YtkndlfdpmpdihaaGreatDoor
theorem topLatency_holds:Rows.TopLatencyCardSaid:=topLatency.card
#print axioms topLatency_holds
end Go.Proofs.YtkndlfdpmpdihaaGreatDoor
