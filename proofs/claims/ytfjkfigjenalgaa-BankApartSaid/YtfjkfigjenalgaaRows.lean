/-
  No cell of these rows narrows 'for every input' (looked for: loops, veiled, ifaces, maps, wideKeys, modest, calm, conditions, laid).
  DERIVED. THE GIVEN ROWS OF THIS SEAT. 8 by the template 'for every input the law returns true; each argument reads behind the call as it read before'; 0 by the template 'total and deterministic' (their statements: YtfjkfigjenalgaaTotals.lean).
  GIVEN WITH THE SEED: the statements are not yours to turn. If you find one false, say at which input.
  Laid BY PROGRAM, IN A SANDBOX (cutbox-rows.mjs): the forced cells as the released guide's own fill.sh prints them over the translation 4f41bbf5fbf9feab… (all of the seat's roots in one cut). By AI agents, Wed Nov 11 2026. No macro, syntax, notation, axiom, sorry.
-/
import Derived.Test.YtfjkfigjenalgaaChecked
import GoSem.Claim
import GoSem.ClaimJoined
import GoSem.ClaimMapViews
import Derived.JoinedTies
import Derived.KernelRfl
namespace Go.Proofs.Ytfjkfigjenalgaa
/- THE CELL 'sum', in the pinned program and in every row, IS THE sha256 OF THE DUMP (.gsa) THAT YtfjkfigjenalgaaProg.lean LOADS. Nothing in Lean hashes anything: it is a label: what it is worth is what the hold of that sum in a sandbox is worth. -/
noncomputable def Try.pinned : Pinned := { name := "ytfjkfigjenalgaa", sum := "4f41bbf5fbf9feabe8020e79d08e2013aa674e192cfde386c5df8c4c2d90530d", checked := Try.checked }
namespace Rows
def none {H : Type} : Left H := { results := [], args := [] }

/-- 'minuterielaw06.CountPlays': WHATEVER THE INPUT: true; the input reads as it did. -/
def countPlaysSpec : ChangeSpec := { name := "countPlays", fn := fun _ => fun
  | [d] => { results := [.lit (.bool true)], args := [d] }
  | _ => none }
def countPlaysRow : OpenClaim := { program := "ytfjkfigjenalgaa", sum := "4f41bbf5fbf9feabe8020e79d08e2013aa674e192cfde386c5df8c4c2d90530d", func := "minuterie/minuterielaw06.CountPlays", spec := "countPlays", apart := false }
def CountPlaysSaid : Prop := countPlaysRow.holds Try.pinned (OpenSpec.ofChange countPlaysSpec)

/-- ITS FALSE NEIGHBOUR: 'it returns false'. Refute it at one input. -/
def countPlaysWrong : ChangeSpec := { name := "countPlays", fn := fun _ => fun
  | [d] => { results := [.lit (.bool false)], args := [d] }
  | _ => none }
def CountPlaysWrongFalsely : Prop := countPlaysRow.holds Try.pinned (OpenSpec.ofChange countPlaysWrong)

/-- 'minuterielaw06.CountSteps': WHATEVER THE INPUT: true; the input reads as it did. -/
def countStepsSpec : ChangeSpec := { name := "countSteps", fn := fun _ => fun
  | [d1, d2] => { results := [.lit (.bool true)], args := [d1, d2] }
  | _ => none }
def countStepsRow : OpenClaim := { program := "ytfjkfigjenalgaa", sum := "4f41bbf5fbf9feabe8020e79d08e2013aa674e192cfde386c5df8c4c2d90530d", func := "minuterie/minuterielaw06.CountSteps", spec := "countSteps", apart := false }
def CountStepsSaid : Prop := countStepsRow.holds Try.pinned (OpenSpec.ofChange countStepsSpec)

/-- ITS FALSE NEIGHBOUR: 'it returns false'. Refute it at one input. -/
def countStepsWrong : ChangeSpec := { name := "countSteps", fn := fun _ => fun
  | [d1, d2] => { results := [.lit (.bool false)], args := [d1, d2] }
  | _ => none }
def CountStepsWrongFalsely : Prop := countStepsRow.holds Try.pinned (OpenSpec.ofChange countStepsWrong)

/-- 'minuterielaw06.CountLeft': WHATEVER THE INPUT: true; the input reads as it did. -/
def countLeftSpec : ChangeSpec := { name := "countLeft", fn := fun _ => fun
  | [d1, d2, d3] => { results := [.lit (.bool true)], args := [d1, d2, d3] }
  | _ => none }
def countLeftRow : OpenClaim := { program := "ytfjkfigjenalgaa", sum := "4f41bbf5fbf9feabe8020e79d08e2013aa674e192cfde386c5df8c4c2d90530d", func := "minuterie/minuterielaw06.CountLeft", spec := "countLeft", apart := false }
def CountLeftSaid : Prop := countLeftRow.holds Try.pinned (OpenSpec.ofChange countLeftSpec)

/-- ITS FALSE NEIGHBOUR: 'it returns false'. Refute it at one input. -/
def countLeftWrong : ChangeSpec := { name := "countLeft", fn := fun _ => fun
  | [d1, d2, d3] => { results := [.lit (.bool false)], args := [d1, d2, d3] }
  | _ => none }
def CountLeftWrongFalsely : Prop := countLeftRow.holds Try.pinned (OpenSpec.ofChange countLeftWrong)

/-- 'minuterielaw06.CountNil': WHATEVER THE INPUT: true; the input reads as it did. -/
def countNilSpec : ChangeSpec := { name := "countNil", fn := fun _ => fun
  | [d1, d2, d3] => { results := [.lit (.bool true)], args := [d1, d2, d3] }
  | _ => none }
def countNilRow : OpenClaim := { program := "ytfjkfigjenalgaa", sum := "4f41bbf5fbf9feabe8020e79d08e2013aa674e192cfde386c5df8c4c2d90530d", func := "minuterie/minuterielaw06.CountNil", spec := "countNil", apart := false }
def CountNilSaid : Prop := countNilRow.holds Try.pinned (OpenSpec.ofChange countNilSpec)

/-- ITS FALSE NEIGHBOUR: 'it returns false'. Refute it at one input. -/
def countNilWrong : ChangeSpec := { name := "countNil", fn := fun _ => fun
  | [d1, d2, d3] => { results := [.lit (.bool false)], args := [d1, d2, d3] }
  | _ => none }
def CountNilWrongFalsely : Prop := countNilRow.holds Try.pinned (OpenSpec.ofChange countNilWrong)

/-- 'minuterielaw07.BankPlays': WHATEVER THE INPUT: true; the input reads as it did. -/
def bankPlaysSpec : ChangeSpec := { name := "bankPlays", fn := fun _ => fun
  | [d1, d2] => { results := [.lit (.bool true)], args := [d1, d2] }
  | _ => none }
def bankPlaysRow : OpenClaim := { program := "ytfjkfigjenalgaa", sum := "4f41bbf5fbf9feabe8020e79d08e2013aa674e192cfde386c5df8c4c2d90530d", func := "minuterie/minuterielaw07.BankPlays", spec := "bankPlays", unfollowed := true, recurses := true, apart := false }
def BankPlaysSaid : Prop := bankPlaysRow.holds Try.pinned (OpenSpec.ofChange bankPlaysSpec)

/-- ITS FALSE NEIGHBOUR: 'it returns false'. Refute it at one input. -/
def bankPlaysWrong : ChangeSpec := { name := "bankPlays", fn := fun _ => fun
  | [d1, d2] => { results := [.lit (.bool false)], args := [d1, d2] }
  | _ => none }
def BankPlaysWrongFalsely : Prop := bankPlaysRow.holds Try.pinned (OpenSpec.ofChange bankPlaysWrong)

/-- 'minuterielaw07.BankLeft': WHATEVER THE INPUT: true; the input reads as it did. -/
def bankLeftSpec : ChangeSpec := { name := "bankLeft", fn := fun _ => fun
  | [d1, d2] => { results := [.lit (.bool true)], args := [d1, d2] }
  | _ => none }
def bankLeftRow : OpenClaim := { program := "ytfjkfigjenalgaa", sum := "4f41bbf5fbf9feabe8020e79d08e2013aa674e192cfde386c5df8c4c2d90530d", func := "minuterie/minuterielaw07.BankLeft", spec := "bankLeft", unfollowed := true, recurses := true, apart := false }
def BankLeftSaid : Prop := bankLeftRow.holds Try.pinned (OpenSpec.ofChange bankLeftSpec)

/-- ITS FALSE NEIGHBOUR: 'it returns false'. Refute it at one input. -/
def bankLeftWrong : ChangeSpec := { name := "bankLeft", fn := fun _ => fun
  | [d1, d2] => { results := [.lit (.bool false)], args := [d1, d2] }
  | _ => none }
def BankLeftWrongFalsely : Prop := bankLeftRow.holds Try.pinned (OpenSpec.ofChange bankLeftWrong)

/-- 'minuterielaw07.BankApart': WHATEVER THE INPUT: true; the input reads as it did. -/
def bankApartSpec : ChangeSpec := { name := "bankApart", fn := fun _ => fun
  | [d1, d2, d3, d4] => { results := [.lit (.bool true)], args := [d1, d2, d3, d4] }
  | _ => none }
def bankApartRow : OpenClaim := { program := "ytfjkfigjenalgaa", sum := "4f41bbf5fbf9feabe8020e79d08e2013aa674e192cfde386c5df8c4c2d90530d", func := "minuterie/minuterielaw07.BankApart", spec := "bankApart", unfollowed := true, recurses := true, apart := false }
def BankApartSaid : Prop := bankApartRow.holds Try.pinned (OpenSpec.ofChange bankApartSpec)

/-- ITS FALSE NEIGHBOUR: 'it returns false'. Refute it at one input. -/
def bankApartWrong : ChangeSpec := { name := "bankApart", fn := fun _ => fun
  | [d1, d2, d3, d4] => { results := [.lit (.bool false)], args := [d1, d2, d3, d4] }
  | _ => none }
def BankApartWrongFalsely : Prop := bankApartRow.holds Try.pinned (OpenSpec.ofChange bankApartWrong)

/-- 'minuterielaw07.BankNil': WHATEVER THE INPUT: true; the input reads as it did. -/
def bankNilSpec : ChangeSpec := { name := "bankNil", fn := fun _ => fun
  | [d1, d2, d3] => { results := [.lit (.bool true)], args := [d1, d2, d3] }
  | _ => none }
def bankNilRow : OpenClaim := { program := "ytfjkfigjenalgaa", sum := "4f41bbf5fbf9feabe8020e79d08e2013aa674e192cfde386c5df8c4c2d90530d", func := "minuterie/minuterielaw07.BankNil", spec := "bankNil", unfollowed := true, recurses := true, apart := false }
def BankNilSaid : Prop := bankNilRow.holds Try.pinned (OpenSpec.ofChange bankNilSpec)

/-- ITS FALSE NEIGHBOUR: 'it returns false'. Refute it at one input. -/
def bankNilWrong : ChangeSpec := { name := "bankNil", fn := fun _ => fun
  | [d1, d2, d3] => { results := [.lit (.bool false)], args := [d1, d2, d3] }
  | _ => none }
def BankNilWrongFalsely : Prop := bankNilRow.holds Try.pinned (OpenSpec.ofChange bankNilWrong)

/- THE SECOND FORM. 'bulk': how many values and letters a reading holds, each counted each time it is reached (what is shared counts as often as it is met; a slice's spare places count too). A statement '..UptoSaid' is the law's where the arguments, and the package variables that the reading takes, are together of bulk at most 1048576: NARROWER than '..Said'. Prove '..Said' where nothing that the law and all that it calls make is longer than what came in: it says more and counts as full. Else prove '..UptoSaid'. A law counts once. -/
mutual
def uptoBulk {H : Type} : DataW H → Nat
  | .lit (.string bytes) => bytes.length + 1
  | .lit _ => 1
  | .nil => 1
  | .ptr d => uptoBulk d + 1
  | .slice elems spare => uptoBulkAll elems + uptoBulkAll spare + 1
  | .agg parts => uptoBulkAll parts + 1
  | .iface _ d => uptoBulk d + 1
  | .map entries => uptoBulkEntries entries + 1
  | .held _ => 1
def uptoBulkAll {H : Type} : List (DataW H) → Nat
  | [] => 0
  | d :: r => uptoBulk d + uptoBulkAll r
def uptoBulkEntries {H : Type} : List (Lit × DataW H) → Nat
  | [] => 0
  | x :: r => uptoBulkEntry x + uptoBulkEntries r
def uptoBulkEntry {H : Type} : Lit × DataW H → Nat
  | (.string bytes, d) => bytes.length + uptoBulk d + 1
  | (_, d) => uptoBulk d + 1
 end
def uptoSmall : (H : Type) → List (DataW H) → Bool := fun _ ds => decide (uptoBulkAll ds ≤ 1048576)
def OpenSpec.upto (s : _root_.Go.ChangeSpec) : _root_.Go.OpenSpec := { _root_.Go.OpenSpec.ofChange s with cond := some uptoSmall }

/-- 'minuterielaw06.CountPlays', WHERE WHAT IT READS IS OF BULK AT MOST 1048576: true; the input reads as it did. -/
def countPlaysUptoRow : OpenClaim := { program := "ytfjkfigjenalgaa", sum := "4f41bbf5fbf9feabe8020e79d08e2013aa674e192cfde386c5df8c4c2d90530d", func := "minuterie/minuterielaw06.CountPlays", spec := "countPlays", apart := false, narrowed := true }
def CountPlaysUptoSaid : Prop := countPlaysUptoRow.holds Try.pinned (OpenSpec.upto countPlaysSpec)

/-- 'minuterielaw06.CountSteps', WHERE WHAT IT READS IS OF BULK AT MOST 1048576: true; the input reads as it did. -/
def countStepsUptoRow : OpenClaim := { program := "ytfjkfigjenalgaa", sum := "4f41bbf5fbf9feabe8020e79d08e2013aa674e192cfde386c5df8c4c2d90530d", func := "minuterie/minuterielaw06.CountSteps", spec := "countSteps", apart := false, narrowed := true }
def CountStepsUptoSaid : Prop := countStepsUptoRow.holds Try.pinned (OpenSpec.upto countStepsSpec)

/-- 'minuterielaw06.CountLeft', WHERE WHAT IT READS IS OF BULK AT MOST 1048576: true; the input reads as it did. -/
def countLeftUptoRow : OpenClaim := { program := "ytfjkfigjenalgaa", sum := "4f41bbf5fbf9feabe8020e79d08e2013aa674e192cfde386c5df8c4c2d90530d", func := "minuterie/minuterielaw06.CountLeft", spec := "countLeft", apart := false, narrowed := true }
def CountLeftUptoSaid : Prop := countLeftUptoRow.holds Try.pinned (OpenSpec.upto countLeftSpec)

/-- 'minuterielaw06.CountNil', WHERE WHAT IT READS IS OF BULK AT MOST 1048576: true; the input reads as it did. -/
def countNilUptoRow : OpenClaim := { program := "ytfjkfigjenalgaa", sum := "4f41bbf5fbf9feabe8020e79d08e2013aa674e192cfde386c5df8c4c2d90530d", func := "minuterie/minuterielaw06.CountNil", spec := "countNil", apart := false, narrowed := true }
def CountNilUptoSaid : Prop := countNilUptoRow.holds Try.pinned (OpenSpec.upto countNilSpec)

/-- 'minuterielaw07.BankPlays', WHERE WHAT IT READS IS OF BULK AT MOST 1048576: true; the input reads as it did. -/
def bankPlaysUptoRow : OpenClaim := { program := "ytfjkfigjenalgaa", sum := "4f41bbf5fbf9feabe8020e79d08e2013aa674e192cfde386c5df8c4c2d90530d", func := "minuterie/minuterielaw07.BankPlays", spec := "bankPlays", unfollowed := true, recurses := true, apart := false, narrowed := true }
def BankPlaysUptoSaid : Prop := bankPlaysUptoRow.holds Try.pinned (OpenSpec.upto bankPlaysSpec)

/-- 'minuterielaw07.BankLeft', WHERE WHAT IT READS IS OF BULK AT MOST 1048576: true; the input reads as it did. -/
def bankLeftUptoRow : OpenClaim := { program := "ytfjkfigjenalgaa", sum := "4f41bbf5fbf9feabe8020e79d08e2013aa674e192cfde386c5df8c4c2d90530d", func := "minuterie/minuterielaw07.BankLeft", spec := "bankLeft", unfollowed := true, recurses := true, apart := false, narrowed := true }
def BankLeftUptoSaid : Prop := bankLeftUptoRow.holds Try.pinned (OpenSpec.upto bankLeftSpec)

/-- 'minuterielaw07.BankApart', WHERE WHAT IT READS IS OF BULK AT MOST 1048576: true; the input reads as it did. -/
def bankApartUptoRow : OpenClaim := { program := "ytfjkfigjenalgaa", sum := "4f41bbf5fbf9feabe8020e79d08e2013aa674e192cfde386c5df8c4c2d90530d", func := "minuterie/minuterielaw07.BankApart", spec := "bankApart", unfollowed := true, recurses := true, apart := false, narrowed := true }
def BankApartUptoSaid : Prop := bankApartUptoRow.holds Try.pinned (OpenSpec.upto bankApartSpec)

/-- 'minuterielaw07.BankNil', WHERE WHAT IT READS IS OF BULK AT MOST 1048576: true; the input reads as it did. -/
def bankNilUptoRow : OpenClaim := { program := "ytfjkfigjenalgaa", sum := "4f41bbf5fbf9feabe8020e79d08e2013aa674e192cfde386c5df8c4c2d90530d", func := "minuterie/minuterielaw07.BankNil", spec := "bankNil", unfollowed := true, recurses := true, apart := false, narrowed := true }
def BankNilUptoSaid : Prop := bankNilUptoRow.holds Try.pinned (OpenSpec.upto bankNilSpec)

end Rows
end Go.Proofs.Ytfjkfigjenalgaa
