/-
  No cell of these rows narrows 'for every input' (looked for: loops, veiled, ifaces, maps, wideKeys, modest, calm, conditions, laid).
  DERIVED. THE GIVEN ROWS OF THIS SEAT. 5 by the template 'for every input the law returns true; each argument reads behind the call as it read before'; 0 by the template 'total and deterministic' (their statements: YtndndlegefhafaaTotals.lean).
  GIVEN WITH THE SEED: the statements are not yours to turn. If you find one false, say at which input.
  Laid BY PROGRAM, IN A SANDBOX (cutbox-rows.mjs): the forced cells as the released guide's own fill.sh prints them over the translation c2ef7235f076ffe4… (all of the seat's roots in one cut). By AI agents, Wed Nov 11 2026. No macro, syntax, notation, axiom, sorry.
-/
import Derived.Test.YtndndlegefhafaaChecked
import GoSem.Claim
import GoSem.ClaimJoined
import GoSem.ClaimMapViews
import Derived.JoinedTies
import Derived.KernelRfl
namespace Go.Proofs.Ytndndlegefhafaa
/- THE CELL 'sum', in the pinned program and in every row, IS THE sha256 OF THE DUMP (.gsa) THAT YtndndlegefhafaaProg.lean LOADS. Nothing in Lean hashes anything: it is a label: what it is worth is what the hold of that sum in a sandbox is worth. -/
noncomputable def Try.pinned : Pinned := { name := "ytndndlegefhafaa", sum := "c2ef7235f076ffe493e30ab7ba44c99f9c6806ff9c0789be93eb6ad535afcfba", checked := Try.checked }
namespace Rows
def none {H : Type} : Left H := { results := [], args := [] }

/-- 'minuterielaw08.WdogWindow': WHATEVER THE INPUT: true; the input reads as it did. -/
def wdogWindowSpec : ChangeSpec := { name := "wdogWindow", fn := fun _ => fun
  | [d1, d2, d3, d4] => { results := [.lit (.bool true)], args := [d1, d2, d3, d4] }
  | _ => none }
def wdogWindowRow : OpenClaim := { program := "ytndndlegefhafaa", sum := "c2ef7235f076ffe493e30ab7ba44c99f9c6806ff9c0789be93eb6ad535afcfba", func := "minuterie/minuterielaw08.WdogWindow", spec := "wdogWindow", apart := false }
def WdogWindowSaid : Prop := wdogWindowRow.holds Try.pinned (OpenSpec.ofChange wdogWindowSpec)

/-- ITS FALSE NEIGHBOUR: 'it returns false'. Refute it at one input. -/
def wdogWindowWrong : ChangeSpec := { name := "wdogWindow", fn := fun _ => fun
  | [d1, d2, d3, d4] => { results := [.lit (.bool false)], args := [d1, d2, d3, d4] }
  | _ => none }
def WdogWindowWrongFalsely : Prop := wdogWindowRow.holds Try.pinned (OpenSpec.ofChange wdogWindowWrong)

/-- 'minuterielaw08.WdogLocks': WHATEVER THE INPUT: true; the input reads as it did. -/
def wdogLocksSpec : ChangeSpec := { name := "wdogLocks", fn := fun _ => fun
  | [d1, d2, d3, d4] => { results := [.lit (.bool true)], args := [d1, d2, d3, d4] }
  | _ => none }
def wdogLocksRow : OpenClaim := { program := "ytndndlegefhafaa", sum := "c2ef7235f076ffe493e30ab7ba44c99f9c6806ff9c0789be93eb6ad535afcfba", func := "minuterie/minuterielaw08.WdogLocks", spec := "wdogLocks", apart := false }
def WdogLocksSaid : Prop := wdogLocksRow.holds Try.pinned (OpenSpec.ofChange wdogLocksSpec)

/-- ITS FALSE NEIGHBOUR: 'it returns false'. Refute it at one input. -/
def wdogLocksWrong : ChangeSpec := { name := "wdogLocks", fn := fun _ => fun
  | [d1, d2, d3, d4] => { results := [.lit (.bool false)], args := [d1, d2, d3, d4] }
  | _ => none }
def WdogLocksWrongFalsely : Prop := wdogLocksRow.holds Try.pinned (OpenSpec.ofChange wdogLocksWrong)

/-- 'minuterielaw08.WdogPlays': WHATEVER THE INPUT: true; the input reads as it did. -/
def wdogPlaysSpec : ChangeSpec := { name := "wdogPlays", fn := fun _ => fun
  | [d] => { results := [.lit (.bool true)], args := [d] }
  | _ => none }
def wdogPlaysRow : OpenClaim := { program := "ytndndlegefhafaa", sum := "c2ef7235f076ffe493e30ab7ba44c99f9c6806ff9c0789be93eb6ad535afcfba", func := "minuterie/minuterielaw08.WdogPlays", spec := "wdogPlays", apart := false }
def WdogPlaysSaid : Prop := wdogPlaysRow.holds Try.pinned (OpenSpec.ofChange wdogPlaysSpec)

/-- ITS FALSE NEIGHBOUR: 'it returns false'. Refute it at one input. -/
def wdogPlaysWrong : ChangeSpec := { name := "wdogPlays", fn := fun _ => fun
  | [d] => { results := [.lit (.bool false)], args := [d] }
  | _ => none }
def WdogPlaysWrongFalsely : Prop := wdogPlaysRow.holds Try.pinned (OpenSpec.ofChange wdogPlaysWrong)

/-- 'minuterielaw08.WdogLeft': WHATEVER THE INPUT: true; the input reads as it did. -/
def wdogLeftSpec : ChangeSpec := { name := "wdogLeft", fn := fun _ => fun
  | [d1, d2, d3] => { results := [.lit (.bool true)], args := [d1, d2, d3] }
  | _ => none }
def wdogLeftRow : OpenClaim := { program := "ytndndlegefhafaa", sum := "c2ef7235f076ffe493e30ab7ba44c99f9c6806ff9c0789be93eb6ad535afcfba", func := "minuterie/minuterielaw08.WdogLeft", spec := "wdogLeft", apart := false }
def WdogLeftSaid : Prop := wdogLeftRow.holds Try.pinned (OpenSpec.ofChange wdogLeftSpec)

/-- ITS FALSE NEIGHBOUR: 'it returns false'. Refute it at one input. -/
def wdogLeftWrong : ChangeSpec := { name := "wdogLeft", fn := fun _ => fun
  | [d1, d2, d3] => { results := [.lit (.bool false)], args := [d1, d2, d3] }
  | _ => none }
def WdogLeftWrongFalsely : Prop := wdogLeftRow.holds Try.pinned (OpenSpec.ofChange wdogLeftWrong)

/-- 'minuterielaw08.WdogNil': WHATEVER THE INPUT: true; the input reads as it did. -/
def wdogNilSpec : ChangeSpec := { name := "wdogNil", fn := fun _ => fun
  | [d1, d2, d3] => { results := [.lit (.bool true)], args := [d1, d2, d3] }
  | _ => none }
def wdogNilRow : OpenClaim := { program := "ytndndlegefhafaa", sum := "c2ef7235f076ffe493e30ab7ba44c99f9c6806ff9c0789be93eb6ad535afcfba", func := "minuterie/minuterielaw08.WdogNil", spec := "wdogNil", apart := false }
def WdogNilSaid : Prop := wdogNilRow.holds Try.pinned (OpenSpec.ofChange wdogNilSpec)

/-- ITS FALSE NEIGHBOUR: 'it returns false'. Refute it at one input. -/
def wdogNilWrong : ChangeSpec := { name := "wdogNil", fn := fun _ => fun
  | [d1, d2, d3] => { results := [.lit (.bool false)], args := [d1, d2, d3] }
  | _ => none }
def WdogNilWrongFalsely : Prop := wdogNilRow.holds Try.pinned (OpenSpec.ofChange wdogNilWrong)

/- THE SECOND FORM. 'bulk': how many values and letters a reading holds, each counted each time it is reached (what is shared counts as often as it is met; a slice's spare places count too). A statement '..UptoSaid' is the law's where the arguments, and the package variables that the reading takes, are together of bulk at most 1048576: NARROWER than '..Said'. Prove '..Said' where nothing that the law and all that it calls make is longer than what came in: it says more and counts as full. Else prove '..UptoSaid'. A law counts once. -/
mutual
def uptoBulk {H : Type} : DataW H → Nat
  | .lit (.string bytes) => bytes.length + 1
  | .lit _ => 1
  | .nil => 1
  | .ptr d => uptoBulk d + 1
  | .slice elems spare => uptoBulkAll elems + uptoBulkAll spare + 1
  | .agg parts => uptoBulkAll parts + 1
  | .iface _ d => uptoBulk d + 1
  | .map entries => uptoBulkEntries entries + 1
  | .held _ => 1
def uptoBulkAll {H : Type} : List (DataW H) → Nat
  | [] => 0
  | d :: r => uptoBulk d + uptoBulkAll r
def uptoBulkEntries {H : Type} : List (Lit × DataW H) → Nat
  | [] => 0
  | x :: r => uptoBulkEntry x + uptoBulkEntries r
def uptoBulkEntry {H : Type} : Lit × DataW H → Nat
  | (.string bytes, d) => bytes.length + uptoBulk d + 1
  | (_, d) => uptoBulk d + 1
 end
def uptoSmall : (H : Type) → List (DataW H) → Bool := fun _ ds => decide (uptoBulkAll ds ≤ 1048576)
def OpenSpec.upto (s : _root_.Go.ChangeSpec) : _root_.Go.OpenSpec := { _root_.Go.OpenSpec.ofChange s with cond := some uptoSmall }

/-- 'minuterielaw08.WdogWindow', WHERE WHAT IT READS IS OF BULK AT MOST 1048576: true; the input reads as it did. -/
def wdogWindowUptoRow : OpenClaim := { program := "ytndndlegefhafaa", sum := "c2ef7235f076ffe493e30ab7ba44c99f9c6806ff9c0789be93eb6ad535afcfba", func := "minuterie/minuterielaw08.WdogWindow", spec := "wdogWindow", apart := false, narrowed := true }
def WdogWindowUptoSaid : Prop := wdogWindowUptoRow.holds Try.pinned (OpenSpec.upto wdogWindowSpec)

/-- 'minuterielaw08.WdogLocks', WHERE WHAT IT READS IS OF BULK AT MOST 1048576: true; the input reads as it did. -/
def wdogLocksUptoRow : OpenClaim := { program := "ytndndlegefhafaa", sum := "c2ef7235f076ffe493e30ab7ba44c99f9c6806ff9c0789be93eb6ad535afcfba", func := "minuterie/minuterielaw08.WdogLocks", spec := "wdogLocks", apart := false, narrowed := true }
def WdogLocksUptoSaid : Prop := wdogLocksUptoRow.holds Try.pinned (OpenSpec.upto wdogLocksSpec)

/-- 'minuterielaw08.WdogPlays', WHERE WHAT IT READS IS OF BULK AT MOST 1048576: true; the input reads as it did. -/
def wdogPlaysUptoRow : OpenClaim := { program := "ytndndlegefhafaa", sum := "c2ef7235f076ffe493e30ab7ba44c99f9c6806ff9c0789be93eb6ad535afcfba", func := "minuterie/minuterielaw08.WdogPlays", spec := "wdogPlays", apart := false, narrowed := true }
def WdogPlaysUptoSaid : Prop := wdogPlaysUptoRow.holds Try.pinned (OpenSpec.upto wdogPlaysSpec)

/-- 'minuterielaw08.WdogLeft', WHERE WHAT IT READS IS OF BULK AT MOST 1048576: true; the input reads as it did. -/
def wdogLeftUptoRow : OpenClaim := { program := "ytndndlegefhafaa", sum := "c2ef7235f076ffe493e30ab7ba44c99f9c6806ff9c0789be93eb6ad535afcfba", func := "minuterie/minuterielaw08.WdogLeft", spec := "wdogLeft", apart := false, narrowed := true }
def WdogLeftUptoSaid : Prop := wdogLeftUptoRow.holds Try.pinned (OpenSpec.upto wdogLeftSpec)

/-- 'minuterielaw08.WdogNil', WHERE WHAT IT READS IS OF BULK AT MOST 1048576: true; the input reads as it did. -/
def wdogNilUptoRow : OpenClaim := { program := "ytndndlegefhafaa", sum := "c2ef7235f076ffe493e30ab7ba44c99f9c6806ff9c0789be93eb6ad535afcfba", func := "minuterie/minuterielaw08.WdogNil", spec := "wdogNil", apart := false, narrowed := true }
def WdogNilUptoSaid : Prop := wdogNilUptoRow.holds Try.pinned (OpenSpec.upto wdogNilSpec)

end Rows
end Go.Proofs.Ytndndlegefhafaa
