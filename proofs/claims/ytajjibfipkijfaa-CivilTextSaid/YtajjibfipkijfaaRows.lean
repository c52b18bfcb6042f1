/-
  No cell of these rows narrows 'for every input' (looked for: loops, veiled, ifaces, maps, wideKeys, modest, calm, conditions, laid).
  DERIVED. THE GIVEN ROWS OF THIS SEAT. 4 by the template 'for every input the law returns true; each argument reads behind the call as it read before'; 0 by the template 'total and deterministic' (their statements: YtajjibfipkijfaaTotals.lean).
  GIVEN WITH THE SEED: the statements are not yours to turn. If you find one false, say at which input.
  Laid BY PROGRAM, IN A SANDBOX (cutbox-rows.mjs): the forced cells as the released guide's own fill.sh prints them over the translation a5ed845c8b04db85… (all of the seat's roots in one cut). By AI agents, Wed Nov 11 2026. No macro, syntax, notation, axiom, sorry.
-/
import Derived.Test.YtajjibfipkijfaaChecked
import GoSem.Claim
import GoSem.ClaimJoined
import GoSem.ClaimMapViews
import Derived.JoinedTies
import Derived.KernelRfl
namespace Go.Proofs.Ytajjibfipkijfaa
/- THE CELL 'sum', in the pinned program and in every row, IS THE sha256 OF THE DUMP (.gsa) THAT YtajjibfipkijfaaProg.lean LOADS. Nothing in Lean hashes anything: it is a label: what it is worth is what the hold of that sum in a sandbox is worth. -/
noncomputable def Try.pinned : Pinned := { name := "ytajjibfipkijfaa", sum := "a5ed845c8b04db85ae1bc486594a7b622589377e46cb2aa87277c6cecab925cd", checked := Try.checked }
namespace Rows
def none {H : Type} : Left H := { results := [], args := [] }

/-- 'minuterielaw30.CivilOf': WHATEVER THE INPUT: true; the input reads as it did. -/
def civilOfSpec : ChangeSpec := { name := "civilOf", fn := fun _ => fun
  | [d1, d2] => { results := [.lit (.bool true)], args := [d1, d2] }
  | _ => none }
def civilOfRow : OpenClaim := { program := "ytajjibfipkijfaa", sum := "a5ed845c8b04db85ae1bc486594a7b622589377e46cb2aa87277c6cecab925cd", func := "minuterie/minuterielaw30.CivilOf", spec := "civilOf", unfollowed := true, recurses := true, apart := false }
def CivilOfSaid : Prop := civilOfRow.holds Try.pinned (OpenSpec.ofChange civilOfSpec)

/-- ITS FALSE NEIGHBOUR: 'it returns false'. Refute it at one input. -/
def civilOfWrong : ChangeSpec := { name := "civilOf", fn := fun _ => fun
  | [d1, d2] => { results := [.lit (.bool false)], args := [d1, d2] }
  | _ => none }
def CivilOfWrongFalsely : Prop := civilOfRow.holds Try.pinned (OpenSpec.ofChange civilOfWrong)

/-- 'minuterielaw30.CivilGoes': WHATEVER THE INPUT: true; the input reads as it did. -/
def civilGoesSpec : ChangeSpec := { name := "civilGoes", fn := fun _ => fun
  | [d1, d2] => { results := [.lit (.bool true)], args := [d1, d2] }
  | _ => none }
def civilGoesRow : OpenClaim := { program := "ytajjibfipkijfaa", sum := "a5ed845c8b04db85ae1bc486594a7b622589377e46cb2aa87277c6cecab925cd", func := "minuterie/minuterielaw30.CivilGoes", spec := "civilGoes", unfollowed := true, recurses := true, apart := false }
def CivilGoesSaid : Prop := civilGoesRow.holds Try.pinned (OpenSpec.ofChange civilGoesSpec)

/-- ITS FALSE NEIGHBOUR: 'it returns false'. Refute it at one input. -/
def civilGoesWrong : ChangeSpec := { name := "civilGoes", fn := fun _ => fun
  | [d1, d2] => { results := [.lit (.bool false)], args := [d1, d2] }
  | _ => none }
def CivilGoesWrongFalsely : Prop := civilGoesRow.holds Try.pinned (OpenSpec.ofChange civilGoesWrong)

/-- 'minuterielaw30.CivilMonths': WHATEVER THE INPUT: true; the input reads as it did. -/
def civilMonthsSpec : ChangeSpec := { name := "civilMonths", fn := fun _ => fun
  | [d1, d2] => { results := [.lit (.bool true)], args := [d1, d2] }
  | _ => none }
def civilMonthsRow : OpenClaim := { program := "ytajjibfipkijfaa", sum := "a5ed845c8b04db85ae1bc486594a7b622589377e46cb2aa87277c6cecab925cd", func := "minuterie/minuterielaw30.CivilMonths", spec := "civilMonths", unfollowed := true, recurses := true, apart := false }
def CivilMonthsSaid : Prop := civilMonthsRow.holds Try.pinned (OpenSpec.ofChange civilMonthsSpec)

/-- ITS FALSE NEIGHBOUR: 'it returns false'. Refute it at one input. -/
def civilMonthsWrong : ChangeSpec := { name := "civilMonths", fn := fun _ => fun
  | [d1, d2] => { results := [.lit (.bool false)], args := [d1, d2] }
  | _ => none }
def CivilMonthsWrongFalsely : Prop := civilMonthsRow.holds Try.pinned (OpenSpec.ofChange civilMonthsWrong)

/-- 'minuterielaw30.CivilText': WHATEVER THE INPUT: true; the input reads as it did. -/
def civilTextSpec : ChangeSpec := { name := "civilText", fn := fun _ => fun
  | [d1, d2] => { results := [.lit (.bool true)], args := [d1, d2] }
  | _ => none }
def civilTextRow : OpenClaim := { program := "ytajjibfipkijfaa", sum := "a5ed845c8b04db85ae1bc486594a7b622589377e46cb2aa87277c6cecab925cd", func := "minuterie/minuterielaw30.CivilText", spec := "civilText", unfollowed := true, recurses := true, apart := false }
def CivilTextSaid : Prop := civilTextRow.holds Try.pinned (OpenSpec.ofChange civilTextSpec)

/-- ITS FALSE NEIGHBOUR: 'it returns false'. Refute it at one input. -/
def civilTextWrong : ChangeSpec := { name := "civilText", fn := fun _ => fun
  | [d1, d2] => { results := [.lit (.bool false)], args := [d1, d2] }
  | _ => none }
def CivilTextWrongFalsely : Prop := civilTextRow.holds Try.pinned (OpenSpec.ofChange civilTextWrong)

/- THE SECOND FORM. 'bulk': how many values and letters a reading holds, each counted each time it is reached (what is shared counts as often as it is met; a slice's spare places count too). A statement '..UptoSaid' is the law's where the arguments, and the package variables that the reading takes, are together of bulk at most 1048576: NARROWER than '..Said'. Prove '..Said' where nothing that the law and all that it calls make is longer than what came in: it says more and counts as full. Else prove '..UptoSaid'. A law counts once. -/
mutual
def uptoBulk {H : Type} : DataW H → Nat
  | .lit (.string bytes) => bytes.length + 1
  | .lit _ => 1
  | .nil => 1
  | .ptr d => uptoBulk d + 1
  | .slice elems spare => uptoBulkAll elems + uptoBulkAll spare + 1
  | .agg parts => uptoBulkAll parts + 1
  | .iface _ d => uptoBulk d + 1
  | .map entries => uptoBulkEntries entries + 1
  | .held _ => 1
def uptoBulkAll {H : Type} : List (DataW H) → Nat
  | [] => 0
  | d :: r => uptoBulk d + uptoBulkAll r
def uptoBulkEntries {H : Type} : List (Lit × DataW H) → Nat
  | [] => 0
  | x :: r => uptoBulkEntry x + uptoBulkEntries r
def uptoBulkEntry {H : Type} : Lit × DataW H → Nat
  | (.string bytes, d) => bytes.length + uptoBulk d + 1
  | (_, d) => uptoBulk d + 1
 end
def uptoSmall : (H : Type) → List (DataW H) → Bool := fun _ ds => decide (uptoBulkAll ds ≤ 1048576)
def OpenSpec.upto (s : _root_.Go.ChangeSpec) : _root_.Go.OpenSpec := { _root_.Go.OpenSpec.ofChange s with cond := some uptoSmall }

/-- 'minuterielaw30.CivilOf', WHERE WHAT IT READS IS OF BULK AT MOST 1048576: true; the input reads as it did. -/
def civilOfUptoRow : OpenClaim := { program := "ytajjibfipkijfaa", sum := "a5ed845c8b04db85ae1bc486594a7b622589377e46cb2aa87277c6cecab925cd", func := "minuterie/minuterielaw30.CivilOf", spec := "civilOf", unfollowed := true, recurses := true, apart := false, narrowed := true }
def CivilOfUptoSaid : Prop := civilOfUptoRow.holds Try.pinned (OpenSpec.upto civilOfSpec)

/-- 'minuterielaw30.CivilGoes', WHERE WHAT IT READS IS OF BULK AT MOST 1048576: true; the input reads as it did. -/
def civilGoesUptoRow : OpenClaim := { program := "ytajjibfipkijfaa", sum := "a5ed845c8b04db85ae1bc486594a7b622589377e46cb2aa87277c6cecab925cd", func := "minuterie/minuterielaw30.CivilGoes", spec := "civilGoes", unfollowed := true, recurses := true, apart := false, narrowed := true }
def CivilGoesUptoSaid : Prop := civilGoesUptoRow.holds Try.pinned (OpenSpec.upto civilGoesSpec)

/-- 'minuterielaw30.CivilMonths', WHERE WHAT IT READS IS OF BULK AT MOST 1048576: true; the input reads as it did. -/
def civilMonthsUptoRow : OpenClaim := { program := "ytajjibfipkijfaa", sum := "a5ed845c8b04db85ae1bc486594a7b622589377e46cb2aa87277c6cecab925cd", func := "minuterie/minuterielaw30.CivilMonths", spec := "civilMonths", unfollowed := true, recurses := true, apart := false, narrowed := true }
def CivilMonthsUptoSaid : Prop := civilMonthsUptoRow.holds Try.pinned (OpenSpec.upto civilMonthsSpec)

/-- 'minuterielaw30.CivilText', WHERE WHAT IT READS IS OF BULK AT MOST 1048576: true; the input reads as it did. -/
def civilTextUptoRow : OpenClaim := { program := "ytajjibfipkijfaa", sum := "a5ed845c8b04db85ae1bc486594a7b622589377e46cb2aa87277c6cecab925cd", func := "minuterie/minuterielaw30.CivilText", spec := "civilText", unfollowed := true, recurses := true, apart := false, narrowed := true }
def CivilTextUptoSaid : Prop := civilTextUptoRow.holds Try.pinned (OpenSpec.upto civilTextSpec)

end Rows
end Go.Proofs.Ytajjibfipkijfaa
