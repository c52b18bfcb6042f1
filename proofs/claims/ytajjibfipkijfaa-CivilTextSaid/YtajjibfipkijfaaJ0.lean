/- Which texts are dates. -/
import Derived.Test.YtajjibfipkijfaaJ1
set_option linter.unusedVariables false
namespace Go.Proofs.Ytajjibfipkijfaa
open Go.RowKit

/-- Is the byte at a place right? -/
def okAt (b : Nat → Int) (j : Nat) : Prop := if j = 4 ∨ j = 7 then b j = 45 else if j = 10 then b j = 84 else if j = 13 ∨ j = 16 then b j = 58 else DG b j
def okAll (b : Nat → Int) : Prop := ∀ j, j < 19 → okAt b j
def dateOf (b : Nat → Int) : DT := ⟨1000 * (b 0 - 48) + 100 * (b 1 - 48) + 10 * (b 2 - 48) + (b 3 - 48), 10 * (b 5 - 48) + (b 6 - 48), 10 * (b 8 - 48) + (b 9 - 48), 10 * (b 11 - 48) + (b 12 - 48), 10 * (b 14 - 48) + (b 15 - 48), 10 * (b 17 - 48) + (b 18 - 48)⟩

/-- What a text gives. -/
structure Res (b : Nat → Int) (r : DT) (e : Int) : Prop where
  bad : ¬ okAll b → r = DT.zero ∧ e = 3
  out : okAll b → (dateOf b).right = false → r = DT.zero ∧ e = 5
  yes : okAll b → (dateOf b).right = true → r = dateOf b ∧ e = 0

theorem okAll_up {b : Nat → Int} {k : Nat} (h : ∀ j, j < k → okAt b j) (hk : okAt b k) : ∀ j, j < k + 1 → okAt b j := fun j hj => by
  rcases Nat.lt_succ_iff_lt_or_eq.1 hj with h1 | h1
  · exact h j h1
  · subst h1; exact hk

end Go.Proofs.Ytajjibfipkijfaa
