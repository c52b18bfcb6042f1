/- A list of calls in memory. Its conditions: those that its statement shows. -/
import Derived.Test.YtfjkfigjenalgaaK1
namespace Go.Proofs.Ytfjkfigjenalgaa
open Go.RowKit
set_option linter.unusedVariables false

/-- A call, as it lies in memory. -/
def ActAt (w : World) (sb o : Nat) (k n off v : Int) : Prop :=
  (0 ≤ n ∧ n ≤ 18446744073709551615 ∧ 0 ≤ off ∧ off ≤ 4294967295 ∧ 0 ≤ v ∧ v ≤ 4294967295) ∧ w.cell? ⟨sb, o, none⟩ = some (I k) ∧ w.cell? ⟨sb, o + 1, none⟩ = some (L n) ∧ w.cell? ⟨sb, o + 2, none⟩ = some (U off) ∧ w.cell? ⟨sb, o + 3, none⟩ = some (U v)

/-- A list of calls, as it lies in memory. -/
def Acts (w : World) (A : Option Addr) (len : Nat) : Prop :=
  ∀ i, i < len → ∃ sb so k n off v, A = some ⟨sb, so, none⟩ ∧ ActAt w sb (so + i * 4) k n off v

theorem ActAt.lt {w : World} {sb o : Nat} {k n off v : Int} (h : ActAt w sb o k n off v) : sb < w.heap.size := World.block_lt_of_cell? (w := w) (a := ⟨sb, o, none⟩) h.2.1
theorem ActAt.below {w w' : World} {sb o : Nat} {k n off v : Int} (h : ActAt w sb o k n off v) (hb : Below w.heap.size w w') : ActAt w' sb o k n off v := by
  have hl := h.lt
  obtain ⟨h0, h1, h2, h3, h4⟩ := h
  exact ⟨h0, (hb.cell (p := ⟨sb, o, none⟩) hl).trans h1, (hb.cell (p := ⟨sb, o + 1, none⟩) hl).trans h2, (hb.cell (p := ⟨sb, o + 2, none⟩) hl).trans h3, (hb.cell (p := ⟨sb, o + 3, none⟩) hl).trans h4⟩

end Go.Proofs.Ytfjkfigjenalgaa
