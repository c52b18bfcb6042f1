/- A date, read out of the argument. Its conditions: those that its statement shows. -/
import Derived.Test.YtajjibfipkijfaaH1
import Derived.ChangeArms
import Derived.ProofKit
import Derived.WideShapes
set_option linter.unusedVariables false
namespace Go.Proofs.Ytajjibfipkijfaa
open Go.ChangeShapes Go.WideShapes Go.RowKit

theorem drop_one {cs : List Value} {j : Nat} (h : j < cs.length) : (cs.drop j).take 1 = [cs[j]] := by
  rw [List.drop_eq_getElem_cons h]; rfl

theorem list6 {α : Type} : ∀ (l : List α), l.length = 6 → ∃ a b c d e f, l = [a, b, c, d, e, f]
  | [a, b, c, d, e, f], _ => ⟨a, b, c, d, e, f, rfl⟩

theorem date_of_arg {H : Type} {enc : TypeId × Value → H} {W : World} {v : Value} {d : DataW H} {p : List MemPlace} (hv : ∃ cs, v = .agg cs ∧ cs.size = 6)
    (h : DataW.Trod enc Try.prog W 0 (fun _ => true) true 24 v d p) : ∃ x : DT, v = .agg x.cs := by
  obtain ⟨fuel, hf⟩ := h
  obtain ⟨⟨l⟩, rfl, hz⟩ := hv
  obtain ⟨a0, a1, a2, a3, a4, a5, rfl⟩ := list6 l (by simpa using hz)
  obtain ⟨xs, k, _, _, hlen, hxl, hat⟩ := DataW.trod_struct Try.underlying24 hf
  have e0 : Try.prog.cellsOf 3 = 1 := by kernel_rfl
  have hj : ∀ j, j < 6 → ∃ n, [a0, a1, a2, a3, a4, a5][j]? = some (I n) := fun j hj => by
    have hx : xs[j]? = some (xs[j]'(by rw [hxl]; exact hj)) := List.getElem?_eq_getElem (by rw [hxl]; exact hj)
    have h2 : DataW.trod enc Try.prog W 0 (fun _ => true) true k 3 (([a0, a1, a2, a3, a4, a5].drop j).take (Try.prog.cellsOf 3)) = xs[j]? := by
      match j, hj with
      | 0, _ => exact hat 0 _ rfl
      | 1, _ => exact hat 1 _ rfl
      | 2, _ => exact hat 2 _ rfl
      | 3, _ => exact hat 3 _ rfl
      | 4, _ => exact hat 4 _ rfl
      | 5, _ => exact hat 5 _ rfl
    rw [e0, drop_one (by simpa using hj), hx] at h2
    obtain ⟨n, g, _, _⟩ := DataW.trod_int Try.underlying3 h2
    simp only [List.cons.injEq, and_true] at g
    exact ⟨n, by rw [List.getElem?_eq_getElem (by simpa using hj), g]⟩
  obtain ⟨n0, g0⟩ := hj 0 (by omega)
  obtain ⟨n1, g1⟩ := hj 1 (by omega)
  obtain ⟨n2, g2⟩ := hj 2 (by omega)
  obtain ⟨n3, g3⟩ := hj 3 (by omega)
  obtain ⟨n4, g4⟩ := hj 4 (by omega)
  obtain ⟨n5, g5⟩ := hj 5 (by omega)
  simp at g0 g1 g2 g3 g4 g5
  subst g0 g1 g2 g3 g4 g5
  exact ⟨⟨n0, n1, n2, n3, n4, n5⟩, rfl⟩
end Go.Proofs.Ytajjibfipkijfaa
