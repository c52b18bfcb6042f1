/- 'Less' is the order of the seconds; '==' their equality. -/
import Derived.Test.YtajjibfipkijfaaH4
set_option linter.unusedVariables false
namespace Go.Proofs.Ytajjibfipkijfaa
open Go.RowKit

theorem lex_true {x0 x1 x2 x3 x4 x5 y0 y1 y2 y3 y4 y5 : Int} : lexB [x0, x1, x2, x3, x4, x5] [y0, y1, y2, y3, y4, y5] = true ↔
    (x0 < y0 ∨ (x0 = y0 ∧ (x1 < y1 ∨ (x1 = y1 ∧ (x2 < y2 ∨ (x2 = y2 ∧ (x3 < y3 ∨ (x3 = y3 ∧ (x4 < y4 ∨ (x4 = y4 ∧ x5 < y5)))))))))) := by
  simp only [lexB]
  by_cases h0 : x0 = y0
  · by_cases h1 : x1 = y1
    · by_cases h2 : x2 = y2
      · by_cases h3 : x3 = y3
        · by_cases h4 : x4 = y4
          · by_cases h5 : x5 = y5
            · simp [h0, h1, h2, h3, h4, h5]
            · simp [h0, h1, h2, h3, h4, h5]
          · simp [h0, h1, h2, h3, h4]
        · simp [h0, h1, h2, h3]
      · simp [h0, h1, h2]
    · simp [h0, h1]
  · simp [h0]

theorem tri (x0 x1 x2 x3 x4 x5 y0 y1 y2 y3 y4 y5 : Int) : lexB [x0, x1, x2, x3, x4, x5] [y0, y1, y2, y3, y4, y5] = true ∨ (x0 = y0 ∧ x1 = y1 ∧ x2 = y2 ∧ x3 = y3 ∧ x4 = y4 ∧ x5 = y5) ∨ lexB [y0, y1, y2, y3, y4, y5] [x0, x1, x2, x3, x4, x5] = true := by
  rw [lex_true, lex_true]
  omega

theorem lex_sec (x y : DT) (hx : x.right = true) (hy : y.right = true) : lexB [x.y, x.m, x.d, x.h, x.i, x.s] [y.y, y.m, y.d, y.h, y.i, y.s] = decide (x.sec < y.sec) := by
  obtain ⟨x0, x1, x2, x3, x4, x5⟩ := x
  obtain ⟨y0, y1, y2, y3, y4, y5⟩ := y
  replace hx : rightB x0 x1 x2 x3 x4 x5 = true := hx
  replace hy : rightB y0 y1 y2 y3 y4 y5 = true := hy
  show lexB [x0, x1, x2, x3, x4, x5] [y0, y1, y2, y3, y4, y5] = decide (secB x0 x1 x2 x3 x4 x5 < secB y0 y1 y2 y3 y4 y5)
  rcases tri x0 x1 x2 x3 x4 x5 y0 y1 y2 y3 y4 y5 with h | ⟨rfl, rfl, rfl, rfl, rfl, rfl⟩ | h
  · rw [h]; exact (decide_eq_true (sec_lt hx hy (lex_true.1 h))).symm
  · rw [show decide (secB x0 x1 x2 x3 x4 x5 < secB x0 x1 x2 x3 x4 x5) = false by simp]
    simp [lexB]
  · have := sec_lt hy hx (lex_true.1 h)
    rw [show decide (secB x0 x1 x2 x3 x4 x5 < secB y0 y1 y2 y3 y4 y5) = false by simp; omega]
    cases hl : lexB [x0, x1, x2, x3, x4, x5] [y0, y1, y2, y3, y4, y5]
    · rfl
    · have := sec_lt hx hy (lex_true.1 hl); omega

theorem eq_sec (x y : DT) (hx : x.right = true) (hy : y.right = true) : (decide (x.y = y.y ∧ x.m = y.m ∧ x.d = y.d ∧ x.h = y.h ∧ x.i = y.i ∧ x.s = y.s)) = (x.sec == y.sec) := by
  obtain ⟨x0, x1, x2, x3, x4, x5⟩ := x
  obtain ⟨y0, y1, y2, y3, y4, y5⟩ := y
  replace hx : rightB x0 x1 x2 x3 x4 x5 = true := hx
  replace hy : rightB y0 y1 y2 y3 y4 y5 = true := hy
  rcases tri x0 x1 x2 x3 x4 x5 y0 y1 y2 y3 y4 y5 with h | ⟨rfl, rfl, rfl, rfl, rfl, rfl⟩ | h
  · have hs := sec_lt hx hy (lex_true.1 h)
    rw [Bool.eq_iff_iff]
    simp only [decide_eq_true_eq, beq_iff_eq]
    constructor
    · rintro ⟨a, b, c, d, e, f⟩
      subst a b c d e f
      rfl
    · intro e
      exact absurd (show secB x0 x1 x2 x3 x4 x5 = secB y0 y1 y2 y3 y4 y5 from e) (by omega)
  · simp
  · have hs := sec_lt hy hx (lex_true.1 h)
    rw [Bool.eq_iff_iff]
    simp only [decide_eq_true_eq, beq_iff_eq]
    constructor
    · rintro ⟨a, b, c, d, e, f⟩
      subst a b c d e f
      rfl
    · intro e
      exact absurd (show secB x0 x1 x2 x3 x4 x5 = secB y0 y1 y2 y3 y4 y5 from e) (by omega)
end Go.Proofs.Ytajjibfipkijfaa
