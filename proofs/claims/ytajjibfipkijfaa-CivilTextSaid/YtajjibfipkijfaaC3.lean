/- Lemmas for the laws of chapter 30 (civil): contracts of functions of the program, each under the premises that its own statement shows. -/
import Derived.Test.YtajjibfipkijfaaC1
import Derived.Test.YtajjibfipkijfaaC2
set_option linter.unusedSimpArgs false
set_option linter.unusedVariables false
namespace Go.Proofs.Ytajjibfipkijfaa
open Go.RowKit

theorem rright_any (y m d h i s : Int) (w : World) :
    Calls Try.prog 13 #[.agg #[I y, I m, I d, I h, I i, I s]] w fun e w' => e = .returned (.bool (rightB y m d h i s)) ∧ Below w.heap.size w w' := by
  cases h0 : decide (1970 ≤ y)
  · have hr : rightB y m d h i s = false := by simp [rightB, withinB] at *; omega
    rw [hr]; exact rright_0 y m d h i s h0 w
  cases h1 : decide (y ≤ 9999)
  · have hr : rightB y m d h i s = false := by simp [rightB, withinB] at *; omega
    rw [hr]; exact rright_1 y m d h i s h0 h1 w
  cases h2 : decide (1 ≤ d)
  · have hr : rightB y m d h i s = false := by simp [rightB, withinB] at *; omega
    rw [hr]; exact rright_2 y m d h i s h0 h1 h2 w
  cases h3 : decide (d ≤ daysB y m)
  · have hr : rightB y m d h i s = false := by simp [rightB, withinB] at *; omega
    rw [hr]; exact rright_3 y m d h i s h0 h1 h2 h3 w
  cases h4 : decide (0 ≤ h)
  · have hr : rightB y m d h i s = false := by simp [rightB, withinB] at *; omega
    rw [hr]; exact rright_4 y m d h i s h0 h1 h2 h3 h4 w
  cases h5 : decide (h < 24)
  · have hr : rightB y m d h i s = false := by simp [rightB, withinB] at *; omega
    rw [hr]; exact rright_5 y m d h i s h0 h1 h2 h3 h4 h5 w
  cases h6 : decide (0 ≤ i)
  · have hr : rightB y m d h i s = false := by simp [rightB, withinB] at *; omega
    rw [hr]; exact rright_6 y m d h i s h0 h1 h2 h3 h4 h5 h6 w
  cases h7 : decide (i < 60)
  · have hr : rightB y m d h i s = false := by simp [rightB, withinB] at *; omega
    rw [hr]; exact rright_7 y m d h i s h0 h1 h2 h3 h4 h5 h6 h7 w
  cases h8 : decide (0 ≤ s)
  · have hr : rightB y m d h i s = false := by simp [rightB, withinB] at *; omega
    rw [hr]; exact rright_8 y m d h i s h0 h1 h2 h3 h4 h5 h6 h7 h8 w
  cases h9 : decide (s < 60)
  · have hr : rightB y m d h i s = false := by simp [rightB, withinB] at *; omega
    rw [hr]; exact rright_9 y m d h i s h0 h1 h2 h3 h4 h5 h6 h7 h8 h9 w
  have hr : rightB y m d h i s = true := by simp [rightB, withinB] at *; omega
  rw [hr]; exact rright_10 y m d h i s h0 h1 h2 h3 h4 h5 h6 h7 h8 h9 w
end Go.Proofs.Ytajjibfipkijfaa
