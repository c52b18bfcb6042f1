/- Lemmas for the laws of chapter 30 (civil): contracts of functions of the program, each under the premises that its own statement shows. -/
import Derived.Test.YtajjibfipkijfaaA3
import Derived.Test.YtajjibfipkijfaaA4
set_option linter.unusedVariables false
namespace Go.Proofs.Ytajjibfipkijfaa
open Go.RowKit

theorem right_any (y m d h i s : Int) (w : World) :
    Calls Try.prog 12 #[.agg #[.int .i64 y, .int .i64 m, .int .i64 d, .int .i64 h, .int .i64 i, .int .i64 s]] w fun e w' => e = .returned (.bool (rightB y m d h i s)) ∧ Below w.heap.size w w' := by
  by_cases z0 : y = 0
  · subst z0
    have hr : rightB 0 m d h i s = false := by simp [rightB, withinB]
    rw [hr]
    by_cases z1 : m = 0
    · subst z1
      by_cases z2 : d = 0
      · subst z2
        by_cases z3 : h = 0
        · subst z3
          by_cases z4 : i = 0
          · subst z4
            by_cases z5 : s = 0
            · subst z5; exact right_z6 w
            · exact right_z5 s z5 w
          · exact right_z4 i s z4 w
        · exact right_z3 h i s z3 w
      · exact right_z2 d h i s z2 w
    · exact right_z1 m d h i s z1 w
  cases hy : withinB y 1970 9999
  · have hr : rightB y m d h i s = false := by simp [rightB, hy]
    rw [hr]; exact right_n0 y m d h i s z0 hy w
  cases hd : withinB d 1 (daysB y m)
  · have hr : rightB y m d h i s = false := by simp [rightB, hd]
    rw [hr]; exact right_n1 y m d h i s hy hd w
  cases hh : withinB h 0 23
  · have hr : rightB y m d h i s = false := by simp [rightB, hh]
    rw [hr]; exact right_n2 y m d h i s hy hd hh w
  cases hi : withinB i 0 59
  · have hr : rightB y m d h i s = false := by simp [rightB, hi]
    rw [hr]; exact right_n3 y m d h i s hy hd hh hi w
  cases hs : withinB s 0 59
  · have hr : rightB y m d h i s = false := by simp [rightB, hs]
    rw [hr]; exact right_n4 y m d h i s hy hd hh hi hs w
  have hr : rightB y m d h i s = true := by simp [rightB, hy, hd, hh, hi, hs]
  rw [hr]; exact right_n5 y m d h i s hy hd hh hi hs w
end Go.Proofs.Ytajjibfipkijfaa
