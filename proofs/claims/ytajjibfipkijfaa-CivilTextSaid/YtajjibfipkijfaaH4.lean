/- The order of dates is the order of their seconds; the day behind a day. Plain numbers. -/
import Derived.Test.YtajjibfipkijfaaH1
set_option linter.unusedVariables false
namespace Go.Proofs.Ytajjibfipkijfaa
open Go.RowKit

theorem cum_le_len (y m : Int) (hy : 1 ≤ y) (h1 : 1 ≤ m) (h2 : m ≤ 12) : cumB y (m + 1) ≤ lenB y := by
  rw [← cum_13]; exact cum_mono y (m + 1) 13 hy (by omega) (by omega) (by omega)

/-- A date ahead of another one by year, month or day has the smaller number. -/
theorem day_lt {n n' y m d y' m' d' : Int} (h : IsDate n y m d) (h' : IsDate n' y' m' d') (hl : y < y' ∨ (y = y' ∧ (m < m' ∨ (m = m' ∧ d < d')))) : n < n' := by
  rcases hl with hl | ⟨rfl, hl⟩
  · have a1 := h.high
    have a2 := h'.low
    have a3 := ahead_mono (y + 1) y' (by have := h.y0; omega) (by omega)
    omega
  · rcases hl with hl | ⟨rfl, hl⟩
    · have a1 := h.mhigh
      have a2 := h'.mlow
      have a3 := cum_mono y (m + 1) m' (by have := h.y0; omega) (by have := h.m0; omega) (by omega) (by have := h'.m1; omega)
      omega
    · have a1 := h.num
      have a2 := h'.num
      omega

theorem sec_lt {x0 x1 x2 x3 x4 x5 y0 y1 y2 y3 y4 y5 : Int} (h : rightB x0 x1 x2 x3 x4 x5 = true) (h' : rightB y0 y1 y2 y3 y4 y5 = true)
    (hl : x0 < y0 ∨ (x0 = y0 ∧ (x1 < y1 ∨ (x1 = y1 ∧ (x2 < y2 ∨ (x2 = y2 ∧ (x3 < y3 ∨ (x3 = y3 ∧ (x4 < y4 ∨ (x4 = y4 ∧ x5 < y5)))))))))) : secB x0 x1 x2 x3 x4 x5 < secB y0 y1 y2 y3 y4 y5 := by
  obtain ⟨d1, _, _, _, _, _⟩ := right_date h
  obtain ⟨d2, _, _, _, _, _⟩ := right_date h'
  obtain ⟨_, _, _, _, _, _, p0, p1, p2, p3, p4, p5⟩ := right_m h
  obtain ⟨_, _, _, _, _, _, q0, q1, q2, q3, q4, q5⟩ := right_m h'
  have n1 := d1.num
  have n2 := d2.num
  have day : x0 < y0 ∨ (x0 = y0 ∧ (x1 < y1 ∨ (x1 = y1 ∧ x2 < y2))) → secB x0 x1 x2 x3 x4 x5 < secB y0 y1 y2 y3 y4 y5 := fun hl => by
    have := day_lt d1 d2 hl
    omega
  rcases hl with hl | ⟨e0, hl⟩
  · exact day (Or.inl hl)
  rcases hl with hl | ⟨e1, hl⟩
  · exact day (Or.inr ⟨e0, Or.inl hl⟩)
  rcases hl with hl | ⟨e2, hl⟩
  · exact day (Or.inr ⟨e0, Or.inr ⟨e1, hl⟩⟩)
  subst e0 e1 e2
  unfold secB
  omega

/-- The day behind a day. -/
theorem next_day {n y m d : Int} (h : IsDate n y m d) (hn : n + 1 ≤ 2932896) :
    (d + 1 ≤ daysB y m ∧ IsDate (n + 1) y m (d + 1)) ∨ (d = daysB y m ∧ 28 ≤ d ∧ ∃ y' m', IsDate (n + 1) y' m' 1) := by
  have y0 := h.y0
  have y1 := h.y1
  have hb := days_bd y m (by omega) h.m0 h.m1
  have num := h.num
  have d1 := h.d1
  by_cases hd : d + 1 ≤ daysB y m
  · exact Or.inl ⟨hd, h.y0, h.y1, h.m0, h.m1, by have := h.d0; omega, hd, by omega⟩
  · refine Or.inr ⟨by omega, by omega, ?_⟩
    have hc := cum_succ y m (by omega) h.m0 h.m1
    by_cases hm : m ≤ 11
    · have hb' := days_bd y (m + 1) (by omega) (by have := h.m0; omega) (by omega)
      exact ⟨y, m + 1, h.y0, h.y1, by have := h.m0; omega, by omega, by omega, by omega, by omega⟩
    · have hm12 : m = 12 := by have := h.m1; omega
      subst hm12
      have hl := ahead_succ y (by omega)
      have h13 := cum_13 y
      rw [show (12 : Int) + 1 = 13 from rfl] at hc
      have hy : y + 1 ≤ 9999 := by
        have := ahead_10000
        by_cases hy : y + 1 ≤ 9999
        · exact hy
        · have : y = 9999 := by omega
          subst this
          rw [show (9999 : Int) + 1 = 10000 from rfl] at hl
          omega
      have hb' := days_bd (y + 1) 1 (by omega) (by omega) (by omega)
      have hc1 := cum_1 (y + 1)
      exact ⟨y + 1, 1, by omega, hy, by omega, by omega, by omega, by omega, by omega⟩
end Go.Proofs.Ytajjibfipkijfaa
