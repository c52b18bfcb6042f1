/- Lemmas for the laws of chapter 30 (civil): contracts of functions of the program, each under the premises that its own statement shows. -/
import Derived.Test.YtajjibfipkijfaaA1
set_option linter.unusedVariables false
namespace Go.Proofs.Ytajjibfipkijfaa

def leapI (y : Int) : Int := if leapB y then 1 else 0
theorem leapI_bd (y : Int) : 0 ≤ leapI y ∧ leapI y ≤ 1 := by unfold leapI; split <;> omega

theorem leapI_eq (y : Int) (h : 1 ≤ y) : leapI y = (y / 4 - (y - 1) / 4) - (y / 100 - (y - 1) / 100) + (y / 400 - (y - 1) / 400) := by
  unfold leapI leapB
  by_cases h4 : y % 4 = 0 <;> by_cases h100 : y % 100 = 0 <;> by_cases h400 : y % 400 = 0 <;> simp [h4, h100, h400] <;> omega

theorem lenB_eq (y : Int) : lenB y = 365 + leapI y := by unfold lenB leapI; split <;> rfl

theorem ahead_succ (y : Int) (h : 1 ≤ y) : aheadB (y + 1) = aheadB y + lenB y := by
  rw [lenB_eq, leapI_eq y h]; unfold aheadB; omega

theorem ahead_mono (a b : Int) (h0 : 1 ≤ a) (h : a ≤ b) : aheadB a ≤ aheadB b := by unfold aheadB; omega

def cumB (y m : Int) : Int :=
  if m = 1 then 0 else if m = 2 then 31 else leapI y + (if m = 3 then 59 else if m = 4 then 90 else if m = 5 then 120 else if m = 6 then 151 else if m = 7 then 181 else if m = 8 then 212 else if m = 9 then 243 else if m = 10 then 273 else if m = 11 then 304 else if m = 12 then 334 else 365)

theorem daysB_feb (y : Int) (h : 1 ≤ y) : daysB y 2 = 28 + leapI y := by
  unfold daysB leapI
  rw [if_neg (by omega), if_pos rfl]; split <;> rfl

theorem cum_succ (y m : Int) (hy : 1 ≤ y) (h1 : 1 ≤ m) (h2 : m ≤ 12) : cumB y (m + 1) = cumB y m + daysB y m := by
  have hf := daysB_feb y hy
  have ho : m ≠ 2 → daysB y m = if m = 4 ∨ m = 6 ∨ m = 9 ∨ m = 11 then 30 else 31 := fun hne => by
    unfold daysB; rw [if_neg (by omega), if_neg hne]
  rcases (by omega : m = 1 ∨ m = 2 ∨ m = 3 ∨ m = 4 ∨ m = 5 ∨ m = 6 ∨ m = 7 ∨ m = 8 ∨ m = 9 ∨ m = 10 ∨ m = 11 ∨ m = 12) with rfl | rfl | rfl | rfl | rfl | rfl | rfl | rfl | rfl | rfl | rfl | rfl
  case inr.inl => rw [hf]; simp [cumB]; omega
  all_goals
    rw [ho (by omega)]; simp [cumB]; try omega

theorem days_bd (y m : Int) (hy : 1 ≤ y) (h1 : 1 ≤ m) (h2 : m ≤ 12) : 28 ≤ daysB y m ∧ daysB y m ≤ 31 := by
  have hb := leapI_bd y
  by_cases h : m = 2
  · subst h; rw [daysB_feb y hy]; omega
  · unfold daysB; rw [if_neg (by omega), if_neg h]; split <;> omega

theorem cum_mono1 (y : Int) (hy : 1 ≤ y) (k : Nat) : ∀ m : Int, 1 ≤ m → m + k ≤ 13 → cumB y m ≤ cumB y (m + k) := by
  induction k with
  | zero => intro m _ _; simp
  | succ k ih =>
    intro m h1 h2
    have e := cum_succ y (m + k) hy (by omega) (by omega)
    have hd := days_bd y (m + k) hy (by omega) (by omega)
    have := ih m h1 (by omega)
    have e2 : m + (↑(k + 1) : Int) = m + k + 1 := by omega
    rw [e2, e]; omega

theorem cum_mono (y a b : Int) (hy : 1 ≤ y) (h1 : 1 ≤ a) (h : a ≤ b) (h2 : b ≤ 13) : cumB y a ≤ cumB y b := by
  have := cum_mono1 y hy (b - a).toNat a h1 (by omega)
  rwa [show a + ((b - a).toNat : Int) = b by omega] at this

theorem cum_13 (y : Int) : cumB y 13 = lenB y := by rw [lenB_eq]; simp [cumB]; omega
theorem cum_1 (y : Int) : cumB y 1 = 0 := by simp [cumB]

/-- Day number n (from 1970 on) is the day y-m-d. -/
structure IsDate (n y m d : Int) : Prop where
  y0 : 1970 ≤ y
  y1 : y ≤ 9999
  m0 : 1 ≤ m
  m1 : m ≤ 12
  d0 : 1 ≤ d
  d1 : d ≤ daysB y m
  num : n = aheadB y + cumB y m + d - 1

theorem IsDate.low {n y m d : Int} (h : IsDate n y m d) : aheadB y ≤ n := by
  have := cum_mono y 1 m (by have := h.y0; omega) (by omega) h.m0 (by have := h.m1; omega)
  have := cum_1 y
  have := h.num; have := h.d0; omega

theorem IsDate.high {n y m d : Int} (h : IsDate n y m d) : n < aheadB (y + 1) := by
  have hy : 1 ≤ y := by have := h.y0; omega
  have h1 := cum_mono y (m + 1) 13 hy (by have := h.m0; omega) (by have := h.m1; omega) (by omega)
  rw [cum_13, cum_succ y m hy h.m0 h.m1] at h1
  rw [ahead_succ y hy]
  have := h.num; have := h.d1; omega

theorem IsDate.mlow {n y m d : Int} (h : IsDate n y m d) : aheadB y + cumB y m ≤ n := by have := h.num; have := h.d0; omega
theorem IsDate.mhigh {n y m d : Int} (h : IsDate n y m d) : n < aheadB y + cumB y (m + 1) := by
  rw [cum_succ y m (by have := h.y0; omega) h.m0 h.m1]
  have := h.num; have := h.d1; omega

theorem ahead_1970 : aheadB 1970 = 0 := by decide
theorem ahead_10000 : aheadB 10000 = 2932897 := by decide

theorem IsDate.n0 {n y m d : Int} (h : IsDate n y m d) : 0 ≤ n := by
  have := h.low; have := ahead_mono 1970 y (by omega) h.y0; have := ahead_1970; omega
theorem IsDate.n1 {n y m d : Int} (h : IsDate n y m d) : n ≤ 2932896 := by
  have := h.high; have := ahead_mono (y + 1) 10000 (by have := h.y0; omega) (by have := h.y1; omega); have := ahead_10000; omega

theorem year_of (n : Int) (h0 : 0 ≤ n) (k : Nat) : n < aheadB (1970 + k) → ∃ y : Int, 1970 ≤ y ∧ y < 1970 + k ∧ aheadB y ≤ n ∧ n < aheadB (y + 1) := by
  induction k with
  | zero => intro h; have := ahead_1970; simp at h; omega
  | succ k ih =>
    intro h
    by_cases hk : n < aheadB (1970 + k)
    · obtain ⟨y, a, b, c, d⟩ := ih hk
      exact ⟨y, a, by omega, c, d⟩
    · exact ⟨1970 + k, by omega, by omega, by omega, by rwa [show (1970 : Int) + k + 1 = 1970 + ↑(k + 1) by omega]⟩

theorem month_of (y r : Int) (hy : 1 ≤ y) (h0 : 0 ≤ r) (k : Nat) : (k : Int) ≤ 12 → r < cumB y (1 + k) → ∃ m : Int, 1 ≤ m ∧ m < 1 + k ∧ cumB y m ≤ r ∧ r < cumB y (m + 1) := by
  induction k with
  | zero => intro _ h; have := cum_1 y; simp at h; omega
  | succ k ih =>
    intro hk12 h
    by_cases hk : r < cumB y (1 + k)
    · obtain ⟨m, a, b, c, d⟩ := ih (by omega) hk
      exact ⟨m, a, by omega, c, d⟩
    · exact ⟨1 + k, by omega, by omega, by omega, by rwa [show (1 : Int) + k + 1 = 1 + ↑(k + 1) by omega]⟩

theorem date_of (n : Int) (h0 : 0 ≤ n) (h1 : n ≤ 2932896) : ∃ y m d, IsDate n y m d := by
  obtain ⟨y, y0, y1, a, b⟩ := year_of n h0 8030 (by have := ahead_10000; show n < aheadB 10000; omega)
  have hy : 1 ≤ y := by omega
  rw [ahead_succ y hy, ← cum_13] at b
  obtain ⟨m, m0, m1, c, d⟩ := month_of y (n - aheadB y) hy (by omega) 12 (by omega) (by show _ < cumB y 13; omega)
  have m12 : m ≤ 12 := by omega
  rw [cum_succ y m hy m0 m12] at d
  exact ⟨y, m, n - aheadB y - cumB y m + 1, y0, by omega, m0, m12, by omega, by omega, by omega⟩

theorem IsDate.year_le {n y m d n' y' m' d' : Int} (h : IsDate n y m d) (h' : IsDate n' y' m' d') (hn : n ≤ n') : y ≤ y' := by
  apply Int.not_lt.mp
  intro hl
  have := ahead_mono (y' + 1) y (by have := h'.y0; omega) (by omega)
  have := h.low; have := h'.high; omega

theorem IsDate.month_le {n y m d n' m' d' : Int} (h : IsDate n y m d) (h' : IsDate n' y m' d') (hn : n ≤ n') : m ≤ m' := by
  apply Int.not_lt.mp
  intro hl
  have := cum_mono y (m' + 1) m (by have := h.y0; omega) (by have := h'.m0; omega) (by omega) (by have := h.m1; omega)
  have := h.mlow; have := h'.mhigh; omega

theorem IsDate.uniq {n y m d y' m' d' : Int} (h : IsDate n y m d) (h' : IsDate n y' m' d') : y = y' ∧ m = m' ∧ d = d' := by
  have a := h.year_le h' (Int.le_refl _); have b := h'.year_le h (Int.le_refl _)
  obtain rfl : y = y' := by omega
  have c := h.month_le h' (Int.le_refl _); have d := h'.month_le h (Int.le_refl _)
  obtain rfl : m = m' := by omega
  have := h.num; have := h'.num
  exact ⟨rfl, rfl, by omega⟩
end Go.Proofs.Ytajjibfipkijfaa
