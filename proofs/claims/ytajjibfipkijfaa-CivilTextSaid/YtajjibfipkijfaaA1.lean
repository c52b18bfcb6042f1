/- Lemmas for the laws of chapter 30 (civil): contracts of functions of the program, each under the premises that its own statement shows. -/
import Derived.Test.YtajjibfipkijfaaProg
import Derived.WalkKit
import Derived.WalkLawsBesides
import Derived.WalkSpells
import Derived.Deep.QuietTactic
import Derived.BigQuiet
import Derived.KernelRfl
set_option linter.unusedVariables false
namespace Go.Proofs.Ytajjibfipkijfaa
open Go.RowKit

theorem ret_int {k : IntKind} {a b : Int} (h : a = b) : Ending.returned (.int k a) = .returned (.int k b) := by rw [h]
theorem ret_bool {a b : Bool} (h : a = b) : Ending.returned (.bool a) = .returned (.bool b) := by rw [h]

def leapB (y : Int) : Bool := decide (0 < y) && (y % 4 == 0) && (!(y % 100 == 0) || y % 400 == 0)

theorem leap_any (y : Int) (w : World) :
    Calls Try.prog 14 #[.int .i64 y] w fun e w' => e = .returned (.bool (leapB y)) ∧ w = w' := by
  by_cases h0 : 0 < y
  · go_enter Try.func14, Try.ntmps14
    go_wp2
    all_goals
      go_ret
      exact ⟨ret_bool (by simp_all [leapB]), rfl⟩
  · go_enter Try.func14, Try.ntmps14
    go_wp2
    go_ret
    exact ⟨ret_bool (by have : ¬ 0 < y := by omega
                        simp [leapB, this]), rfl⟩

theorem rleap_any (y : Int) (w : World) :
    Calls Try.prog 15 #[.int .i64 y] w fun e w' => e = .returned (.bool (leapB y)) ∧ w = w' := by
  by_cases h0 : y < 1
  · go_enter Try.func15, Try.ntmps15
    go_wp2
    go_ret
    exact ⟨ret_bool (by have : ¬ 0 < y := by omega
                        simp [leapB, this]), rfl⟩
  · have h2 : 0 < y := by omega
    cases h4 : (y % 4 != 0) <;> cases h5 : (y % 400 == 0) <;> cases h6 : (y % 100 != 0)
    all_goals
      go_enter Try.func15, Try.ntmps15
      go_wp2
      go_ret
      exact ⟨ret_bool (by simp_all [leapB]), rfl⟩

def withinB (n lo hi : Int) : Bool := decide (lo ≤ n) && decide (n ≤ hi)

theorem within_any (n lo hi : Int) (w : World) :
    Calls Try.prog 27 #[.int .i64 n, .int .i64 lo, .int .i64 hi] w fun e w' => e = .returned (.bool (withinB n lo hi)) ∧ w = w' := by
  by_cases h0 : lo ≤ n
  all_goals
    go_enter Try.func27, Try.ntmps27
    go_wp2
    go_ret
    exact ⟨ret_bool (by simp [withinB]; omega), rfl⟩

def lenB (y : Int) : Int := if leapB y then 366 else 365
theorem length_any (y : Int) (w : World) :
    Calls Try.prog 26 #[.int .i64 y] w fun e w' => e = .returned (.int .i64 (lenB y)) ∧ w = w' := by
  cases h : leapB y
  all_goals
    go_enter Try.func26, Try.ntmps26
    go_wp2_with (go_at_call 14; refine (leap_any _ _).mono ?_; rintro e w' ⟨rfl, rfl⟩)
    go_ret
    exact ⟨ret_int (by simp [lenB, h]), rfl⟩

def aheadB (y : Int) : Int := 365 * (y - 1970) + ((y - 1) / 4 - (y - 1) / 100 + (y - 1) / 400) - 477
theorem ahead_any (y : Int) (h0 : 1 ≤ y) (h1 : y ≤ 1000000) (w : World) :
    Calls Try.prog 25 #[.int .i64 y] w fun e w' => e = .returned (.int .i64 (aheadB y)) ∧ w = w' := by
  go_enter Try.func25, Try.ntmps25
  go_wp2
  go_ret
  exact ⟨ret_int (by simp [aheadB]), rfl⟩

def daysB (y m : Int) : Int := if y < 1 ∨ m < 1 ∨ 12 < m then 0 else if m = 2 then (if leapB y then 29 else 28) else if m = 4 ∨ m = 6 ∨ m = 9 ∨ m = 11 then 30 else 31

theorem days_no (y m : Int) (h : y < 1 ∨ m < 1 ∨ 12 < m) (w : World) :
    Calls Try.prog 16 #[.int .i64 y, .int .i64 m] w fun e w' => e = .returned (.int .i64 (daysB y m)) ∧ Below w.heap.size w w' := by
  have hd : daysB y m = 0 := by simp [daysB, h]
  rw [hd]
  by_cases hy : y < 1
  · go_enter Try.func16, Try.ntmps16
    go_wp2
    go_ret
    exact ⟨rfl, (Below.refl _ _).alloc (Nat.le_refl _) _⟩
  by_cases hm : m < 1
  · go_enter Try.func16, Try.ntmps16
    go_wp2
    go_ret
    exact ⟨rfl, (Below.refl _ _).alloc (Nat.le_refl _) _⟩
  have hm2 : 12 < m := by omega
  go_enter Try.func16, Try.ntmps16
  go_wp2
  go_ret
  exact ⟨rfl, (Below.refl _ _).alloc (Nat.le_refl _) _⟩

theorem days_feb (y : Int) (h : 1 ≤ y) (w : World) :
    Calls Try.prog 16 #[.int .i64 y, .int .i64 2] w fun e w' => e = .returned (.int .i64 (daysB y 2)) ∧ Below w.heap.size w w' := by
  have hd : daysB y 2 = if leapB y then 29 else 28 := by simp [daysB]; omega
  rw [hd]; clear hd
  cases h : leapB y
  all_goals
    go_enter Try.func16, Try.ntmps16
    go_wp2_with (go_at_call 14; refine (leap_any _ _).mono ?_; rintro e w' ⟨rfl, rfl⟩)
    go_ret
    exact ⟨rfl, (Below.refl _ _).alloc (Nat.le_refl _) _⟩

set_option maxHeartbeats 2000000 in
theorem days_other (y m : Int) (hy' : 1 ≤ y) (h1 : 1 ≤ m) (h12 : m ≤ 12) (hne : m ≠ 2) (w : World) :
    Calls Try.prog 16 #[.int .i64 y, .int .i64 m] w fun e w' => e = .returned (.int .i64 (if m = 4 ∨ m = 6 ∨ m = 9 ∨ m = 11 then 30 else 31)) ∧ Below w.heap.size w w' := by
  rcases (by omega : m = 1 ∨ m = 3 ∨ m = 4 ∨ m = 5 ∨ m = 6 ∨ m = 7 ∨ m = 8 ∨ m = 9 ∨ m = 10 ∨ m = 11 ∨ m = 12) with rfl | rfl | rfl | rfl | rfl | rfl | rfl | rfl | rfl | rfl | rfl
  all_goals
    go_enter Try.func16, Try.ntmps16
    go_wp2
    go_ret
    exact ⟨rfl, (Below.refl _ _).alloc (Nat.le_refl _) _⟩

theorem days_any (y m : Int) (w : World) :
    Calls Try.prog 16 #[.int .i64 y, .int .i64 m] w fun e w' => e = .returned (.int .i64 (daysB y m)) ∧ Below w.heap.size w w' := by
  by_cases h : y < 1 ∨ m < 1 ∨ 12 < m
  · exact days_no y m h w
  by_cases h2 : m = 2
  · subst h2; exact days_feb y (by omega) w
  have hd : daysB y m = (if m = 4 ∨ m = 6 ∨ m = 9 ∨ m = 11 then 30 else 31) := by simp [daysB, h, h2]
  rw [hd]
  exact days_other y m (by omega) (by omega) (by omega) h2 w

set_option maxHeartbeats 1000000 in
theorem rdays_any (y m : Int) (w : World) :
    Calls Try.prog 17 #[.int .i64 y, .int .i64 m] w fun e w' => e = .returned (.int .i64 (daysB y m)) ∧ w = w' := by
  by_cases hy : y < 1
  · go_enter Try.func17, Try.ntmps17
    go_wp2
    go_ret
    exact ⟨ret_int (by simp [daysB, hy]), rfl⟩
  by_cases hm : m < 1
  · go_enter Try.func17, Try.ntmps17
    go_wp2
    go_ret
    exact ⟨ret_int (by simp [daysB, hm]), rfl⟩
  by_cases hm2 : 12 < m
  · go_enter Try.func17, Try.ntmps17
    go_wp2
    go_ret
    exact ⟨ret_int (by simp [daysB, hm2]), rfl⟩
  have hd : daysB y m = if m = 2 then (if leapB y then 29 else 28) else if m = 4 ∨ m = 6 ∨ m = 9 ∨ m = 11 then 30 else 31 := by simp [daysB]; omega
  rw [hd]; clear hd
  by_cases h2 : m = 2
  · subst h2
    cases h : leapB y
    all_goals
      go_enter Try.func17, Try.ntmps17
      go_wp2_with (go_at_call 15; refine (rleap_any _ _).mono ?_; rintro e w' ⟨rfl, rfl⟩)
      go_ret
      exact ⟨rfl, rfl⟩
  by_cases h4 : m = 4 ∨ m = 6 ∨ m = 9 ∨ m = 11
  · rcases h4 with rfl | rfl | rfl | rfl
    all_goals
      go_enter Try.func17, Try.ntmps17
      go_wp2
      go_ret
      exact ⟨rfl, rfl⟩
  · rw [if_neg h2, if_neg h4]
    have k2 : (m == 2) = false := by simp; omega
    have k4 : (m == 4) = false := by simp; omega
    have k6 : (m == 6) = false := by simp; omega
    have k9 : (m == 9) = false := by simp; omega
    have k11 : (m == 11) = false := by simp; omega
    clear h2 h4
    go_enter Try.func17, Try.ntmps17
    go_wp2
    go_ret
    exact ⟨rfl, rfl⟩

theorem weekday_any (s : Int) (h0 : 0 ≤ s) (h1 : s ≤ 18446744073709551615) (w : World) :
    Calls Try.prog 18 #[.int .u64 s] w fun e w' => e = .returned (.int .i64 ((s / 86400 + 4) % 7)) ∧ w = w' := by
  go_enter Try.func18, Try.ntmps18
  go_wp2
  go_ret
  exact ⟨rfl, rfl⟩
end Go.Proofs.Ytajjibfipkijfaa
