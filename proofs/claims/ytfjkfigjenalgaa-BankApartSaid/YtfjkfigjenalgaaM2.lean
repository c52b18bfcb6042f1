/- Bits of words as arithmetic. No Go's functions here. -/
import Derived.Test.YtfjkfigjenalgaaM1
import Derived.Laws.BitsAllLaws
namespace Go.Proofs.Ytfjkfigjenalgaa

theorem land_shift (a m s : Nat) : a &&& (m * 2 ^ s) = (a / 2 ^ s &&& m) * 2 ^ s := by
  apply Nat.eq_of_testBit_eq
  intro i
  rw [Nat.testBit_and, Nat.testBit_mul_two_pow, Nat.testBit_mul_two_pow, Nat.testBit_and]
  by_cases h : s ≤ i
  · simp [h, Nat.testBit_div_two_pow]
  · simp [h]

theorem and_1 (n : Int) (h0 : 0 ≤ n) (h1 : n ≤ 4294967295) : bits .and .u32 n 1 = n % 2 := by
  rw [u32_and n 1 h0 (by omega) (by decide) (by decide), show (1 : Int).toNat = 2 ^ 1 - 1 from rfl, Nat.and_two_pow_sub_one_eq_mod]; omega
theorem and_2 (n : Int) (h0 : 0 ≤ n) (h1 : n ≤ 4294967295) : bits .and .u32 n 2 = n / 2 % 2 * 2 := by
  rw [u32_and n 2 h0 (by omega) (by decide) (by decide), show (2 : Int).toNat = (2 ^ 1 - 1) * 2 ^ 1 from rfl, land_shift, Nat.and_two_pow_sub_one_eq_mod]; omega
theorem and_4 (n : Int) (h0 : 0 ≤ n) (h1 : n ≤ 4294967295) : bits .and .u32 n 4 = n / 4 % 2 * 4 := by
  rw [u32_and n 4 h0 (by omega) (by decide) (by decide), show (4 : Int).toNat = (2 ^ 1 - 1) * 2 ^ 2 from rfl, land_shift, Nat.and_two_pow_sub_one_eq_mod]; omega
theorem and_65280 (n : Int) (h0 : 0 ≤ n) (h1 : n ≤ 4294967295) : bits .and .u32 n 65280 = n / 256 % 256 * 256 := by
  rw [u32_and n 65280 h0 (by omega) (by decide) (by decide), show (65280 : Int).toNat = (2 ^ 8 - 1) * 2 ^ 8 from rfl, land_shift, Nat.and_two_pow_sub_one_eq_mod]; omega
theorem and_31 (n : Int) (h0 : 0 ≤ n) (h1 : n ≤ 4294967295) : bits .and .u32 n 31 = n % 32 := by
  rw [u32_and n 31 h0 (by omega) (by decide) (by decide), show (31 : Int).toNat = 2 ^ 5 - 1 from rfl, Nat.and_two_pow_sub_one_eq_mod]; omega
theorem andNot_1 (n : Int) (h0 : 0 ≤ n) (h1 : n ≤ 4294967295) : bits .andNot .u32 n 1 = n / 2 * 2 := by
  rw [u32_andNot n 1 h0 (by omega) (by decide) (by decide), show 4294967295 - (1 : Int).toNat = (2 ^ 31 - 1) * 2 ^ 1 from rfl, land_shift, Nat.and_two_pow_sub_one_eq_mod]
  omega
theorem and_65287 (n : Int) (h0 : 0 ≤ n) (h1 : n ≤ 4294967295) : bits .and .u32 n 65287 = n % 8 + n / 256 % 256 * 256 := by
  rw [u32_and n 65287 h0 (by omega) (by decide) (by decide), show (65287 : Int).toNat = (2 ^ 3 - 1) ||| ((2 ^ 8 - 1) * 2 ^ 8) from rfl, Nat.and_or_distrib_left, land_shift, Nat.and_two_pow_sub_one_eq_mod, Nat.and_two_pow_sub_one_eq_mod]
  have h : n.toNat % 2 ^ 3 < 2 ^ 8 := by omega
  rw [Nat.or_comm, Nat.mul_comm, ← Nat.two_pow_add_eq_or_of_lt h]
  omega
/-- status &^ (v & 1): -/
theorem andNot_bit (s v : Int) (hs0 : 0 ≤ s) (hs : s ≤ 1) (hv0 : 0 ≤ v) (hv : v ≤ 1) : bits .andNot .u32 s v = if v = 1 then 0 else s := by
  rcases (by omega : s = 0 ∨ s = 1) with rfl | rfl <;> rcases (by omega : v = 0 ∨ v = 1) with rfl | rfl <;> decide
end Go.Proofs.Ytfjkfigjenalgaa
