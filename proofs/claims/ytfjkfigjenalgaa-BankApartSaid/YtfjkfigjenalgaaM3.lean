/- The plain laws on the timer's ticks: what is ahead of the expiry, and what is behind it. No Go here. -/
import Derived.Test.YtfjkfigjenalgaaM1
namespace Go.Proofs.Ytfjkfigjenalgaa

theorem CS.unit_pos (s : CS) (h : s.Ok) : 1 ≤ s.unit := by have := h.s0; unfold CS.unit; omega

theorem CS.left_on (s : CS) (he : s.en = true) : s.left = s.vm * s.unit - s.phase := by unfold CS.left; rw [if_pos he]

theorem CS.q_lt (s : CS) (h : s.Ok) (he : s.en = true) (n : Int) (hn : n < s.left) : (s.phase + n) / s.unit < s.vm := by
  have hu := s.unit_pos h
  rw [s.left_on he] at hn
  exact Int.ediv_lt_of_lt_mul (by omega) (by omega)

theorem CS.q_ge (s : CS) (h : s.Ok) (he : s.en = true) (n : Int) (hn : s.left ≤ n) : s.vm ≤ (s.phase + n) / s.unit := by
  have hu := s.unit_pos h
  rw [s.left_on he] at hn
  exact (Int.le_ediv_iff_mul_le (by omega)).2 (by omega)

/-- Ahead of the expiry. -/
theorem CS.tick_before (s : CS) (h : s.Ok) (he : s.en = true) (n : Int) (hn : n < s.left) :
    s.tick n = { s with value := s.value - (s.phase + n) / s.unit, phase := (s.phase + n) % s.unit } := by
  rw [s.tick_on n he, s.at_lt _ _ (s.q_lt h he n hn)]

/-- Behind the expiry of one that stops. -/
theorem CS.tick_stops (s : CS) (h : s.Ok) (he : s.en = true) (n : Int) (hn : s.left ≤ n) (hr : ¬ (s.re && decide (0 < s.load)) = true) :
    s.tick n = { s with value := 0, en := false, phase := 0, st := true } := by
  rw [s.tick_on n he, s.at_stop _ _ (by have := s.q_ge h he n hn; omega) hr]

theorem div_mod_period (m l u : Int) (hl : 0 < l) (hu : 0 < u) : (m % (l * u)) / u = (m / u) % l ∧ (m % (l * u)) % u = m % u := by
  have hlu : 0 < l * u := Int.mul_pos hl hu
  have hd := Int.emod_add_mul_ediv m (l * u)
  have c0 := Int.emod_nonneg m (by omega : l * u ≠ 0)
  have c1 := Int.emod_lt_of_pos m hlu
  generalize m % (l * u) = c at *
  generalize m / (l * u) = k at *
  have e : m = c + u * (l * k) := by rw [← hd, Int.mul_comm l u, Int.mul_assoc]
  have h1 : m / u = c / u + l * k := by rw [e, Int.add_mul_ediv_left _ _ (by omega)]
  have h2 : m % u = c % u := by rw [e, Int.add_mul_emod_self_left]
  have h3 : c / u < l := Int.ediv_lt_of_lt_mul hu c1
  have h4 : 0 ≤ c / u := Int.ediv_nonneg c0 (by omega)
  rw [h1, h2, Int.add_mul_emod_self_left, Int.emod_eq_of_lt h4 h3]
  exact ⟨rfl, rfl⟩

/-- Behind the expiry of one that goes on. -/
theorem CS.tick_again (s : CS) (h : s.Ok) (he : s.en = true) (n : Int) (hn : s.left ≤ n) (hr : s.re = true) (hl : 0 < s.load) :
    s.tick n = { s with value := s.load - ((n - s.left) % (s.load * s.unit)) / s.unit, phase := ((n - s.left) % (s.load * s.unit)) % s.unit, st := true } := by
  have hu := s.unit_pos h
  have hrl : (s.re && decide (0 < s.load)) = true := by rw [hr]; simp [hl]
  obtain ⟨e1, e2⟩ := div_mod_period (n - s.left) s.load s.unit hl (by omega)
  have hT : s.phase + n = (n - s.left) + s.unit * s.vm := by rw [s.left_on he, Int.mul_comm s.unit]; omega
  have hq : (s.phase + n) / s.unit = (n - s.left) / s.unit + s.vm := by rw [hT, Int.add_mul_ediv_left _ _ (by omega)]
  have hm : (s.phase + n) % s.unit = (n - s.left) % s.unit := by rw [hT, Int.add_mul_emod_self_left]
  rw [s.tick_on n he, s.at_reload _ _ (by have := s.q_ge h he n hn; omega) hrl, hq, hm, e1, e2]
  have : (n - s.left) / s.unit + s.vm - s.vm = (n - s.left) / s.unit := by omega
  rw [this]

/-- Just Left ticks later it has expired; ahead of that not. -/
theorem CS.tick_st_before (s : CS) (h : s.Ok) (he : s.en = true) (n : Int) (hn : n < s.left) : (s.tick n).st = s.st := by rw [s.tick_before h he n hn]
theorem CS.tick_st_after (s : CS) (h : s.Ok) (he : s.en = true) (n : Int) (hn : s.left ≤ n) : (s.tick n).st = true := by
  by_cases hr : (s.re && decide (0 < s.load)) = true
  · have hr' := hr
    simp at hr'
    rw [s.tick_again h he n hn hr'.1 hr'.2]
  · rw [s.tick_stops h he n hn hr]

theorem CS.left_before (s : CS) (h : s.Ok) (he : s.en = true) (n : Int) (h0 : 0 ≤ n) (hn : n < s.left) : (s.tick n).left = s.left - n := by
  have hu := s.unit_pos h
  have hq := s.q_lt h he n hn
  have hq0 : 0 ≤ (s.phase + n) / s.unit := Int.ediv_nonneg (by have := h.p0; omega) (by omega)
  have hd := Int.emod_add_mul_ediv (s.phase + n) s.unit
  rw [s.tick_before h he n hn, s.left_on he]
  generalize (s.phase + n) / s.unit = q at *
  generalize (s.phase + n) % s.unit = r at *
  have hvm : CS.vm { s with value := s.value - q, phase := r } = s.vm - q := by
    show (if 1 ≤ s.value - q then s.value - q else 1) = s.vm - q
    have hv := h.v0
    unfold CS.vm at hq ⊢; split at hq <;> split <;> (try split) <;> omega
  have e : CS.left { s with value := s.value - q, phase := r } = (s.vm - q) * s.unit - r := by
    rw [CS.left_on _ (by exact he), hvm]; rfl
  rw [e, Int.sub_mul, Int.mul_comm q]
  omega
end Go.Proofs.Ytfjkfigjenalgaa
