/- The timer of chapter 6 as plain numbers: its state, what ticks make of it, and the laws on ticks (they add up; the expiry comes just at 'left'). No Go here. -/
import Derived.Below
namespace Go.Proofs.Ytfjkfigjenalgaa

/-- A timer. -/
structure CS where
  load : Int
  value : Int
  en : Bool
  re : Bool
  ir : Bool
  scale : Int
  phase : Int
  st : Bool

structure CS.Ok (s : CS) : Prop where
  l0 : 0 ≤ s.load
  l1 : s.load ≤ 4294967295
  v0 : 0 ≤ s.value
  v1 : s.value ≤ 4294967295
  s0 : 0 ≤ s.scale
  s1 : s.scale ≤ 255
  p0 : 0 ≤ s.phase
  p1 : s.phase ≤ s.scale

def CS.zero : CS := ⟨0, 0, false, false, false, 0, 0, false⟩
theorem CS.zero_ok : CS.zero.Ok := ⟨by decide, by decide, by decide, by decide, by decide, by decide, by decide, by decide⟩

def CS.unit (s : CS) : Int := s.scale + 1
def CS.vm (s : CS) : Int := if 1 ≤ s.value then s.value else 1
def CS.left (s : CS) : Int := if s.en then s.vm * s.unit - s.phase else 18446744073709551615

/-- Behind q whole steps and r ticks. -/
def CS.at_ (s : CS) (q r : Int) : CS :=
  if q < s.vm then { s with value := s.value - q, phase := r }
  else if s.re && decide (0 < s.load) then { s with value := s.load - (q - s.vm) % s.load, phase := r, st := true }
  else { s with value := 0, en := false, phase := 0, st := true }

theorem CS.at_lt (s : CS) (q r : Int) (h : q < s.vm) : s.at_ q r = { s with value := s.value - q, phase := r } := by unfold CS.at_; rw [if_pos h]
theorem CS.at_reload (s : CS) (q r : Int) (h : ¬ q < s.vm) (h2 : (s.re && decide (0 < s.load)) = true) : s.at_ q r = { s with value := s.load - (q - s.vm) % s.load, phase := r, st := true } := by unfold CS.at_; rw [if_neg h, if_pos h2]
theorem CS.at_stop (s : CS) (q r : Int) (h : ¬ q < s.vm) (h2 : ¬ (s.re && decide (0 < s.load)) = true) : s.at_ q r = { s with value := 0, en := false, phase := 0, st := true } := by unfold CS.at_; rw [if_neg h, if_neg h2]

def CS.tick (s : CS) (n : Int) : CS := if s.en then s.at_ ((s.phase + n) / s.unit) ((s.phase + n) % s.unit) else s

theorem CS.tick_on (s : CS) (n : Int) (h : s.en = true) : s.tick n = s.at_ ((s.phase + n) / s.unit) ((s.phase + n) % s.unit) := by unfold CS.tick; rw [if_pos h]
theorem CS.tick_off (s : CS) (n : Int) (h : s.en = false) : s.tick n = s := by unfold CS.tick; rw [if_neg (by simp [h])]

theorem CS.vm_pos (s : CS) : 1 ≤ s.vm := by unfold CS.vm; split <;> omega

theorem CS.tick_zero (s : CS) (h : s.Ok) : s.tick 0 = s := by
  unfold CS.tick CS.at_
  by_cases he : s.en
  · rw [if_pos he]
    have hu : 0 < s.unit := by have := h.s0; unfold CS.unit; omega
    have hlt : s.phase + 0 < s.unit := by have := h.p1; unfold CS.unit; omega
    have h0 : (s.phase + 0) / s.unit = 0 := Int.ediv_eq_zero_of_lt (by have := h.p0; omega) hlt
    have h1 : (s.phase + 0) % s.unit = s.phase := by rw [Int.emod_eq_of_lt (by have := h.p0; omega) hlt]; omega
    rw [h0, h1, if_pos (by have := s.vm_pos; omega)]
    cases s; simp
  · rw [if_neg he]

theorem CS.at_ok (s : CS) (h : s.Ok) (q r : Int) (hq : 0 ≤ q) (hr0 : 0 ≤ r) (hr : r ≤ s.scale) : (s.at_ q r).Ok := by
  have a := h.l0; have b := h.l1; have c := h.v0; have d := h.v1; have e := h.s0; have f := h.s1
  unfold CS.at_
  split
  · rename_i hlt
    refine ⟨a, b, ?_, ?_, e, f, hr0, hr⟩
    · show 0 ≤ s.value - q; unfold CS.vm at hlt; split at hlt <;> omega
    · show s.value - q ≤ _; omega
  · split
    · rename_i hl
      have hl : 0 < s.load := by simp at hl; exact hl.2
      have m0 := Int.emod_nonneg (q - s.vm) (by omega : s.load ≠ 0)
      have m1 := Int.emod_lt_of_pos (q - s.vm) hl
      exact ⟨a, b, by show 0 ≤ s.load - _; omega, by show s.load - _ ≤ _; omega, e, f, hr0, hr⟩
    · exact ⟨a, b, by show (0 : Int) ≤ 0; omega, by show (0 : Int) ≤ _; omega, e, f, by show (0 : Int) ≤ 0; omega, e⟩

theorem CS.tick_ok (s : CS) (h : s.Ok) (n : Int) (hn : 0 ≤ n) : (s.tick n).Ok := by
  unfold CS.tick
  have hu : 0 < s.unit := by have := h.s0; unfold CS.unit; omega
  split
  · refine s.at_ok h _ _ (Int.ediv_nonneg (by have := h.p0; omega) (by omega)) (Int.emod_nonneg _ (by omega)) ?_
    have := Int.emod_lt_of_pos (s.phase + n) hu
    unfold CS.unit at this ⊢; omega
  · exact h

theorem CS.at_at (s : CS) (h : s.Ok) (q r q' r' : Int) (hq : 0 ≤ q) (hq' : 0 ≤ q') (he : (s.at_ q r).en = true) : (s.at_ q r).at_ q' r' = s.at_ (q + q') r' := by
  have hv := h.v0
  by_cases h1 : q < s.vm
  · have e1 : s.at_ q r = { s with value := s.value - q, phase := r } := by unfold CS.at_; rw [if_pos h1]
    have hvm : ({ s with value := s.value - q, phase := r } : CS).vm = s.vm - q := by
      show (if 1 ≤ s.value - q then s.value - q else 1) = s.vm - q
      unfold CS.vm at h1 ⊢; split at h1 <;> split <;> (try split) <;> omega
    rw [e1]
    by_cases h2 : q' < s.vm - q
    · rw [CS.at_lt (⟨s.load, s.value - q, s.en, s.re, s.ir, s.scale, r, s.st⟩ : CS) q' r' (by rw [hvm]; exact h2), CS.at_lt s (q + q') r' (by omega)]; simp; omega
    · have e3 : q' - (s.vm - q) = q + q' - s.vm := by omega
      by_cases h3 : (s.re && decide (0 < s.load)) = true
      · rw [CS.at_reload (⟨s.load, s.value - q, s.en, s.re, s.ir, s.scale, r, s.st⟩ : CS) q' r' (by rw [hvm]; exact h2) h3, CS.at_reload s (q + q') r' (by omega) h3, hvm]
        show ({ s with value := s.load - (q' - (s.vm - q)) % s.load, phase := r', st := true } : CS) = _
        rw [e3]
      · rw [CS.at_stop (⟨s.load, s.value - q, s.en, s.re, s.ir, s.scale, r, s.st⟩ : CS) q' r' (by rw [hvm]; exact h2) h3, CS.at_stop s (q + q') r' (by omega) h3]
  · by_cases h3 : (s.re && decide (0 < s.load)) = true
    · have e1 : s.at_ q r = { s with value := s.load - (q - s.vm) % s.load, phase := r, st := true } := by unfold CS.at_; rw [if_neg h1, if_pos h3]
      have hl : 0 < s.load := by simp at h3; exact h3.2
      have m0 := Int.emod_nonneg (q - s.vm) (by omega : s.load ≠ 0)
      have m1 := Int.emod_lt_of_pos (q - s.vm) hl
      have hvm : ({ s with value := s.load - (q - s.vm) % s.load, phase := r, st := true } : CS).vm = s.load - (q - s.vm) % s.load := by
        show (if 1 ≤ s.load - (q - s.vm) % s.load then s.load - (q - s.vm) % s.load else 1) = _
        rw [if_pos (by omega)]
      have hd := Int.emod_add_mul_ediv (q - s.vm) s.load
      rw [e1]
      by_cases h2 : q' < s.load - (q - s.vm) % s.load
      · rw [CS.at_lt (⟨s.load, s.load - (q - s.vm) % s.load, s.en, s.re, s.ir, s.scale, r, true⟩ : CS) q' r' (by rw [hvm]; exact h2), CS.at_reload s (q + q') r' (by omega) h3]
        have e4 : (q + q' - s.vm) % s.load = (q - s.vm) % s.load + q' := by
          have : q + q' - s.vm = ((q - s.vm) % s.load + q') + s.load * ((q - s.vm) / s.load) := by omega
          rw [this, Int.add_mul_emod_self_left, Int.emod_eq_of_lt (by omega) (by omega)]
        rw [e4]; simp; omega
      · rw [CS.at_reload (⟨s.load, s.load - (q - s.vm) % s.load, s.en, s.re, s.ir, s.scale, r, true⟩ : CS) q' r' (by rw [hvm]; exact h2) h3, CS.at_reload s (q + q') r' (by omega) h3, hvm]
        have e4 : (q' - (s.load - (q - s.vm) % s.load)) % s.load = (q + q' - s.vm) % s.load := by
          have : q + q' - s.vm = (q' - (s.load - (q - s.vm) % s.load)) + s.load * ((q - s.vm) / s.load + 1) := by
            rw [Int.mul_add]; omega
          rw [this, Int.add_mul_emod_self_left]
        show ({ s with value := s.load - (q' - (s.load - (q - s.vm) % s.load)) % s.load, phase := r', st := true } : CS) = _
        rw [e4]
    · exfalso
      have e1 : s.at_ q r = { s with value := 0, en := false, phase := 0, st := true } := by unfold CS.at_; rw [if_neg h1, if_neg h3]
      rw [e1] at he; cases he

theorem CS.at_scale (s : CS) (q r : Int) : (s.at_ q r).scale = s.scale := by unfold CS.at_; split <;> (try split) <;> rfl

/-- Ticks in two calls are as in one. -/
theorem CS.tick_add (s : CS) (h : s.Ok) (a b : Int) (ha : 0 ≤ a) (hb : 0 ≤ b) : (s.tick a).tick b = s.tick (a + b) := by
  have hu : 0 < s.unit := by have := h.s0; unfold CS.unit; omega
  by_cases he : s.en = true
  · have e1 : s.tick a = s.at_ ((s.phase + a) / s.unit) ((s.phase + a) % s.unit) := by unfold CS.tick; rw [if_pos he]
    have hq : 0 ≤ (s.phase + a) / s.unit := Int.ediv_nonneg (by have := h.p0; omega) (by omega)
    have hun : (s.tick a).unit = s.unit := by rw [e1]; unfold CS.unit; rw [CS.at_scale]
    by_cases hen : (s.tick a).en = true
    · have hph : (s.tick a).phase = (s.phase + a) % s.unit := by
        rw [e1] at hen ⊢
        unfold CS.at_ at hen ⊢
        split at hen
        · simp [*]
        · split at hen
          · rename_i h1 h2; rw [if_neg h1, if_pos h2]
          · cases hen
      have e2 : (s.tick a).tick b = (s.tick a).at_ (((s.phase + a) % s.unit + b) / s.unit) (((s.phase + a) % s.unit + b) % s.unit) := by
        rw [CS.tick_on _ b hen, hun, hph]
      have hq' : 0 ≤ ((s.phase + a) % s.unit + b) / s.unit := Int.ediv_nonneg (by have := Int.emod_nonneg (s.phase + a) (by omega : s.unit ≠ 0); omega) (by omega)
      have hd := Int.emod_add_mul_ediv (s.phase + a) s.unit
      have hsum : s.phase + (a + b) = ((s.phase + a) % s.unit + b) + s.unit * ((s.phase + a) / s.unit) := by omega
      rw [e2]
      rw [e1] at hen ⊢
      rw [s.at_at h _ _ _ _ hq hq' hen]
      unfold CS.tick
      rw [if_pos he, hsum, Int.add_mul_ediv_left _ _ (by omega), Int.add_mul_emod_self_left]
      congr 1; omega
    · -- it has stopped
      have e2 : (s.tick a).tick b = s.tick a := CS.tick_off _ b (by simpa using hen)
      rw [e2, e1]
      rw [e1] at hen
      have h1 : ¬ (s.phase + a) / s.unit < s.vm := by
        intro hlt; apply hen; unfold CS.at_; rw [if_pos hlt]; exact he
      have h2 : ¬ (s.re && decide (0 < s.load)) = true := by
        intro hr; apply hen; unfold CS.at_; rw [if_neg h1, if_pos hr]; exact he
      have hmono : (s.phase + a) / s.unit ≤ (s.phase + (a + b)) / s.unit := Int.ediv_le_ediv hu (by omega)
      unfold CS.tick
      rw [if_pos he]
      unfold CS.at_
      rw [if_neg h1, if_neg h2, if_neg (by omega), if_neg h2]
  · have e1 : s.tick a = s := by unfold CS.tick; rw [if_neg he]
    have e2 : s.tick b = s := by unfold CS.tick; rw [if_neg he]
    have e3 : s.tick (a + b) = s := by unfold CS.tick; rw [if_neg he]
    rw [e1, e2, e3]
end Go.Proofs.Ytfjkfigjenalgaa
