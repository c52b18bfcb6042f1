/- The document's watchdog. Conditions: those that each statement shows. -/
import Derived.Test.YtndndlegefhafaaN2
namespace Go.Proofs.Ytndndlegefhafaa
open Go.RowKit
set_option linter.unusedVariables false
set_option linter.unusedSimpArgs false

theorem left_ref (s : WS) (h : s.Ok) (w : World) : Calls Try.prog 32 #[.agg s.cs] w fun e w' => e = .returned (L s.left) ∧ Below w.heap.size w w' := by
  obtain ⟨en, lk, ar, shut, all, since, fault⟩ := s
  have a0 := h.a0; have a1 := h.a1; have s0 := h.s0; have s1 := h.s1; have hon := h.on
  try dsimp only at a0 a1 s0 s1 hon
  unfold WS.left
  cases en
  · clear hon
    go_enter Try.func32, Try.ntmps32
    go_wp2
    go_ret
    exact ⟨rfl, (Below.refl _ _).alloc (Nat.le_refl _) _⟩
  · by_cases hf : fault = 0
    · subst hf
      have hlt := hon rfl rfl
      clear hon
      go_enter Try.func32, Try.ntmps32
      go_wp2
      go_ret
      exact ⟨by first | rfl | simp, (Below.refl _ _).alloc (Nat.le_refl _) _⟩
    · have hfb : (fault == 0) = false := by simpa using hf
      have hfb' : (fault != 0) = true := by simpa using hf
      clear hon
      go_enter Try.func32, Try.ntmps32
      go_wp2
      all_goals (go_ret; exact ⟨by first | rfl | (simp [hf]), (Below.refl _ _).alloc (Nat.le_refl _) _⟩)

theorem rlo_any (n : Int) (h0 : 0 ≤ n) (h1 : n ≤ 4294967295) (w : World) : Calls Try.prog 37 #[L n] w fun e w' => e = .returned (U n) ∧ w = w' := by
  have q : n.tmod 4294967296 = n := by rw [Int.tmod_eq_emod_of_nonneg h0]; omega
  have q1 : n % 4294967296 = n := by omega
  have q2 : IntKind.u32.wrap n = n := by rw [IntKind.wrap_u32]; omega
  go_enter Try.func37, Try.ntmps37
  go_wp2
  go_ret
  exact ⟨ret_int (by omega), rfl⟩

theorem load_ref (s : WS) (h : s.Ok) (off : Int) (h0 : 0 ≤ off) (h1 : off ≤ 4294967295) (w : World) :
    Calls Try.prog 30 #[.agg s.cs, U off] w fun e w' => e = .returned (.tuple #[U (s.loadB off).1, I (s.loadB off).2]) ∧ Below w.heap.size w w' := by
  have s0 := h.s0; have s1 := h.s1
  obtain ⟨en, lk, ar, shut, all, since, fault⟩ := s
  try dsimp only at s0 s1
  have LO := Lib.hid (rlo_any since s0 s1)
  by_cases h4 : off % 4 = 0
  · by_cases h20 : 20 ≤ off
    · have hv : Hid (WS.loadB ⟨en, lk, ar, shut, all, since, fault⟩ off = (0, 10)) := Lib.hid (by
        unfold WS.loadB
        rw [if_neg (by omega), if_neg (by omega), if_neg (by omega), if_neg (by omega), if_neg (by omega), if_neg (by omega)])
      have q0 : (off == 0) = false := by simp; omega
      have q1 : (off == 4) = false := by simp; omega
      have q2 : (off == 8) = false := by simp; omega
      have q3 : (off == 12) = false := by simp; omega
      have q4 : (off == 16) = false := by simp; omega
      rw [hv.out]
      go_enter Try.func30, Try.ntmps30
      go_wp2
      all_goals (go_ret2; exact ⟨rfl, (Below.refl _ _).alloc (Nat.le_refl _) _⟩)
    · obtain rfl | rfl | rfl | rfl | rfl : off = 0 ∨ off = 4 ∨ off = 8 ∨ off = 12 ∨ off = 16 := by omega
      · cases en
        all_goals
          cases lk
          all_goals
            go_enter Try.func30, Try.ntmps30
            go_wp2
            go_ret2
            exact ⟨rfl, (Below.refl _ _).alloc (Nat.le_refl _) _⟩
      all_goals
        go_enter Try.func30, Try.ntmps30
        go_wp2_with (go_at_call 37; refine (LO.out _).mono ?_; rintro e wa ⟨rfl, rfl⟩)
        go_ret2
        exact ⟨rfl, (Below.refl _ _).alloc (Nat.le_refl _) _⟩
  · have hv : Hid (WS.loadB ⟨en, lk, ar, shut, all, since, fault⟩ off = (0, 11)) := Lib.hid (by
      unfold WS.loadB
      rw [if_pos h4])
    have q : (off % 4 == 0) = false := by simpa using h4
    have q' : (off % 4 != 0) = true := by simpa using h4
    rw [hv.out]
    go_enter Try.func30, Try.ntmps30
    go_wp2
    all_goals (go_ret2; exact ⟨rfl, (Below.refl _ _).alloc (Nat.le_refl _) _⟩)

theorem two_below (w : World) (o1 o2 : Obj) : Below w.heap.size w ((w.alloc o1).alloc o2) := ((Below.refl w.heap.size w).alloc (Nat.le_refl _) o1).alloc (by simp) o2
end Go.Proofs.Ytndndlegefhafaa
