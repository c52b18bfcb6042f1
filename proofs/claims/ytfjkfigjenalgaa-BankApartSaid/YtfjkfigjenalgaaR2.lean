/- Contracts of the document's step and store of timers. Their conditions: those that their statements show. -/
import Derived.Test.YtfjkfigjenalgaaN2
import Derived.Test.YtfjkfigjenalgaaR1
namespace Go.Proofs.Ytfjkfigjenalgaa
open Go.RowKit
set_option linter.unusedVariables false

/-- A tick, as the document has it. -/
def CS.one (s : CS) : CS :=
  if !s.en then s else if s.phase + 1 ≤ s.scale then { s with phase := s.phase + 1 }
  else if 1 < s.value then { s with phase := 0, value := s.value - 1 }
  else if s.re && decide (0 < s.load) then { s with phase := 0, st := true, value := s.load }
  else { s with phase := 0, st := true, value := 0, en := false }

theorem CS.one_eq (s : CS) (h : s.Ok) : s.one = s.tick 1 := by
  have p0 := h.p0
  have p1 := h.p1
  have hu : s.unit = s.scale + 1 := rfl
  unfold CS.one
  rcases (by cases s.en <;> simp : s.en = false ∨ s.en = true) with he | he
  · rw [CS.tick_off _ _ he, he]; rfl
  · rw [CS.tick_on _ _ he, he]
    simp only [Bool.not_true, Bool.false_eq_true, if_false]
    by_cases hp : s.phase + 1 ≤ s.scale
    · rw [if_pos hp, Int.ediv_eq_zero_of_lt (by omega) (by omega), Int.emod_eq_of_lt (by omega) (by omega), CS.at_lt _ _ _ (by have := s.vm_pos; omega)]
      simp [he]
    · have e : s.phase + 1 = s.unit := by omega
      have d1 : s.unit / s.unit = 1 := Int.ediv_self (by omega)
      have d2 : s.unit % s.unit = 0 := Int.emod_self
      rw [if_neg hp, e, d1, d2]
      by_cases hv : 1 < s.value
      · rw [if_pos hv, CS.at_lt _ _ _ (by unfold CS.vm; rw [if_pos (by omega)]; omega), he]
      · have hvm : s.vm = 1 := by unfold CS.vm; split <;> omega
        rw [if_neg hv]
        by_cases hr : (s.re && decide (0 < s.load)) = true
        · rw [if_pos hr, CS.at_reload _ _ _ (by omega) hr, hvm]; simp [he]
        · rw [if_neg hr, CS.at_stop _ _ _ (by omega) hr]

theorem ret_agg {a b : Array Value} (h : a = b) : Ending.returned (.agg a) = .returned (.agg b) := by rw [h]

set_option maxHeartbeats 1000000 in
theorem one_ref (s : CS) (h : s.Ok) (w : World) : Calls Try.prog 17 #[.agg s.rc] w fun e w' => e = .returned (.agg s.one.rc) ∧ Below w.heap.size w w' := by
  have s0 := h.s0
  have s1 := h.s1
  have p0 := h.p0
  have p1 := h.p1
  have v0 := h.v0
  have v1 := h.v1
  have l0 := h.l0
  have hb : ∀ o1 o2 : Obj, Below w.heap.size w ((w.alloc o1).alloc o2) := fun o1 o2 => ((Below.refl w.heap.size w).alloc (Nat.le_refl _) o1).alloc (by simp) o2
  rcases (by cases s.en <;> simp : s.en = false ∨ s.en = true) with he | he
  · have e : s.one = s := by unfold CS.one; rw [he]; rfl
    rw [e]; clear e
    go_enter Try.func17, Try.ntmps17
    go_wp2
    exact bodyPost_ret (v := .agg s.rc) (by simp [results, Try.results17, go_sem, he]) rfl ⟨by first | rfl | simp [*], hb _ _⟩
  · by_cases hp : s.phase + 1 ≤ s.scale
    · have e : s.one = { s with phase := s.phase + 1 } := by unfold CS.one; rw [he]; simp [hp]
      rw [e]; clear e
      go_enter Try.func17, Try.ntmps17
      go_wp2
      exact bodyPost_ret (v := .agg #[U s.load, U s.value, .bool s.en, .bool s.re, .bool s.ir, U s.scale, U (s.phase + 1), .bool s.st]) (by simp [results, Try.results17, go_sem, he]) rfl ⟨by first | rfl | simp [*], hb _ _⟩
    · by_cases hv : 1 < s.value
      · have e : s.one = { s with phase := 0, value := s.value - 1 } := by unfold CS.one; rw [he]; simp [hp, hv]
        rw [e]; clear e
        go_enter Try.func17, Try.ntmps17
        go_wp2
        exact bodyPost_ret (v := .agg #[U s.load, U (s.value - 1), .bool s.en, .bool s.re, .bool s.ir, U s.scale, U 0, .bool s.st]) (by simp [results, Try.results17, go_sem, he]) rfl ⟨by first | rfl | simp [*], hb _ _⟩
      · rcases (by cases s.re <;> simp : s.re = false ∨ s.re = true) with hr | hr
        · have e : s.one = { s with phase := 0, st := true, value := 0, en := false } := by unfold CS.one; rw [he]; simp [hp, hv, hr]
          rw [e]; clear e
          go_enter Try.func17, Try.ntmps17
          go_wp2
          exact bodyPost_ret (v := .agg #[U s.load, U 0, .bool false, .bool s.re, .bool s.ir, U s.scale, U 0, .bool true]) (by simp [results, Try.results17, go_sem, hr]) rfl ⟨by first | rfl | simp [*], hb _ _⟩
        · by_cases hl : 0 < s.load
          · have e : s.one = { s with phase := 0, st := true, value := s.load } := by unfold CS.one; rw [he]; simp [hp, hv, hr, hl]
            rw [e]; clear e
            have hl' : (s.load != 0) = true := by simp; omega
            go_enter Try.func17, Try.ntmps17
            go_wp2
            exact bodyPost_ret (v := .agg #[U s.load, U s.load, .bool s.en, .bool s.re, .bool s.ir, U s.scale, U 0, .bool true]) (by simp [results, Try.results17, go_sem, hr, he]) rfl ⟨by first | rfl | simp [*], hb _ _⟩
          · have e : s.one = { s with phase := 0, st := true, value := 0, en := false } := by unfold CS.one; rw [he]; simp [hp, hv, hr, hl]
            rw [e]; clear e
            have hl' : (s.load != 0) = false := by simp; omega
            go_enter Try.func17, Try.ntmps17
            go_wp2
            exact bodyPost_ret (v := .agg #[U s.load, U 0, .bool false, .bool s.re, .bool s.ir, U s.scale, U 0, .bool true]) (by simp [results, Try.results17, go_sem, hr]) rfl ⟨by first | rfl | simp [*], hb _ _⟩
end Go.Proofs.Ytfjkfigjenalgaa
