/- Contracts of the document's functions on timers. Their conditions: those that their statements show. -/
import Derived.Test.YtfjkfigjenalgaaN1
namespace Go.Proofs.Ytfjkfigjenalgaa
open Go.RowKit
set_option linter.unusedVariables false

/-- The document's timer, as cells. -/
abbrev CS.rc (s : CS) : Array Value := #[U s.load, U s.value, .bool s.en, .bool s.re, .bool s.ir, U s.scale, U s.phase, .bool s.st]

theorem word_any (b : Bool) (n : Int) (w : World) : Calls Try.prog 56 #[.bool b, U n] w fun e w' => e = .returned (U (if b then n else 0)) ∧ w = w' := by
  cases b
  all_goals
    go_enter Try.func56, Try.ntmps56
    go_wp2
    go_ret
    exact ⟨rfl, rfl⟩

theorem CS.vm_unit (s : CS) (h : s.Ok) : s.unit ≤ s.vm * s.unit ∧ s.vm * s.unit ≤ 4294967295 * 256 ∧ 1 ≤ s.unit ∧ s.unit ≤ 256 ∧ s.phase < s.unit ∧ s.vm ≤ 4294967295 := by
  have hv := h.v1
  have hvm := s.vm_pos
  have hvm2 : s.vm ≤ 4294967295 := by unfold CS.vm; split <;> omega
  have hu0 : 1 ≤ s.unit := by have := h.s0; unfold CS.unit; omega
  have hu1 : s.unit ≤ 256 := by have := h.s1; unfold CS.unit; omega
  have hp1 : s.phase < s.unit := by have := h.p1; unfold CS.unit; omega
  have hm0 : s.unit ≤ s.vm * s.unit := by have := Int.mul_le_mul_of_nonneg_right hvm (by omega : 0 ≤ s.unit); omega
  exact ⟨hm0, Int.le_trans (Int.mul_le_mul_of_nonneg_left hu1 (by omega)) (Int.mul_le_mul_of_nonneg_right hvm2 (by omega)), hu0, hu1, hp1, hvm2⟩

theorem left_ref (s : CS) (h : s.Ok) (w : World) : Calls Try.prog 41 #[.agg s.rc] w fun e w' => e = .returned (L s.left) ∧ Below w.heap.size w w' := by
  obtain ⟨a1, a2, a3, a4, a5, a6⟩ := s.vm_unit h
  have v0 := h.v0
  have v1 := h.v1
  have s0 := h.s0
  have s1 := h.s1
  have p0 := h.p0
  have p1 := h.p1
  have hb := (Below.refl w.heap.size w).alloc (Nat.le_refl _) (.cells s.rc 27)
  rcases (by cases s.en <;> simp : s.en = false ∨ s.en = true) with he | he
  · have e : s.left = 18446744073709551615 := by unfold CS.left; rw [he]; rfl
    rw [e]; clear e
    go_enter Try.func41, Try.ntmps41
    go_wp2
    go_ret
    exact ⟨rfl, hb⟩
  · have e : s.left = s.vm * s.unit - s.phase := by unfold CS.left; rw [he]; rfl
    rw [e]; clear e
    by_cases hv : s.value = 0
    · have e : s.vm * s.unit = s.unit := by unfold CS.vm; rw [hv]; simp
      rw [e] at a1 a2 ⊢
      unfold CS.unit at *
      have hv' : (s.value == 0) = true := by simp [hv]
      clear hv e
      go_enter Try.func41, Try.ntmps41
      go_wp2
      go_ret
      exact ⟨ret_int (by omega), hb⟩
    · have hvm : s.vm = s.value := by unfold CS.vm; rw [if_pos (by omega)]
      rw [hvm] at a1 a2 a6 ⊢
      have hv' : (s.value == 0) = false := by simp [hv]
      have hv1' : 1 ≤ s.value := by omega
      clear hv hvm
      unfold CS.unit at *
      have m0 : 0 ≤ (s.value - 1) * (s.scale + 1) := Int.mul_nonneg (by omega) (by omega)
      have m1 : (s.value - 1) * (s.scale + 1) = s.value * (s.scale + 1) - (s.scale + 1) := by rw [Int.sub_mul, Int.one_mul]
      have m2 : (s.value - 1) * (s.scale + 1) ≤ 4294967295 * 256 := by omega
      have M1 := Lib.hid m1; clear m1
      go_enter Try.func41, Try.ntmps41
      go_wp2
      go_ret
      exact ⟨ret_int (by rw [M1.out]; omega), hb⟩

def CS.loadB' (s : CS) (off : Int) : Int × Int :=
  if off % 4 ≠ 0 then (0, 11) else if off = 0 then (s.load, 0) else if off = 4 then (s.value, 0) else if off = 8 then (s.ctl, 0) else if off = 12 then (bI s.st, 0) else (0, 10)

theorem ret_tup {a b c : Int} (h : a = b) : Ending.returned (.tuple #[U a, I c]) = .returned (.tuple #[U b, I c]) := by rw [h]

theorem ite_bI (b : Bool) (n : Int) : (if b then n else 0) = n * bI b := by cases b <;> simp [bI]

set_option maxHeartbeats 1000000 in
theorem load_ref (s : CS) (h : s.Ok) (off : Int) (h0 : 0 ≤ off) (h1 : off ≤ 4294967295) (w : World) :
    Calls Try.prog 39 #[.agg s.rc, U off] w fun e w' => e = .returned (.tuple #[U (s.loadB' off).1, I (s.loadB' off).2]) ∧ Below w.heap.size w w' := by
  have hb := (Below.refl w.heap.size w).alloc (Nat.le_refl _) (.cells s.rc 27)
  have hB := Blk.new w s.rc 27
  unfold CS.loadB'
  by_cases h4 : off % 4 ≠ 0
  · rw [if_pos h4]
    have k : (off % 4 != 0) = true := by simp [h4]
    clear h4
    go_enter Try.func39, Try.ntmps39
    go_wp2
    go_ret2
    exact ⟨rfl, hb⟩
  · rw [if_neg h4]
    by_cases e0 : off = 0
    · subst e0; rw [if_pos rfl]
      go_enter Try.func39, Try.ntmps39
      go_wp2
      go_ret2
      exact ⟨rfl, hb⟩
    · rw [if_neg e0]
      by_cases e4 : off = 4
      · subst e4; rw [if_pos rfl]
        go_enter Try.func39, Try.ntmps39
        go_wp2
        go_ret2
        exact ⟨rfl, hb⟩
      · rw [if_neg e4]
        by_cases e8 : off = 8
        · subst e8; rw [if_pos rfl]
          have s0 := h.s0
          have s1 := h.s1
          have b0 := bI_bd s.en
          have b1 := bI_bd s.re
          have b2 := bI_bd s.ir
          have c2 : ∀ x : WX (w.alloc (.cells s.rc 27)), x.w.cell? ⟨w.heap.size, 2, none⟩ = some (.bool s.en) := hB.wx 2 rfl
          have c3 : ∀ x : WX (w.alloc (.cells s.rc 27)), x.w.cell? ⟨w.heap.size, 3, none⟩ = some (.bool s.re) := hB.wx 3 rfl
          have c4 : ∀ x : WX (w.alloc (.cells s.rc 27)), x.w.cell? ⟨w.heap.size, 4, none⟩ = some (.bool s.ir) := hB.wx 4 rfl
          have c5 : ∀ x : WX (w.alloc (.cells s.rc 27)), x.w.cell? ⟨w.heap.size, 5, none⟩ = some (U s.scale) := hB.wx 5 rfl
          clear hB
          go_enter Try.func39, Try.ntmps39
          go_wp2_with fail
          refine wp_region_grown (by kernel_rfl) (by kernel_rfl) ?_
          repeat (go_big_quiet_step ((go_at_call 56; exact WX.of_same (word_any _ _ _))))
          refine wpQuiet_nil ?_
          intro w2 hb2
          clear c2 c3 c4 c5
          go_wp2
          all_goals
            go_ret2
            exact ⟨ret_tup (by simp [CS.ctl, bI, *] <;> omega), hb.trans (hb2.mono (by simp))⟩
        · rw [if_neg e8]
          by_cases e12 : off = 12
          · subst e12; rw [if_pos rfl]
            go_enter Try.func39, Try.ntmps39
            go_wp2_with (go_at_call 56; refine (word_any _ _ _).mono ?_; rintro e w2 ⟨rfl, rfl⟩)
            all_goals
              go_ret2
              exact ⟨ret_tup (by simp [bI, *]), hb⟩
          · rw [if_neg e12]
            have k : (off % 4 != 0) = false := by simp; omega
            have k0 : (off == 0) = false := by simp [e0]
            have k4 : (off == 4) = false := by simp [e4]
            have k8 : (off == 8) = false := by simp [e8]
            have k12 : (off == 12) = false := by simp [e12]
            clear e0 e4 e8 e12 h4
            go_enter Try.func39, Try.ntmps39
            go_wp2
            go_ret2
            exact ⟨rfl, hb⟩
end Go.Proofs.Ytfjkfigjenalgaa
