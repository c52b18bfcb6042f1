/- Lemmas for the laws of chapter 30 (civil): contracts of functions of the program, each under the premises that its own statement shows. -/
import Derived.Test.YtajjibfipkijfaaB2
set_option linter.unusedSimpArgs false
set_option linter.unusedVariables false
namespace Go.Proofs.Ytajjibfipkijfaa
open Go.RowKit

set_option maxHeartbeats 1000000 in
theorem rright_6 (y m d h i s : Int) (h0 : decide (1970 ≤ y) = true) (h1 : decide (y ≤ 9999) = true) (h2 : decide (1 ≤ d) = true) (h3 : decide (d ≤ daysB y m) = true) (h4 : decide (0 ≤ h) = true) (h5 : decide (h < 24) = true) (h6 : decide (0 ≤ i) = false) (w : World) :
    Calls Try.prog 13 #[.agg #[I y, I m, I d, I h, I i, I s]] w fun e w' => e = .returned (.bool false) ∧ Below w.heap.size w w' := by
  have c0 : ∀ x : WX (w.alloc (.cells #[I y, I m, I d, I h, I i, I s] 29)), x.w.cell? ⟨w.heap.size, 0, none⟩ = some (I y) := fun x => x.cell (by simp)
  have c1 : ∀ x : WX (w.alloc (.cells #[I y, I m, I d, I h, I i, I s] 29)), x.w.cell? ⟨w.heap.size, 1, none⟩ = some (I m) := fun x => x.cell (by simp)
  have c2 : ∀ x : WX (w.alloc (.cells #[I y, I m, I d, I h, I i, I s] 29)), x.w.cell? ⟨w.heap.size, 2, none⟩ = some (I d) := fun x => x.cell (by simp)
  have c3 : ∀ x : WX (w.alloc (.cells #[I y, I m, I d, I h, I i, I s] 29)), x.w.cell? ⟨w.heap.size, 3, none⟩ = some (I h) := fun x => x.cell (by simp)
  have c4 : ∀ x : WX (w.alloc (.cells #[I y, I m, I d, I h, I i, I s] 29)), x.w.cell? ⟨w.heap.size, 4, none⟩ = some (I i) := fun x => x.cell (by simp)
  have c5 : ∀ x : WX (w.alloc (.cells #[I y, I m, I d, I h, I i, I s] 29)), x.w.cell? ⟨w.heap.size, 5, none⟩ = some (I s) := fun x => x.cell (by simp)
  go_enter Try.func13, Try.ntmps13
  go_wp2_with fail
  refine wp_region_grown (by kernel_rfl) (by kernel_rfl) ?_
  repeat (go_big_quiet_step ((go_at_call 17; exact WX.of_same (rdays_any _ _ _))))
  refine wpQuiet_nil ?_
  intro w2 hb
  go_wp2
  go_ret
  exact ⟨rfl, ((Below.refl _ _).alloc (Nat.le_refl _) _).trans (hb.mono (by simp))⟩

set_option maxHeartbeats 1000000 in
theorem rright_7 (y m d h i s : Int) (h0 : decide (1970 ≤ y) = true) (h1 : decide (y ≤ 9999) = true) (h2 : decide (1 ≤ d) = true) (h3 : decide (d ≤ daysB y m) = true) (h4 : decide (0 ≤ h) = true) (h5 : decide (h < 24) = true) (h6 : decide (0 ≤ i) = true) (h7 : decide (i < 60) = false) (w : World) :
    Calls Try.prog 13 #[.agg #[I y, I m, I d, I h, I i, I s]] w fun e w' => e = .returned (.bool false) ∧ Below w.heap.size w w' := by
  have c0 : ∀ x : WX (w.alloc (.cells #[I y, I m, I d, I h, I i, I s] 29)), x.w.cell? ⟨w.heap.size, 0, none⟩ = some (I y) := fun x => x.cell (by simp)
  have c1 : ∀ x : WX (w.alloc (.cells #[I y, I m, I d, I h, I i, I s] 29)), x.w.cell? ⟨w.heap.size, 1, none⟩ = some (I m) := fun x => x.cell (by simp)
  have c2 : ∀ x : WX (w.alloc (.cells #[I y, I m, I d, I h, I i, I s] 29)), x.w.cell? ⟨w.heap.size, 2, none⟩ = some (I d) := fun x => x.cell (by simp)
  have c3 : ∀ x : WX (w.alloc (.cells #[I y, I m, I d, I h, I i, I s] 29)), x.w.cell? ⟨w.heap.size, 3, none⟩ = some (I h) := fun x => x.cell (by simp)
  have c4 : ∀ x : WX (w.alloc (.cells #[I y, I m, I d, I h, I i, I s] 29)), x.w.cell? ⟨w.heap.size, 4, none⟩ = some (I i) := fun x => x.cell (by simp)
  have c5 : ∀ x : WX (w.alloc (.cells #[I y, I m, I d, I h, I i, I s] 29)), x.w.cell? ⟨w.heap.size, 5, none⟩ = some (I s) := fun x => x.cell (by simp)
  go_enter Try.func13, Try.ntmps13
  go_wp2_with fail
  refine wp_region_grown (by kernel_rfl) (by kernel_rfl) ?_
  repeat (go_big_quiet_step ((go_at_call 17; exact WX.of_same (rdays_any _ _ _))))
  refine wpQuiet_nil ?_
  intro w2 hb
  go_wp2
  go_ret
  exact ⟨rfl, ((Below.refl _ _).alloc (Nat.le_refl _) _).trans (hb.mono (by simp))⟩

set_option maxHeartbeats 1000000 in
theorem rright_8 (y m d h i s : Int) (h0 : decide (1970 ≤ y) = true) (h1 : decide (y ≤ 9999) = true) (h2 : decide (1 ≤ d) = true) (h3 : decide (d ≤ daysB y m) = true) (h4 : decide (0 ≤ h) = true) (h5 : decide (h < 24) = true) (h6 : decide (0 ≤ i) = true) (h7 : decide (i < 60) = true) (h8 : decide (0 ≤ s) = false) (w : World) :
    Calls Try.prog 13 #[.agg #[I y, I m, I d, I h, I i, I s]] w fun e w' => e = .returned (.bool false) ∧ Below w.heap.size w w' := by
  have c0 : ∀ x : WX (w.alloc (.cells #[I y, I m, I d, I h, I i, I s] 29)), x.w.cell? ⟨w.heap.size, 0, none⟩ = some (I y) := fun x => x.cell (by simp)
  have c1 : ∀ x : WX (w.alloc (.cells #[I y, I m, I d, I h, I i, I s] 29)), x.w.cell? ⟨w.heap.size, 1, none⟩ = some (I m) := fun x => x.cell (by simp)
  have c2 : ∀ x : WX (w.alloc (.cells #[I y, I m, I d, I h, I i, I s] 29)), x.w.cell? ⟨w.heap.size, 2, none⟩ = some (I d) := fun x => x.cell (by simp)
  have c3 : ∀ x : WX (w.alloc (.cells #[I y, I m, I d, I h, I i, I s] 29)), x.w.cell? ⟨w.heap.size, 3, none⟩ = some (I h) := fun x => x.cell (by simp)
  have c4 : ∀ x : WX (w.alloc (.cells #[I y, I m, I d, I h, I i, I s] 29)), x.w.cell? ⟨w.heap.size, 4, none⟩ = some (I i) := fun x => x.cell (by simp)
  have c5 : ∀ x : WX (w.alloc (.cells #[I y, I m, I d, I h, I i, I s] 29)), x.w.cell? ⟨w.heap.size, 5, none⟩ = some (I s) := fun x => x.cell (by simp)
  go_enter Try.func13, Try.ntmps13
  go_wp2_with fail
  refine wp_region_grown (by kernel_rfl) (by kernel_rfl) ?_
  repeat (go_big_quiet_step ((go_at_call 17; exact WX.of_same (rdays_any _ _ _))))
  refine wpQuiet_nil ?_
  intro w2 hb
  go_wp2
  go_ret
  exact ⟨rfl, ((Below.refl _ _).alloc (Nat.le_refl _) _).trans (hb.mono (by simp))⟩

set_option maxHeartbeats 1000000 in
theorem rright_9 (y m d h i s : Int) (h0 : decide (1970 ≤ y) = true) (h1 : decide (y ≤ 9999) = true) (h2 : decide (1 ≤ d) = true) (h3 : decide (d ≤ daysB y m) = true) (h4 : decide (0 ≤ h) = true) (h5 : decide (h < 24) = true) (h6 : decide (0 ≤ i) = true) (h7 : decide (i < 60) = true) (h8 : decide (0 ≤ s) = true) (h9 : decide (s < 60) = false) (w : World) :
    Calls Try.prog 13 #[.agg #[I y, I m, I d, I h, I i, I s]] w fun e w' => e = .returned (.bool false) ∧ Below w.heap.size w w' := by
  have c0 : ∀ x : WX (w.alloc (.cells #[I y, I m, I d, I h, I i, I s] 29)), x.w.cell? ⟨w.heap.size, 0, none⟩ = some (I y) := fun x => x.cell (by simp)
  have c1 : ∀ x : WX (w.alloc (.cells #[I y, I m, I d, I h, I i, I s] 29)), x.w.cell? ⟨w.heap.size, 1, none⟩ = some (I m) := fun x => x.cell (by simp)
  have c2 : ∀ x : WX (w.alloc (.cells #[I y, I m, I d, I h, I i, I s] 29)), x.w.cell? ⟨w.heap.size, 2, none⟩ = some (I d) := fun x => x.cell (by simp)
  have c3 : ∀ x : WX (w.alloc (.cells #[I y, I m, I d, I h, I i, I s] 29)), x.w.cell? ⟨w.heap.size, 3, none⟩ = some (I h) := fun x => x.cell (by simp)
  have c4 : ∀ x : WX (w.alloc (.cells #[I y, I m, I d, I h, I i, I s] 29)), x.w.cell? ⟨w.heap.size, 4, none⟩ = some (I i) := fun x => x.cell (by simp)
  have c5 : ∀ x : WX (w.alloc (.cells #[I y, I m, I d, I h, I i, I s] 29)), x.w.cell? ⟨w.heap.size, 5, none⟩ = some (I s) := fun x => x.cell (by simp)
  go_enter Try.func13, Try.ntmps13
  go_wp2_with fail
  refine wp_region_grown (by kernel_rfl) (by kernel_rfl) ?_
  repeat (go_big_quiet_step ((go_at_call 17; exact WX.of_same (rdays_any _ _ _))))
  refine wpQuiet_nil ?_
  intro w2 hb
  go_wp2
  go_ret
  exact ⟨rfl, ((Below.refl _ _).alloc (Nat.le_refl _) _).trans (hb.mono (by simp))⟩

set_option maxHeartbeats 1000000 in
theorem rright_10 (y m d h i s : Int) (h0 : decide (1970 ≤ y) = true) (h1 : decide (y ≤ 9999) = true) (h2 : decide (1 ≤ d) = true) (h3 : decide (d ≤ daysB y m) = true) (h4 : decide (0 ≤ h) = true) (h5 : decide (h < 24) = true) (h6 : decide (0 ≤ i) = true) (h7 : decide (i < 60) = true) (h8 : decide (0 ≤ s) = true) (h9 : decide (s < 60) = true) (w : World) :
    Calls Try.prog 13 #[.agg #[I y, I m, I d, I h, I i, I s]] w fun e w' => e = .returned (.bool true) ∧ Below w.heap.size w w' := by
  have c0 : ∀ x : WX (w.alloc (.cells #[I y, I m, I d, I h, I i, I s] 29)), x.w.cell? ⟨w.heap.size, 0, none⟩ = some (I y) := fun x => x.cell (by simp)
  have c1 : ∀ x : WX (w.alloc (.cells #[I y, I m, I d, I h, I i, I s] 29)), x.w.cell? ⟨w.heap.size, 1, none⟩ = some (I m) := fun x => x.cell (by simp)
  have c2 : ∀ x : WX (w.alloc (.cells #[I y, I m, I d, I h, I i, I s] 29)), x.w.cell? ⟨w.heap.size, 2, none⟩ = some (I d) := fun x => x.cell (by simp)
  have c3 : ∀ x : WX (w.alloc (.cells #[I y, I m, I d, I h, I i, I s] 29)), x.w.cell? ⟨w.heap.size, 3, none⟩ = some (I h) := fun x => x.cell (by simp)
  have c4 : ∀ x : WX (w.alloc (.cells #[I y, I m, I d, I h, I i, I s] 29)), x.w.cell? ⟨w.heap.size, 4, none⟩ = some (I i) := fun x => x.cell (by simp)
  have c5 : ∀ x : WX (w.alloc (.cells #[I y, I m, I d, I h, I i, I s] 29)), x.w.cell? ⟨w.heap.size, 5, none⟩ = some (I s) := fun x => x.cell (by simp)
  go_enter Try.func13, Try.ntmps13
  go_wp2_with fail
  refine wp_region_grown (by kernel_rfl) (by kernel_rfl) ?_
  repeat (go_big_quiet_step ((go_at_call 17; exact WX.of_same (rdays_any _ _ _))))
  refine wpQuiet_nil ?_
  intro w2 hb
  go_wp2
  go_ret
  exact ⟨rfl, ((Below.refl _ _).alloc (Nat.le_refl _) _).trans (hb.mono (by simp))⟩
end Go.Proofs.Ytajjibfipkijfaa
