/- Lemmas for the laws of chapter 30 (civil): contracts of functions of the program, each under the premises that its own statement shows. -/
import Derived.Test.YtajjibfipkijfaaA2
set_option linter.unusedVariables false
namespace Go.Proofs.Ytajjibfipkijfaa
open Go.RowKit

set_option maxHeartbeats 1000000 in
theorem right_n1 (y m d h i s : Int) (hy : withinB y 1970 9999 = true) (hd : withinB d 1 (daysB y m) = false) (w : World) :
    Calls Try.prog 12 #[.agg #[.int .i64 y, .int .i64 m, .int .i64 d, .int .i64 h, .int .i64 i, .int .i64 s]] w fun e w' => e = .returned (.bool false) ∧ Below w.heap.size w w' := by
  have hz : (y == 0) = false := by simp [withinB] at hy ⊢; omega
  have c0 : ∀ x : WX (w.alloc (.cells #[.int .i64 y, .int .i64 m, .int .i64 d, .int .i64 h, .int .i64 i, .int .i64 s] 24)), x.w.cell? ⟨w.heap.size, 0, none⟩ = some (.int .i64 y) := fun x => x.cell (by simp)
  have c1 : ∀ x : WX (w.alloc (.cells #[.int .i64 y, .int .i64 m, .int .i64 d, .int .i64 h, .int .i64 i, .int .i64 s] 24)), x.w.cell? ⟨w.heap.size, 1, none⟩ = some (.int .i64 m) := fun x => x.cell (by simp)
  have c2 : ∀ x : WX (w.alloc (.cells #[.int .i64 y, .int .i64 m, .int .i64 d, .int .i64 h, .int .i64 i, .int .i64 s] 24)), x.w.cell? ⟨w.heap.size, 2, none⟩ = some (.int .i64 d) := fun x => x.cell (by simp)
  have c3 : ∀ x : WX (w.alloc (.cells #[.int .i64 y, .int .i64 m, .int .i64 d, .int .i64 h, .int .i64 i, .int .i64 s] 24)), x.w.cell? ⟨w.heap.size, 3, none⟩ = some (.int .i64 h) := fun x => x.cell (by simp)
  have c4 : ∀ x : WX (w.alloc (.cells #[.int .i64 y, .int .i64 m, .int .i64 d, .int .i64 h, .int .i64 i, .int .i64 s] 24)), x.w.cell? ⟨w.heap.size, 4, none⟩ = some (.int .i64 i) := fun x => x.cell (by simp)
  have c5 : ∀ x : WX (w.alloc (.cells #[.int .i64 y, .int .i64 m, .int .i64 d, .int .i64 h, .int .i64 i, .int .i64 s] 24)), x.w.cell? ⟨w.heap.size, 5, none⟩ = some (.int .i64 s) := fun x => x.cell (by simp)
  go_enter Try.func12, Try.ntmps12
  go_wp2_with fail
  refine wp_region_grown (by kernel_rfl) (by kernel_rfl) ?_
  repeat (go_big_quiet_step (first | (go_at_call 27; exact WX.of_same (within_any _ _ _ _)) | (go_at_call 16; exact WX.of (days_any _ _ _))))
  refine wpQuiet_nil ?_
  intro w2 hb
  go_wp2
  go_ret
  exact ⟨rfl, ((Below.refl _ _).alloc (Nat.le_refl _) _).trans (hb.mono (by simp))⟩

set_option maxHeartbeats 1000000 in
theorem right_n2 (y m d h i s : Int) (hy : withinB y 1970 9999 = true) (hd : withinB d 1 (daysB y m) = true) (hh : withinB h 0 23 = false) (w : World) :
    Calls Try.prog 12 #[.agg #[.int .i64 y, .int .i64 m, .int .i64 d, .int .i64 h, .int .i64 i, .int .i64 s]] w fun e w' => e = .returned (.bool false) ∧ Below w.heap.size w w' := by
  have hz : (y == 0) = false := by simp [withinB] at hy ⊢; omega
  have c0 : ∀ x : WX (w.alloc (.cells #[.int .i64 y, .int .i64 m, .int .i64 d, .int .i64 h, .int .i64 i, .int .i64 s] 24)), x.w.cell? ⟨w.heap.size, 0, none⟩ = some (.int .i64 y) := fun x => x.cell (by simp)
  have c1 : ∀ x : WX (w.alloc (.cells #[.int .i64 y, .int .i64 m, .int .i64 d, .int .i64 h, .int .i64 i, .int .i64 s] 24)), x.w.cell? ⟨w.heap.size, 1, none⟩ = some (.int .i64 m) := fun x => x.cell (by simp)
  have c2 : ∀ x : WX (w.alloc (.cells #[.int .i64 y, .int .i64 m, .int .i64 d, .int .i64 h, .int .i64 i, .int .i64 s] 24)), x.w.cell? ⟨w.heap.size, 2, none⟩ = some (.int .i64 d) := fun x => x.cell (by simp)
  have c3 : ∀ x : WX (w.alloc (.cells #[.int .i64 y, .int .i64 m, .int .i64 d, .int .i64 h, .int .i64 i, .int .i64 s] 24)), x.w.cell? ⟨w.heap.size, 3, none⟩ = some (.int .i64 h) := fun x => x.cell (by simp)
  have c4 : ∀ x : WX (w.alloc (.cells #[.int .i64 y, .int .i64 m, .int .i64 d, .int .i64 h, .int .i64 i, .int .i64 s] 24)), x.w.cell? ⟨w.heap.size, 4, none⟩ = some (.int .i64 i) := fun x => x.cell (by simp)
  have c5 : ∀ x : WX (w.alloc (.cells #[.int .i64 y, .int .i64 m, .int .i64 d, .int .i64 h, .int .i64 i, .int .i64 s] 24)), x.w.cell? ⟨w.heap.size, 5, none⟩ = some (.int .i64 s) := fun x => x.cell (by simp)
  go_enter Try.func12, Try.ntmps12
  go_wp2_with fail
  refine wp_region_grown (by kernel_rfl) (by kernel_rfl) ?_
  repeat (go_big_quiet_step (first | (go_at_call 27; exact WX.of_same (within_any _ _ _ _)) | (go_at_call 16; exact WX.of (days_any _ _ _))))
  refine wpQuiet_nil ?_
  intro w2 hb
  go_wp2
  go_ret
  exact ⟨rfl, ((Below.refl _ _).alloc (Nat.le_refl _) _).trans (hb.mono (by simp))⟩

set_option maxHeartbeats 1000000 in
theorem right_n3 (y m d h i s : Int) (hy : withinB y 1970 9999 = true) (hd : withinB d 1 (daysB y m) = true) (hh : withinB h 0 23 = true) (hi : withinB i 0 59 = false) (w : World) :
    Calls Try.prog 12 #[.agg #[.int .i64 y, .int .i64 m, .int .i64 d, .int .i64 h, .int .i64 i, .int .i64 s]] w fun e w' => e = .returned (.bool false) ∧ Below w.heap.size w w' := by
  have hz : (y == 0) = false := by simp [withinB] at hy ⊢; omega
  have c0 : ∀ x : WX (w.alloc (.cells #[.int .i64 y, .int .i64 m, .int .i64 d, .int .i64 h, .int .i64 i, .int .i64 s] 24)), x.w.cell? ⟨w.heap.size, 0, none⟩ = some (.int .i64 y) := fun x => x.cell (by simp)
  have c1 : ∀ x : WX (w.alloc (.cells #[.int .i64 y, .int .i64 m, .int .i64 d, .int .i64 h, .int .i64 i, .int .i64 s] 24)), x.w.cell? ⟨w.heap.size, 1, none⟩ = some (.int .i64 m) := fun x => x.cell (by simp)
  have c2 : ∀ x : WX (w.alloc (.cells #[.int .i64 y, .int .i64 m, .int .i64 d, .int .i64 h, .int .i64 i, .int .i64 s] 24)), x.w.cell? ⟨w.heap.size, 2, none⟩ = some (.int .i64 d) := fun x => x.cell (by simp)
  have c3 : ∀ x : WX (w.alloc (.cells #[.int .i64 y, .int .i64 m, .int .i64 d, .int .i64 h, .int .i64 i, .int .i64 s] 24)), x.w.cell? ⟨w.heap.size, 3, none⟩ = some (.int .i64 h) := fun x => x.cell (by simp)
  have c4 : ∀ x : WX (w.alloc (.cells #[.int .i64 y, .int .i64 m, .int .i64 d, .int .i64 h, .int .i64 i, .int .i64 s] 24)), x.w.cell? ⟨w.heap.size, 4, none⟩ = some (.int .i64 i) := fun x => x.cell (by simp)
  have c5 : ∀ x : WX (w.alloc (.cells #[.int .i64 y, .int .i64 m, .int .i64 d, .int .i64 h, .int .i64 i, .int .i64 s] 24)), x.w.cell? ⟨w.heap.size, 5, none⟩ = some (.int .i64 s) := fun x => x.cell (by simp)
  go_enter Try.func12, Try.ntmps12
  go_wp2_with fail
  refine wp_region_grown (by kernel_rfl) (by kernel_rfl) ?_
  repeat (go_big_quiet_step (first | (go_at_call 27; exact WX.of_same (within_any _ _ _ _)) | (go_at_call 16; exact WX.of (days_any _ _ _))))
  refine wpQuiet_nil ?_
  intro w2 hb
  go_wp2
  go_ret
  exact ⟨rfl, ((Below.refl _ _).alloc (Nat.le_refl _) _).trans (hb.mono (by simp))⟩

set_option maxHeartbeats 1000000 in
theorem right_n4 (y m d h i s : Int) (hy : withinB y 1970 9999 = true) (hd : withinB d 1 (daysB y m) = true) (hh : withinB h 0 23 = true) (hi : withinB i 0 59 = true) (hs : withinB s 0 59 = false) (w : World) :
    Calls Try.prog 12 #[.agg #[.int .i64 y, .int .i64 m, .int .i64 d, .int .i64 h, .int .i64 i, .int .i64 s]] w fun e w' => e = .returned (.bool false) ∧ Below w.heap.size w w' := by
  have hz : (y == 0) = false := by simp [withinB] at hy ⊢; omega
  have c0 : ∀ x : WX (w.alloc (.cells #[.int .i64 y, .int .i64 m, .int .i64 d, .int .i64 h, .int .i64 i, .int .i64 s] 24)), x.w.cell? ⟨w.heap.size, 0, none⟩ = some (.int .i64 y) := fun x => x.cell (by simp)
  have c1 : ∀ x : WX (w.alloc (.cells #[.int .i64 y, .int .i64 m, .int .i64 d, .int .i64 h, .int .i64 i, .int .i64 s] 24)), x.w.cell? ⟨w.heap.size, 1, none⟩ = some (.int .i64 m) := fun x => x.cell (by simp)
  have c2 : ∀ x : WX (w.alloc (.cells #[.int .i64 y, .int .i64 m, .int .i64 d, .int .i64 h, .int .i64 i, .int .i64 s] 24)), x.w.cell? ⟨w.heap.size, 2, none⟩ = some (.int .i64 d) := fun x => x.cell (by simp)
  have c3 : ∀ x : WX (w.alloc (.cells #[.int .i64 y, .int .i64 m, .int .i64 d, .int .i64 h, .int .i64 i, .int .i64 s] 24)), x.w.cell? ⟨w.heap.size, 3, none⟩ = some (.int .i64 h) := fun x => x.cell (by simp)
  have c4 : ∀ x : WX (w.alloc (.cells #[.int .i64 y, .int .i64 m, .int .i64 d, .int .i64 h, .int .i64 i, .int .i64 s] 24)), x.w.cell? ⟨w.heap.size, 4, none⟩ = some (.int .i64 i) := fun x => x.cell (by simp)
  have c5 : ∀ x : WX (w.alloc (.cells #[.int .i64 y, .int .i64 m, .int .i64 d, .int .i64 h, .int .i64 i, .int .i64 s] 24)), x.w.cell? ⟨w.heap.size, 5, none⟩ = some (.int .i64 s) := fun x => x.cell (by simp)
  go_enter Try.func12, Try.ntmps12
  go_wp2_with fail
  refine wp_region_grown (by kernel_rfl) (by kernel_rfl) ?_
  repeat (go_big_quiet_step (first | (go_at_call 27; exact WX.of_same (within_any _ _ _ _)) | (go_at_call 16; exact WX.of (days_any _ _ _))))
  refine wpQuiet_nil ?_
  intro w2 hb
  go_wp2
  go_ret
  exact ⟨rfl, ((Below.refl _ _).alloc (Nat.le_refl _) _).trans (hb.mono (by simp))⟩

set_option maxHeartbeats 1000000 in
theorem right_n5 (y m d h i s : Int) (hy : withinB y 1970 9999 = true) (hd : withinB d 1 (daysB y m) = true) (hh : withinB h 0 23 = true) (hi : withinB i 0 59 = true) (hs : withinB s 0 59 = true) (w : World) :
    Calls Try.prog 12 #[.agg #[.int .i64 y, .int .i64 m, .int .i64 d, .int .i64 h, .int .i64 i, .int .i64 s]] w fun e w' => e = .returned (.bool true) ∧ Below w.heap.size w w' := by
  have hz : (y == 0) = false := by simp [withinB] at hy ⊢; omega
  have c0 : ∀ x : WX (w.alloc (.cells #[.int .i64 y, .int .i64 m, .int .i64 d, .int .i64 h, .int .i64 i, .int .i64 s] 24)), x.w.cell? ⟨w.heap.size, 0, none⟩ = some (.int .i64 y) := fun x => x.cell (by simp)
  have c1 : ∀ x : WX (w.alloc (.cells #[.int .i64 y, .int .i64 m, .int .i64 d, .int .i64 h, .int .i64 i, .int .i64 s] 24)), x.w.cell? ⟨w.heap.size, 1, none⟩ = some (.int .i64 m) := fun x => x.cell (by simp)
  have c2 : ∀ x : WX (w.alloc (.cells #[.int .i64 y, .int .i64 m, .int .i64 d, .int .i64 h, .int .i64 i, .int .i64 s] 24)), x.w.cell? ⟨w.heap.size, 2, none⟩ = some (.int .i64 d) := fun x => x.cell (by simp)
  have c3 : ∀ x : WX (w.alloc (.cells #[.int .i64 y, .int .i64 m, .int .i64 d, .int .i64 h, .int .i64 i, .int .i64 s] 24)), x.w.cell? ⟨w.heap.size, 3, none⟩ = some (.int .i64 h) := fun x => x.cell (by simp)
  have c4 : ∀ x : WX (w.alloc (.cells #[.int .i64 y, .int .i64 m, .int .i64 d, .int .i64 h, .int .i64 i, .int .i64 s] 24)), x.w.cell? ⟨w.heap.size, 4, none⟩ = some (.int .i64 i) := fun x => x.cell (by simp)
  have c5 : ∀ x : WX (w.alloc (.cells #[.int .i64 y, .int .i64 m, .int .i64 d, .int .i64 h, .int .i64 i, .int .i64 s] 24)), x.w.cell? ⟨w.heap.size, 5, none⟩ = some (.int .i64 s) := fun x => x.cell (by simp)
  go_enter Try.func12, Try.ntmps12
  go_wp2_with fail
  refine wp_region_grown (by kernel_rfl) (by kernel_rfl) ?_
  repeat (go_big_quiet_step (first | (go_at_call 27; exact WX.of_same (within_any _ _ _ _)) | (go_at_call 16; exact WX.of (days_any _ _ _))))
  refine wpQuiet_nil ?_
  intro w2 hb
  go_wp2
  go_ret
  exact ⟨rfl, ((Below.refl _ _).alloc (Nat.le_refl _) _).trans (hb.mono (by simp))⟩

set_option maxHeartbeats 1000000 in
theorem right_n0 (y m d h i s : Int) (hz : ¬ y = 0) (hy : withinB y 1970 9999 = false) (w : World) :
    Calls Try.prog 12 #[.agg #[.int .i64 y, .int .i64 m, .int .i64 d, .int .i64 h, .int .i64 i, .int .i64 s]] w fun e w' => e = .returned (.bool false) ∧ Below w.heap.size w w' := by
  have c0 : ∀ x : WX (w.alloc (.cells #[.int .i64 y, .int .i64 m, .int .i64 d, .int .i64 h, .int .i64 i, .int .i64 s] 24)), x.w.cell? ⟨w.heap.size, 0, none⟩ = some (.int .i64 y) := fun x => x.cell (by simp)
  have c1 : ∀ x : WX (w.alloc (.cells #[.int .i64 y, .int .i64 m, .int .i64 d, .int .i64 h, .int .i64 i, .int .i64 s] 24)), x.w.cell? ⟨w.heap.size, 1, none⟩ = some (.int .i64 m) := fun x => x.cell (by simp)
  have c2 : ∀ x : WX (w.alloc (.cells #[.int .i64 y, .int .i64 m, .int .i64 d, .int .i64 h, .int .i64 i, .int .i64 s] 24)), x.w.cell? ⟨w.heap.size, 2, none⟩ = some (.int .i64 d) := fun x => x.cell (by simp)
  have c3 : ∀ x : WX (w.alloc (.cells #[.int .i64 y, .int .i64 m, .int .i64 d, .int .i64 h, .int .i64 i, .int .i64 s] 24)), x.w.cell? ⟨w.heap.size, 3, none⟩ = some (.int .i64 h) := fun x => x.cell (by simp)
  have c4 : ∀ x : WX (w.alloc (.cells #[.int .i64 y, .int .i64 m, .int .i64 d, .int .i64 h, .int .i64 i, .int .i64 s] 24)), x.w.cell? ⟨w.heap.size, 4, none⟩ = some (.int .i64 i) := fun x => x.cell (by simp)
  have c5 : ∀ x : WX (w.alloc (.cells #[.int .i64 y, .int .i64 m, .int .i64 d, .int .i64 h, .int .i64 i, .int .i64 s] 24)), x.w.cell? ⟨w.heap.size, 5, none⟩ = some (.int .i64 s) := fun x => x.cell (by simp)
  go_enter Try.func12, Try.ntmps12
  go_wp2_with fail
  refine wp_region_grown (by kernel_rfl) (by kernel_rfl) ?_
  repeat (go_big_quiet_step (first | (go_at_call 27; exact WX.of_same (within_any _ _ _ _)) | (go_at_call 16; exact WX.of (days_any _ _ _))))
  refine wpQuiet_nil ?_
  intro w2 hb
  go_wp2
  go_ret
  exact ⟨rfl, ((Below.refl _ _).alloc (Nat.le_refl _) _).trans (hb.mono (by simp))⟩
end Go.Proofs.Ytajjibfipkijfaa
