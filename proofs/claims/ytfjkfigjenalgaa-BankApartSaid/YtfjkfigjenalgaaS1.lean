/- A nil timer: its answers, and the law's walk. No conditions beyond those that each statement shows. -/
import Derived.Test.YtfjkfigjenalgaaQ2
namespace Go.Proofs.Ytfjkfigjenalgaa
open Go.RowKit
set_option linter.unusedVariables false

theorem line_nil (w : World) : Calls Try.prog 23 #[.pointer none] w fun e w' => e = .returned (.bool false) ∧ w = w' := by
  go_enter Try.func23, Try.ntmps23
  go_wp2
  go_ret
  exact ⟨rfl, rfl⟩
theorem left_nil (w : World) : Calls Try.prog 19 #[.pointer none] w fun e w' => e = .returned (L 18446744073709551615) ∧ w = w' := by
  go_enter Try.func19, Try.ntmps19
  go_wp2_with (go_at_call 21; refine (runs_nil _).mono ?_; rintro e w' ⟨rfl, rfl⟩)
  go_ret
  exact ⟨rfl, rfl⟩
theorem copy_nil (w : World) : Calls Try.prog 15 #[.pointer none] w fun e w' => e = .returned (.pointer none) ∧ w = w' := by
  go_enter Try.func15, Try.ntmps15
  go_wp2
  go_ret
  exact ⟨rfl, rfl⟩
theorem reset_nil (w : World) : Calls Try.prog 22 #[.pointer none] w fun e w' => e = .returned (.tuple #[]) ∧ w = w' := by
  go_enter Try.func22, Try.ntmps22
  go_wp2
  first
    | exact bodyPost_ret (v := .tuple #[]) (by simp [results, go_sem]) rfl ⟨rfl, rfl⟩
    | (go_end0; exact ⟨rfl, rfl⟩)
theorem load_nil (off : Int) (w : World) : Calls Try.prog 18 #[.pointer none, U off] w fun e w' => e = .returned (.tuple #[U 0, I 10]) ∧ w = w' := by
  go_enter Try.func18, Try.ntmps18
  go_wp2_with (go_at_call 46; refine (place_nil _ _).mono ?_; rintro e w' ⟨rfl, rfl⟩)
  go_ret2
  exact ⟨rfl, rfl⟩
theorem store_nil (off v : Int) (w : World) : Calls Try.prog 20 #[.pointer none, U off, U v] w fun e w' => e = .returned (I 10) ∧ w = w' := by
  go_enter Try.func20, Try.ntmps20
  go_wp2_with (go_at_call 46; refine (place_nil _ _).mono ?_; rintro e w' ⟨rfl, rfl⟩)
  go_ret
  exact ⟨rfl, rfl⟩

theorem nil_walk (off v n : Int) (w : World) : Calls Try.prog 6 #[U off, U v, L n] w fun e w' => e = .returned (.bool true) ∧ Below w.heap.size w w' := by
  go_enter Try.func6, Try.ntmps6
  go_wp2_with (first
    | (go_at_call 16; refine (tick_nil _ _).mono ?_; rintro e w' ⟨rfl, rfl⟩)
    | (go_at_call 22; refine (reset_nil _).mono ?_; rintro e w' ⟨rfl, rfl⟩)
    | (go_at_call 18; refine (load_nil _ _).mono ?_; rintro e w' ⟨rfl, rfl⟩)
    | (go_at_call 14; refine (known_count _).mono ?_; rintro e w2 ⟨rfl, hb⟩)
    | (go_at_call 23; refine (line_nil _).mono ?_; rintro e w' ⟨rfl, rfl⟩)
    | (go_at_call 21; refine (runs_nil _).mono ?_; rintro e w' ⟨rfl, rfl⟩)
    | (go_at_call 19; refine (left_nil _).mono ?_; rintro e w' ⟨rfl, rfl⟩)
    | (go_at_call 20; refine (store_nil _ _ _).mono ?_; rintro e w' ⟨rfl, rfl⟩)
    | (go_at_call 15; refine (copy_nil _).mono ?_; rintro e w' ⟨rfl, rfl⟩))
  go_ret
  exact ⟨rfl, hb⟩
end Go.Proofs.Ytfjkfigjenalgaa
namespace Go.Proofs.Ytfjkfigjenalgaa
open Go.RowKit
theorem nil_row {p q r : Prop} (off v n : Int) (_ : p) (_ : q) (_ : r) (w : World) : Calls Try.prog 6 #[U off, U v, L n] w fun e w' => e = .returned (.bool true) ∧ Below w.heap.size w w' := nil_walk off v n w
end Go.Proofs.Ytfjkfigjenalgaa
