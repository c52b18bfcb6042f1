/- The walk of the law WdogNil. Its conditions: those that its statement shows. -/
import Derived.Test.YtndndlegefhafaaQ2
namespace Go.Proofs.Ytndndlegefhafaa
open Go.RowKit
set_option linter.unusedVariables false

set_option maxHeartbeats 1000000 in
theorem nil_walk (off v n : Int) (w : World) : Calls Try.prog 7 #[U off, U v, L n] w fun e w' => e = .returned (.bool true) ∧ Below w.heap.size w w' := by
  have hn : (n == n) = true := by simp
  go_enter Try.func7, Try.ntmps7
  go_wp2_with ((go_at_call 22; fail))
  refine (reset_nil _).mono ?_
  rintro e w1 ⟨rfl, rfl⟩
  go_wp2_with ((go_at_call 18; fail))
  refine (load_nil _ _).mono ?_
  rintro e w2 ⟨rfl, rfl⟩
  go_wp2_with ((go_at_call 11; fail))
  refine (known_any _).mono ?_
  rintro e w3 ⟨rfl, B3⟩
  go_wp2_with ((go_at_call 10; fail))
  refine (tick_nil _ _).mono ?_
  rintro e w4 ⟨rfl, rfl⟩
  go_wp2_with ((go_at_call 12; fail))
  refine (fault_nil _).mono ?_
  rintro e w5 ⟨rfl, h5⟩
  have B5 := B3.trans (h5.mono B3.size)
  go_wp2_with ((go_at_call 16; fail))
  refine (enabled_nil _).mono ?_
  rintro e w6 ⟨rfl, h6⟩
  have B6 := B5.trans (h6.mono B5.size)
  go_wp2_with ((go_at_call 17; fail))
  refine (locked_nil _).mono ?_
  rintro e w7 ⟨rfl, h7⟩
  have B7 := B6.trans (h7.mono B6.size)
  go_wp2_with ((go_at_call 13; fail))
  refine (armed_nil _).mono ?_
  rintro e w8 ⟨rfl, h8⟩
  have B8 := B7.trans (h8.mono B7.size)
  go_wp2_with ((go_at_call 14; fail))
  refine (since_nil _).mono ?_
  rintro e w9 ⟨rfl, h9⟩
  have B9 := B8.trans (h9.mono B8.size)
  go_wp2_with ((go_at_call 15; fail))
  refine (left_nil _).mono ?_
  rintro e w10 ⟨rfl, h10⟩
  have B10 := B9.trans (h10.mono B9.size)
  go_wp2_with ((go_at_call 9; fail))
  refine (store_nil _ _ _).mono ?_
  rintro e w11 ⟨rfl, rfl⟩
  go_wp2_with ((go_at_call 21; fail))
  refine (copy_nil _).mono ?_
  rintro e w12 ⟨rfl, rfl⟩
  go_wp2_with fail
  go_ret
  exact ⟨ret_bool (by simp), B10⟩
theorem nil_row (off v n : Int) (_h0 : (Lit.int .u32 off).wf = true) (_h1 : (Lit.int .u32 v).wf = true) (_h2 : (Lit.int .u64 n).wf = true) (w : World) :
    Calls Try.prog 7 #[U off, U v, L n] w fun e w' => e = .returned (.bool true) ∧ Below w.heap.size w w' := nil_walk off v n w
end Go.Proofs.Ytndndlegefhafaa
