/- The contract of the document's ticks. Its conditions: those that its statement shows. -/
import Derived.Test.YtfjkfigjenalgaaR4
import Derived.Test.YtfjkfigjenalgaaM3
namespace Go.Proofs.Ytfjkfigjenalgaa
open Go.RowKit
set_option linter.unusedVariables false

theorem left_of (s : CS) (h : s.Ok) (n : Int) (hn : Hid (s.left = n)) (w : World) : Calls Try.prog 41 #[.agg s.rc] w fun e w' => e = .returned (L n) ∧ Below w.heap.size w w' := by
  have := hn.out; subst this; exact left_ref s h w
theorem one_of (s t : CS) (h : s.Ok) (ht : Hid (s.one = t)) (w : World) : Calls Try.prog 17 #[.agg s.rc] w fun e w' => e = .returned (.agg t.rc) ∧ Below w.heap.size w w' := by
  have := ht.out; subst this; exact one_ref s h w

section
variable (l v sc ph : Int) (re ir st : Bool) (w : World)

set_option maxHeartbeats 2000000 in
theorem tref_off (h : CS.Ok ⟨l, v, false, re, ir, sc, ph, st⟩) (n : Int) (n0 : 0 ≤ n) (n1 : n ≤ 18446744073709551615) :
    Calls Try.prog 38 #[.agg (CS.rc ⟨l, v, false, re, ir, sc, ph, st⟩), L n] w fun e w' => e = .returned (.agg #[U l, U (v), .bool false, .bool re, .bool ir, U sc, U (ph), .bool st]) ∧ Below w.heap.size w w' := by
  have hB := Blk.new w (CS.rc ⟨l, v, false, re, ir, sc, ph, st⟩) 27
  have hD := hB.alloc (.cells rz 27)
  have hZ : Blk ((w.alloc (.cells (CS.rc ⟨l, v, false, re, ir, sc, ph, st⟩) 27)).alloc (.cells rz 27)) (w.heap.size + 1) rz 27 := by simpa using Blk.new (w.alloc (.cells (CS.rc ⟨l, v, false, re, ir, sc, ph, st⟩) 27)) rz 27
  have hb0 : Below w.heap.size w ((w.alloc (.cells (CS.rc ⟨l, v, false, re, ir, sc, ph, st⟩) 27)).alloc (.cells rz 27)) := ((Below.refl _ _).alloc (Nat.le_refl _) _).alloc (by simp) _
  clear hB
  have HD := Lib.hid hD; have HZ := Lib.hid hZ; have HB := Lib.hid hb0; clear hD hZ hb0
  go_enter Try.func38, Try.ntmps38
  go_wp2_with fail
  refine wp_loop_rounds 1 ?_
  rw [rounds_succ]
  by_cases hn : 0 < n
  · go_wp2
    refine bodyPost_ret (v := .agg #[U l, U (v), .bool false, .bool re, .bool ir, U sc, U (ph), .bool st]) (by simp [results, Try.results38, go_sem]) rfl ⟨by first | rfl | simp [*], ?_⟩
    exact ((Below.refl _ _).alloc (Nat.le_refl _) _).alloc (by simp) _
  · go_wp2
    refine bodyPost_ret (v := .agg #[U l, U (v), .bool false, .bool re, .bool ir, U sc, U (ph), .bool st]) (by simp [results, Try.results38, go_sem]) rfl ⟨by first | rfl | simp [*], ?_⟩
    exact ((Below.refl _ _).alloc (Nat.le_refl _) _).alloc (by simp) _

set_option maxHeartbeats 2000000 in
theorem tref_zero (h : CS.Ok ⟨l, v, true, re, ir, sc, ph, st⟩) (n : Int) (hn : n = 0) :
    Calls Try.prog 38 #[.agg (CS.rc ⟨l, v, true, re, ir, sc, ph, st⟩), L n] w fun e w' => e = .returned (.agg #[U l, U (v), .bool true, .bool re, .bool ir, U sc, U (ph), .bool st]) ∧ Below w.heap.size w w' := by
  subst hn
  have hB := Blk.new w (CS.rc ⟨l, v, true, re, ir, sc, ph, st⟩) 27
  have hD := hB.alloc (.cells rz 27)
  have hZ : Blk ((w.alloc (.cells (CS.rc ⟨l, v, true, re, ir, sc, ph, st⟩) 27)).alloc (.cells rz 27)) (w.heap.size + 1) rz 27 := by simpa using Blk.new (w.alloc (.cells (CS.rc ⟨l, v, true, re, ir, sc, ph, st⟩) 27)) rz 27
  have hb0 : Below w.heap.size w ((w.alloc (.cells (CS.rc ⟨l, v, true, re, ir, sc, ph, st⟩) 27)).alloc (.cells rz 27)) := ((Below.refl _ _).alloc (Nat.le_refl _) _).alloc (by simp) _
  clear hB
  have HD := Lib.hid hD; have HZ := Lib.hid hZ; have HB := Lib.hid hb0; clear hD hZ hb0
  go_enter Try.func38, Try.ntmps38
  go_wp2_with fail
  refine wp_loop_rounds 1 ?_
  rw [rounds_succ]
  go_wp2
  refine bodyPost_ret (v := .agg #[U l, U (v), .bool true, .bool re, .bool ir, U sc, U (ph), .bool st]) (by simp [results, Try.results38, go_sem]) rfl ⟨by first | rfl | simp [*], ?_⟩
  exact ((Below.refl _ _).alloc (Nat.le_refl _) _).alloc (by simp) _

end
end Go.Proofs.Ytfjkfigjenalgaa
