/- The contract of the document's ticks, continued. Its conditions: those that its statement shows. -/
import Derived.Test.YtfjkfigjenalgaaR5
import Derived.StillTailTactics
namespace Go.Proofs.Ytfjkfigjenalgaa
open Go.RowKit
set_option linter.unusedVariables false

section
variable (l v sc ph : Int) (re ir st : Bool) (w : World)

set_option maxHeartbeats 2000000 in
theorem tref_before (h : CS.Ok ⟨l, v, true, re, ir, sc, ph, st⟩) (n Lf q r : Int) (n0 : 0 < n) (hL : Hid (CS.left ⟨l, v, true, re, ir, sc, ph, st⟩ = Lf)) (hlt : n < Lf) (n1 : n ≤ 18446744073709551615) (hq : (ph + n) / (sc + 1) = q) (hr : (ph + n) % (sc + 1) = r) (q0 : 0 ≤ q) (q1 : q ≤ v) (hsum : ph + n ≤ 18446744073709551615) :
    Calls Try.prog 38 #[.agg (CS.rc ⟨l, v, true, re, ir, sc, ph, st⟩), L n] w fun e w' => e = .returned (.agg #[U l, U (v - q), .bool true, .bool re, .bool ir, U sc, U (r), .bool st]) ∧ Below w.heap.size w w' := by
  have s0 : 0 ≤ sc := h.s0
  have s1 : sc ≤ 255 := h.s1
  have p0 : 0 ≤ ph := h.p0
  have v1 : v ≤ 4294967295 := h.v1
  have r0 : 0 ≤ r := by rw [← hr]; exact Int.emod_nonneg _ (by omega)
  have r1 : r ≤ 255 := by have := Int.emod_lt_of_pos (ph + n) (by omega : 0 < sc + 1); omega
  have e1 : IntKind.u32.wrap q = q := by rw [IntKind.wrap_u32]; omega
  have e2 : IntKind.u32.wrap (v - q) = v - q := by rw [IntKind.wrap_u32]; omega
  have e3 : (ph + n).tdiv (sc + 1) = q := by rw [Int.tdiv_eq_ediv_of_nonneg (by omega)]; exact hq
  have e4 : IntKind.u64.wrap q = q := by rw [IntKind.wrap_u64]; omega
  have hn0 : (n == 0) = false := by simp; omega
  have hu0 : ¬ sc + 1 = 0 := by omega
  have hB := Blk.new w (CS.rc ⟨l, v, true, re, ir, sc, ph, st⟩) 27
  have hD := hB.alloc (.cells rz 27)
  have hZ : Blk ((w.alloc (.cells (CS.rc ⟨l, v, true, re, ir, sc, ph, st⟩) 27)).alloc (.cells rz 27)) (w.heap.size + 1) rz 27 := by simpa using Blk.new (w.alloc (.cells (CS.rc ⟨l, v, true, re, ir, sc, ph, st⟩) 27)) rz 27
  have hb0 : Below w.heap.size w ((w.alloc (.cells (CS.rc ⟨l, v, true, re, ir, sc, ph, st⟩) 27)).alloc (.cells rz 27)) := ((Below.refl _ _).alloc (Nat.le_refl _) _).alloc (by simp) _
  clear hB
  have HD := Lib.hid hD; have HZ := Lib.hid hZ; have HB := Lib.hid hb0; clear hD hZ hb0
  go_enter Try.func38, Try.ntmps38
  go_wp2_with fail
  refine wp_loop_rounds 1 ?_
  rw [rounds_succ]
  go_wp2_with (go_at_call 41; refine (left_of ⟨l, v, true, re, ir, sc, ph, st⟩ h _ hL _).mono ?_; rintro e w2 ⟨rfl, hb2⟩; have D2 := HD.out.below hb2 HD.out.lt; have Z2 := HZ.out.below hb2 HZ.out.lt; have B2 := HB.out.trans (hb2.mono HB.out.size); have d20 := D2.cell 0 rfl; have d21 := D2.cell 1 rfl; have d22 := D2.cell 2 rfl; have d23 := D2.cell 3 rfl; have d24 := D2.cell 4 rfl; have d25 := D2.cell 5 rfl; have d26 := D2.cell 6 rfl; have d27 := D2.cell 7 rfl; have x21 := D2.free 1; have x26 := D2.free 6; have z20 := Z2.cell 0 rfl; have y20 := Z2.free 0; have z21 := Z2.cell 1 rfl; have y21 := Z2.free 1; have z22 := Z2.cell 2 rfl; have y22 := Z2.free 2; have z23 := Z2.cell 3 rfl; have y23 := Z2.free 3; have z24 := Z2.cell 4 rfl; have y24 := Z2.free 4; have z25 := Z2.cell 5 rfl; have y25 := Z2.free 5; have z26 := Z2.cell 6 rfl; have y26 := Z2.free 6; have z27 := Z2.cell 7 rfl; have y27 := Z2.free 7)
  go_still_tail 8, (by kernel_rfl)
  go_wp2
  refine bodyPost_ret (v := .agg #[U l, U (v - q), .bool true, .bool re, .bool ir, U sc, U (r), .bool st]) (by simp [results, Try.results38, go_sem, z20, z21, z22, z23, z24, z25, z26, z27]) rfl ⟨by first | rfl | simp [*], ?_⟩
  refine Below.drew ?_
  iterate 8 (refine bset ?_ (Nat.le_succ _))
  iterate 2 (refine bset ?_ (Nat.le_refl _))
  exact B2
end
end Go.Proofs.Ytfjkfigjenalgaa
