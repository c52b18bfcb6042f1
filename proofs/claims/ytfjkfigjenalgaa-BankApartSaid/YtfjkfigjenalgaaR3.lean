/- The contract of the document's store. Its conditions: those that its statement shows. -/
import Derived.Test.YtfjkfigjenalgaaR2
namespace Go.Proofs.Ytfjkfigjenalgaa
open Go.RowKit
set_option linter.unusedVariables false

theorem bset {B b j : Nat} {a w : World} {v : Value} (h : Below B a w) (hb : B ≤ b) : Below B a (w.setCell ⟨b, j, none⟩ v) := h.setCell (p := ⟨b, j, none⟩) hb v

abbrev rz : Array Value := #[U 0, U 0, .bool false, .bool false, .bool false, U 0, U 0, .bool false]

theorem CS.loadB_err (s : CS) (off : Int) (h : off = 0 ∨ off = 4 ∨ off = 8 ∨ off = 12) : (s.loadB' off).2 = 0 := by
  rcases h with rfl | rfl | rfl | rfl <;> rfl

section
variable (s : CS) (h : s.Ok) (w : World)
include h

set_option maxHeartbeats 1000000 in
theorem sref_err (off v r : Int) (h0 : 0 ≤ off) (h1 : off ≤ 4294967295) (hr : (s.loadB' off).2 = r) (hne : (r != 0) = true) :
    Calls Try.prog 40 #[.agg s.rc, U off, U v] w fun e w' => e = .returned (.tuple #[.agg s.rc, I r]) ∧ Below w.heap.size w w' := by
  have hB := Blk.new w s.rc 27
  have hD := hB.alloc (.cells rz 27)
  have hZ : Blk ((w.alloc (.cells s.rc 27)).alloc (.cells rz 27)) (w.heap.size + 1) rz 27 := by simpa using Blk.new (w.alloc (.cells s.rc 27)) rz 27
  have hb0 : Below w.heap.size w ((w.alloc (.cells s.rc 27)).alloc (.cells rz 27)) := ((Below.refl _ _).alloc (Nat.le_refl _) _).alloc (by simp) _
  clear hB
  have HD := Lib.hid hD; have HZ := Lib.hid hZ; have HB := Lib.hid hb0; clear hD hZ hb0
  go_enter Try.func40, Try.ntmps40
  go_wp2_with (go_at_call 39; refine (load_ref s h _ h0 h1 _).mono ?_; rintro e w2 ⟨he, hb2⟩; rw [hr] at he; subst he; have D2 := HD.out.below hb2 HD.out.lt; have Z2 := HZ.out.below hb2 HZ.out.lt; have B2 := HB.out.trans (hb2.mono HB.out.size); have d0 := D2.cell 0 rfl; have d1 := D2.cell 1 rfl; have d2 := D2.cell 2 rfl; have d3 := D2.cell 3 rfl; have d4 := D2.cell 4 rfl; have d5 := D2.cell 5 rfl; have d6 := D2.cell 6 rfl; have d7 := D2.cell 7 rfl; have z0 := Z2.cell 0 rfl; have z1 := Z2.cell 1 rfl; have z2 := Z2.cell 2 rfl; have z3 := Z2.cell 3 rfl; have z4 := Z2.cell 4 rfl; have z5 := Z2.cell 5 rfl; have z6 := Z2.cell 6 rfl; have z7 := Z2.cell 7 rfl; have y0 := Z2.free 0; have y1 := Z2.free 1; have y2 := Z2.free 2; have y3 := Z2.free 3; have y4 := Z2.free 4; have y5 := Z2.free 5; have y6 := Z2.free 6; have y7 := Z2.free 7)
  refine bodyPost_ret (v := .tuple #[.agg s.rc, I r]) (by simp [results, Try.results40, go_sem, z0, z1, z2, z3, z4, z5, z6, z7]) rfl ⟨rfl, ?_⟩
  iterate 8 (refine bset ?_ (Nat.le_succ _))
  exact B2

set_option maxHeartbeats 1000000 in
theorem sref_0 (v : Int) :
    Calls Try.prog 40 #[.agg s.rc, U 0, U v] w fun e w' => e = .returned (.tuple #[.agg #[U v, U (s.value), .bool s.en, .bool s.re, .bool s.ir, U (s.scale), U (s.phase), .bool s.st], I 0]) ∧ Below w.heap.size w w' := by
  have hB := Blk.new w s.rc 27
  have hD := hB.alloc (.cells rz 27)
  have hZ : Blk ((w.alloc (.cells s.rc 27)).alloc (.cells rz 27)) (w.heap.size + 1) rz 27 := by simpa using Blk.new (w.alloc (.cells s.rc 27)) rz 27
  have hb0 : Below w.heap.size w ((w.alloc (.cells s.rc 27)).alloc (.cells rz 27)) := ((Below.refl _ _).alloc (Nat.le_refl _) _).alloc (by simp) _
  clear hB
  have HD := Lib.hid hD; have HZ := Lib.hid hZ; have HB := Lib.hid hb0; clear hD hZ hb0
  go_enter Try.func40, Try.ntmps40
  go_wp2_with (go_at_call 39; refine (load_ref s h _ (by decide) (by decide) _).mono ?_; rintro e w2 ⟨he, hb2⟩; rw [s.loadB_err _ (by decide)] at he; subst he; have D2 := HD.out.below hb2 HD.out.lt; have Z2 := HZ.out.below hb2 HZ.out.lt; have B2 := HB.out.trans (hb2.mono HB.out.size); have d0 := D2.cell 0 rfl; have x0 := D2.free 0; have z0 := Z2.cell 0 rfl; have y0 := Z2.free 0; have d1 := D2.cell 1 rfl; have x1 := D2.free 1; have z1 := Z2.cell 1 rfl; have y1 := Z2.free 1; have d2 := D2.cell 2 rfl; have x2 := D2.free 2; have z2 := Z2.cell 2 rfl; have y2 := Z2.free 2; have d3 := D2.cell 3 rfl; have x3 := D2.free 3; have z3 := Z2.cell 3 rfl; have y3 := Z2.free 3; have d4 := D2.cell 4 rfl; have x4 := D2.free 4; have z4 := Z2.cell 4 rfl; have y4 := Z2.free 4; have d5 := D2.cell 5 rfl; have x5 := D2.free 5; have z5 := Z2.cell 5 rfl; have y5 := Z2.free 5; have d6 := D2.cell 6 rfl; have x6 := D2.free 6; have z6 := Z2.cell 6 rfl; have y6 := Z2.free 6; have d7 := D2.cell 7 rfl; have x7 := D2.free 7; have z7 := Z2.cell 7 rfl; have y7 := Z2.free 7)
  refine bodyPost_ret (v := .tuple #[.agg #[U v, U (s.value), .bool s.en, .bool s.re, .bool s.ir, U (s.scale), U (s.phase), .bool s.st], I 0]) (by simp [results, Try.results40, go_sem, z0, z1, z2, z3, z4, z5, z6, z7]) rfl ⟨by first | rfl | simp [*], ?_⟩
  iterate 8 (refine bset ?_ (Nat.le_succ _))
  iterate 1 (refine bset ?_ (Nat.le_refl _))
  exact B2

set_option maxHeartbeats 1000000 in
theorem sref_4 (v : Int) :
    Calls Try.prog 40 #[.agg s.rc, U 4, U v] w fun e w' => e = .returned (.tuple #[.agg s.rc, I 12]) ∧ Below w.heap.size w w' := by
  have hB := Blk.new w s.rc 27
  have hD := hB.alloc (.cells rz 27)
  have hZ : Blk ((w.alloc (.cells s.rc 27)).alloc (.cells rz 27)) (w.heap.size + 1) rz 27 := by simpa using Blk.new (w.alloc (.cells s.rc 27)) rz 27
  have hb0 : Below w.heap.size w ((w.alloc (.cells s.rc 27)).alloc (.cells rz 27)) := ((Below.refl _ _).alloc (Nat.le_refl _) _).alloc (by simp) _
  clear hB
  have HD := Lib.hid hD; have HZ := Lib.hid hZ; have HB := Lib.hid hb0; clear hD hZ hb0
  go_enter Try.func40, Try.ntmps40
  go_wp2_with (go_at_call 39; refine (load_ref s h _ (by decide) (by decide) _).mono ?_; rintro e w2 ⟨he, hb2⟩; rw [s.loadB_err _ (by decide)] at he; subst he; have D2 := HD.out.below hb2 HD.out.lt; have Z2 := HZ.out.below hb2 HZ.out.lt; have B2 := HB.out.trans (hb2.mono HB.out.size); have d0 := D2.cell 0 rfl; have x0 := D2.free 0; have z0 := Z2.cell 0 rfl; have y0 := Z2.free 0; have d1 := D2.cell 1 rfl; have x1 := D2.free 1; have z1 := Z2.cell 1 rfl; have y1 := Z2.free 1; have d2 := D2.cell 2 rfl; have x2 := D2.free 2; have z2 := Z2.cell 2 rfl; have y2 := Z2.free 2; have d3 := D2.cell 3 rfl; have x3 := D2.free 3; have z3 := Z2.cell 3 rfl; have y3 := Z2.free 3; have d4 := D2.cell 4 rfl; have x4 := D2.free 4; have z4 := Z2.cell 4 rfl; have y4 := Z2.free 4; have d5 := D2.cell 5 rfl; have x5 := D2.free 5; have z5 := Z2.cell 5 rfl; have y5 := Z2.free 5; have d6 := D2.cell 6 rfl; have x6 := D2.free 6; have z6 := Z2.cell 6 rfl; have y6 := Z2.free 6; have d7 := D2.cell 7 rfl; have x7 := D2.free 7; have z7 := Z2.cell 7 rfl; have y7 := Z2.free 7)
  refine bodyPost_ret (v := .tuple #[.agg s.rc, I 12]) (by simp [results, Try.results40, go_sem, z0, z1, z2, z3, z4, z5, z6, z7]) rfl ⟨by first | rfl | simp [*], ?_⟩
  iterate 8 (refine bset ?_ (Nat.le_succ _))
  exact B2

set_option maxHeartbeats 1000000 in
theorem sref_12n (v : Int) (v0 : 0 ≤ v) (v1 : v ≤ 4294967295) (hv : (v % 2 == 1) = false) :
    Calls Try.prog 40 #[.agg s.rc, U 12, U v] w fun e w' => e = .returned (.tuple #[.agg s.rc, I 0]) ∧ Below w.heap.size w w' := by
  have hB := Blk.new w s.rc 27
  have hD := hB.alloc (.cells rz 27)
  have hZ : Blk ((w.alloc (.cells s.rc 27)).alloc (.cells rz 27)) (w.heap.size + 1) rz 27 := by simpa using Blk.new (w.alloc (.cells s.rc 27)) rz 27
  have hb0 : Below w.heap.size w ((w.alloc (.cells s.rc 27)).alloc (.cells rz 27)) := ((Below.refl _ _).alloc (Nat.le_refl _) _).alloc (by simp) _
  clear hB
  have HD := Lib.hid hD; have HZ := Lib.hid hZ; have HB := Lib.hid hb0; clear hD hZ hb0
  go_enter Try.func40, Try.ntmps40
  go_wp2_with (go_at_call 39; refine (load_ref s h _ (by decide) (by decide) _).mono ?_; rintro e w2 ⟨he, hb2⟩; rw [s.loadB_err _ (by decide)] at he; subst he; have D2 := HD.out.below hb2 HD.out.lt; have Z2 := HZ.out.below hb2 HZ.out.lt; have B2 := HB.out.trans (hb2.mono HB.out.size); have d0 := D2.cell 0 rfl; have x0 := D2.free 0; have z0 := Z2.cell 0 rfl; have y0 := Z2.free 0; have d1 := D2.cell 1 rfl; have x1 := D2.free 1; have z1 := Z2.cell 1 rfl; have y1 := Z2.free 1; have d2 := D2.cell 2 rfl; have x2 := D2.free 2; have z2 := Z2.cell 2 rfl; have y2 := Z2.free 2; have d3 := D2.cell 3 rfl; have x3 := D2.free 3; have z3 := Z2.cell 3 rfl; have y3 := Z2.free 3; have d4 := D2.cell 4 rfl; have x4 := D2.free 4; have z4 := Z2.cell 4 rfl; have y4 := Z2.free 4; have d5 := D2.cell 5 rfl; have x5 := D2.free 5; have z5 := Z2.cell 5 rfl; have y5 := Z2.free 5; have d6 := D2.cell 6 rfl; have x6 := D2.free 6; have z6 := Z2.cell 6 rfl; have y6 := Z2.free 6; have d7 := D2.cell 7 rfl; have x7 := D2.free 7; have z7 := Z2.cell 7 rfl; have y7 := Z2.free 7)
  refine bodyPost_ret (v := .tuple #[.agg s.rc, I 0]) (by simp [results, Try.results40, go_sem, z0, z1, z2, z3, z4, z5, z6, z7]) rfl ⟨by first | rfl | simp [*], ?_⟩
  iterate 8 (refine bset ?_ (Nat.le_succ _))
  exact B2

set_option maxHeartbeats 1000000 in
theorem sref_12y (v : Int) (v0 : 0 ≤ v) (v1 : v ≤ 4294967295) (hv : (v % 2 == 1) = true) :
    Calls Try.prog 40 #[.agg s.rc, U 12, U v] w fun e w' => e = .returned (.tuple #[.agg #[U s.load, U (s.value), .bool s.en, .bool s.re, .bool s.ir, U (s.scale), U (s.phase), .bool false], I 0]) ∧ Below w.heap.size w w' := by
  have hB := Blk.new w s.rc 27
  have hD := hB.alloc (.cells rz 27)
  have hZ : Blk ((w.alloc (.cells s.rc 27)).alloc (.cells rz 27)) (w.heap.size + 1) rz 27 := by simpa using Blk.new (w.alloc (.cells s.rc 27)) rz 27
  have hb0 : Below w.heap.size w ((w.alloc (.cells s.rc 27)).alloc (.cells rz 27)) := ((Below.refl _ _).alloc (Nat.le_refl _) _).alloc (by simp) _
  clear hB
  have HD := Lib.hid hD; have HZ := Lib.hid hZ; have HB := Lib.hid hb0; clear hD hZ hb0
  go_enter Try.func40, Try.ntmps40
  go_wp2_with (go_at_call 39; refine (load_ref s h _ (by decide) (by decide) _).mono ?_; rintro e w2 ⟨he, hb2⟩; rw [s.loadB_err _ (by decide)] at he; subst he; have D2 := HD.out.below hb2 HD.out.lt; have Z2 := HZ.out.below hb2 HZ.out.lt; have B2 := HB.out.trans (hb2.mono HB.out.size); have d0 := D2.cell 0 rfl; have x0 := D2.free 0; have z0 := Z2.cell 0 rfl; have y0 := Z2.free 0; have d1 := D2.cell 1 rfl; have x1 := D2.free 1; have z1 := Z2.cell 1 rfl; have y1 := Z2.free 1; have d2 := D2.cell 2 rfl; have x2 := D2.free 2; have z2 := Z2.cell 2 rfl; have y2 := Z2.free 2; have d3 := D2.cell 3 rfl; have x3 := D2.free 3; have z3 := Z2.cell 3 rfl; have y3 := Z2.free 3; have d4 := D2.cell 4 rfl; have x4 := D2.free 4; have z4 := Z2.cell 4 rfl; have y4 := Z2.free 4; have d5 := D2.cell 5 rfl; have x5 := D2.free 5; have z5 := Z2.cell 5 rfl; have y5 := Z2.free 5; have d6 := D2.cell 6 rfl; have x6 := D2.free 6; have z6 := Z2.cell 6 rfl; have y6 := Z2.free 6; have d7 := D2.cell 7 rfl; have x7 := D2.free 7; have z7 := Z2.cell 7 rfl; have y7 := Z2.free 7)
  refine bodyPost_ret (v := .tuple #[.agg #[U s.load, U (s.value), .bool s.en, .bool s.re, .bool s.ir, U (s.scale), U (s.phase), .bool false], I 0]) (by simp [results, Try.results40, go_sem, z0, z1, z2, z3, z4, z5, z6, z7]) rfl ⟨by first | rfl | simp [*], ?_⟩
  iterate 8 (refine bset ?_ (Nat.le_succ _))
  iterate 1 (refine bset ?_ (Nat.le_refl _))
  exact B2

end
end Go.Proofs.Ytfjkfigjenalgaa
