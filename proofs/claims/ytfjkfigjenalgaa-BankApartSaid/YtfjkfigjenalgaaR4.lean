/- The contract of the document's store, continued. Its conditions: those that its statement shows. -/
import Derived.Test.YtfjkfigjenalgaaR3
namespace Go.Proofs.Ytfjkfigjenalgaa
open Go.RowKit
set_option linter.unusedVariables false

section
variable (s : CS) (h : s.Ok) (w : World)
include h

set_option maxHeartbeats 1000000 in
theorem sref_8tt (v : Int) (v0 : 0 ≤ v) (v1 : v ≤ 4294967295) (hv : (v % 2 == 1) = true) (hF : Hid (s.en = true)) :
    Calls Try.prog 40 #[.agg s.rc, U 8, U v] w fun e w' => e = .returned (.tuple #[.agg #[U s.load, U (s.value), .bool true, .bool (v / 2 % 2 == 1), .bool (v / 4 % 2 == 1), U (v / 256 % 256), U (0), .bool s.st], I 0]) ∧ Below w.heap.size w w' := by
  have hB := Blk.new w s.rc 27
  have hD := hB.alloc (.cells rz 27)
  have hZ : Blk ((w.alloc (.cells s.rc 27)).alloc (.cells rz 27)) (w.heap.size + 1) rz 27 := by simpa using Blk.new (w.alloc (.cells s.rc 27)) rz 27
  have hb0 : Below w.heap.size w ((w.alloc (.cells s.rc 27)).alloc (.cells rz 27)) := ((Below.refl _ _).alloc (Nat.le_refl _) _).alloc (by simp) _
  clear hB
  have HD := Lib.hid hD; have HZ := Lib.hid hZ; have HB := Lib.hid hb0; clear hD hZ hb0
  go_enter Try.func40, Try.ntmps40
  go_wp2_with (go_at_call 39; refine (load_ref s h _ (by decide) (by decide) _).mono ?_; rintro e w2 ⟨he, hb2⟩; rw [s.loadB_err _ (by decide)] at he; subst he; have D2 := HD.out.below hb2 HD.out.lt; have Z2 := HZ.out.below hb2 HZ.out.lt; have B2 := HB.out.trans (hb2.mono HB.out.size); have d0 := D2.cell 0 rfl; have x0 := D2.free 0; have z0 := Z2.cell 0 rfl; have y0 := Z2.free 0; have d1 := D2.cell 1 rfl; have x1 := D2.free 1; have z1 := Z2.cell 1 rfl; have y1 := Z2.free 1; have d2 := D2.cell 2 rfl; have x2 := D2.free 2; have z2 := Z2.cell 2 rfl; have y2 := Z2.free 2; have d3 := D2.cell 3 rfl; have x3 := D2.free 3; have z3 := Z2.cell 3 rfl; have y3 := Z2.free 3; have d4 := D2.cell 4 rfl; have x4 := D2.free 4; have z4 := Z2.cell 4 rfl; have y4 := Z2.free 4; have d5 := D2.cell 5 rfl; have x5 := D2.free 5; have z5 := Z2.cell 5 rfl; have y5 := Z2.free 5; have d6 := D2.cell 6 rfl; have x6 := D2.free 6; have z6 := Z2.cell 6 rfl; have y6 := Z2.free 6; have d7 := D2.cell 7 rfl; have x7 := D2.free 7; have z7 := Z2.cell 7 rfl; have y7 := Z2.free 7; have hF2 := hF.out)
  refine bodyPost_ret (v := .tuple #[.agg #[U s.load, U (s.value), .bool true, .bool (v / 2 % 2 == 1), .bool (v / 4 % 2 == 1), U (v / 256 % 256), U (0), .bool s.st], I 0]) (by simp [results, Try.results40, go_sem, z0, z1, z2, z3, z4, z5, z6, z7]) rfl ⟨by first | rfl | simp [*], ?_⟩
  iterate 8 (refine bset ?_ (Nat.le_succ _))
  iterate 5 (refine bset ?_ (Nat.le_refl _))
  exact B2

set_option maxHeartbeats 1000000 in
theorem sref_8tf (v : Int) (v0 : 0 ≤ v) (v1 : v ≤ 4294967295) (hv : (v % 2 == 1) = true) (hF : Hid (s.en = false)) :
    Calls Try.prog 40 #[.agg s.rc, U 8, U v] w fun e w' => e = .returned (.tuple #[.agg #[U s.load, U (s.load), .bool true, .bool (v / 2 % 2 == 1), .bool (v / 4 % 2 == 1), U (v / 256 % 256), U (0), .bool s.st], I 0]) ∧ Below w.heap.size w w' := by
  have hB := Blk.new w s.rc 27
  have hD := hB.alloc (.cells rz 27)
  have hZ : Blk ((w.alloc (.cells s.rc 27)).alloc (.cells rz 27)) (w.heap.size + 1) rz 27 := by simpa using Blk.new (w.alloc (.cells s.rc 27)) rz 27
  have hb0 : Below w.heap.size w ((w.alloc (.cells s.rc 27)).alloc (.cells rz 27)) := ((Below.refl _ _).alloc (Nat.le_refl _) _).alloc (by simp) _
  clear hB
  have HD := Lib.hid hD; have HZ := Lib.hid hZ; have HB := Lib.hid hb0; clear hD hZ hb0
  go_enter Try.func40, Try.ntmps40
  go_wp2_with (go_at_call 39; refine (load_ref s h _ (by decide) (by decide) _).mono ?_; rintro e w2 ⟨he, hb2⟩; rw [s.loadB_err _ (by decide)] at he; subst he; have D2 := HD.out.below hb2 HD.out.lt; have Z2 := HZ.out.below hb2 HZ.out.lt; have B2 := HB.out.trans (hb2.mono HB.out.size); have d0 := D2.cell 0 rfl; have x0 := D2.free 0; have z0 := Z2.cell 0 rfl; have y0 := Z2.free 0; have d1 := D2.cell 1 rfl; have x1 := D2.free 1; have z1 := Z2.cell 1 rfl; have y1 := Z2.free 1; have d2 := D2.cell 2 rfl; have x2 := D2.free 2; have z2 := Z2.cell 2 rfl; have y2 := Z2.free 2; have d3 := D2.cell 3 rfl; have x3 := D2.free 3; have z3 := Z2.cell 3 rfl; have y3 := Z2.free 3; have d4 := D2.cell 4 rfl; have x4 := D2.free 4; have z4 := Z2.cell 4 rfl; have y4 := Z2.free 4; have d5 := D2.cell 5 rfl; have x5 := D2.free 5; have z5 := Z2.cell 5 rfl; have y5 := Z2.free 5; have d6 := D2.cell 6 rfl; have x6 := D2.free 6; have z6 := Z2.cell 6 rfl; have y6 := Z2.free 6; have d7 := D2.cell 7 rfl; have x7 := D2.free 7; have z7 := Z2.cell 7 rfl; have y7 := Z2.free 7; have hF2 := hF.out)
  refine bodyPost_ret (v := .tuple #[.agg #[U s.load, U (s.load), .bool true, .bool (v / 2 % 2 == 1), .bool (v / 4 % 2 == 1), U (v / 256 % 256), U (0), .bool s.st], I 0]) (by simp [results, Try.results40, go_sem, z0, z1, z2, z3, z4, z5, z6, z7]) rfl ⟨by first | rfl | simp [*], ?_⟩
  iterate 8 (refine bset ?_ (Nat.le_succ _))
  iterate 6 (refine bset ?_ (Nat.le_refl _))
  exact B2

set_option maxHeartbeats 1000000 in
theorem sref_8ft (v : Int) (v0 : 0 ≤ v) (v1 : v ≤ 4294967295) (hv : (v % 2 == 1) = false) (hF : Hid (s.en = true)) :
    Calls Try.prog 40 #[.agg s.rc, U 8, U v] w fun e w' => e = .returned (.tuple #[.agg #[U s.load, U (s.value), .bool false, .bool (v / 2 % 2 == 1), .bool (v / 4 % 2 == 1), U (v / 256 % 256), U (0), .bool s.st], I 0]) ∧ Below w.heap.size w w' := by
  have hB := Blk.new w s.rc 27
  have hD := hB.alloc (.cells rz 27)
  have hZ : Blk ((w.alloc (.cells s.rc 27)).alloc (.cells rz 27)) (w.heap.size + 1) rz 27 := by simpa using Blk.new (w.alloc (.cells s.rc 27)) rz 27
  have hb0 : Below w.heap.size w ((w.alloc (.cells s.rc 27)).alloc (.cells rz 27)) := ((Below.refl _ _).alloc (Nat.le_refl _) _).alloc (by simp) _
  clear hB
  have HD := Lib.hid hD; have HZ := Lib.hid hZ; have HB := Lib.hid hb0; clear hD hZ hb0
  go_enter Try.func40, Try.ntmps40
  go_wp2_with (go_at_call 39; refine (load_ref s h _ (by decide) (by decide) _).mono ?_; rintro e w2 ⟨he, hb2⟩; rw [s.loadB_err _ (by decide)] at he; subst he; have D2 := HD.out.below hb2 HD.out.lt; have Z2 := HZ.out.below hb2 HZ.out.lt; have B2 := HB.out.trans (hb2.mono HB.out.size); have d0 := D2.cell 0 rfl; have x0 := D2.free 0; have z0 := Z2.cell 0 rfl; have y0 := Z2.free 0; have d1 := D2.cell 1 rfl; have x1 := D2.free 1; have z1 := Z2.cell 1 rfl; have y1 := Z2.free 1; have d2 := D2.cell 2 rfl; have x2 := D2.free 2; have z2 := Z2.cell 2 rfl; have y2 := Z2.free 2; have d3 := D2.cell 3 rfl; have x3 := D2.free 3; have z3 := Z2.cell 3 rfl; have y3 := Z2.free 3; have d4 := D2.cell 4 rfl; have x4 := D2.free 4; have z4 := Z2.cell 4 rfl; have y4 := Z2.free 4; have d5 := D2.cell 5 rfl; have x5 := D2.free 5; have z5 := Z2.cell 5 rfl; have y5 := Z2.free 5; have d6 := D2.cell 6 rfl; have x6 := D2.free 6; have z6 := Z2.cell 6 rfl; have y6 := Z2.free 6; have d7 := D2.cell 7 rfl; have x7 := D2.free 7; have z7 := Z2.cell 7 rfl; have y7 := Z2.free 7; have hF2 := hF.out)
  refine bodyPost_ret (v := .tuple #[.agg #[U s.load, U (s.value), .bool false, .bool (v / 2 % 2 == 1), .bool (v / 4 % 2 == 1), U (v / 256 % 256), U (0), .bool s.st], I 0]) (by simp [results, Try.results40, go_sem, z0, z1, z2, z3, z4, z5, z6, z7]) rfl ⟨by first | rfl | simp [*], ?_⟩
  iterate 8 (refine bset ?_ (Nat.le_succ _))
  iterate 5 (refine bset ?_ (Nat.le_refl _))
  exact B2

set_option maxHeartbeats 1000000 in
theorem sref_8ff (v : Int) (v0 : 0 ≤ v) (v1 : v ≤ 4294967295) (hv : (v % 2 == 1) = false) (hF : Hid (s.en = false)) :
    Calls Try.prog 40 #[.agg s.rc, U 8, U v] w fun e w' => e = .returned (.tuple #[.agg #[U s.load, U (s.value), .bool false, .bool (v / 2 % 2 == 1), .bool (v / 4 % 2 == 1), U (v / 256 % 256), U (0), .bool s.st], I 0]) ∧ Below w.heap.size w w' := by
  have hB := Blk.new w s.rc 27
  have hD := hB.alloc (.cells rz 27)
  have hZ : Blk ((w.alloc (.cells s.rc 27)).alloc (.cells rz 27)) (w.heap.size + 1) rz 27 := by simpa using Blk.new (w.alloc (.cells s.rc 27)) rz 27
  have hb0 : Below w.heap.size w ((w.alloc (.cells s.rc 27)).alloc (.cells rz 27)) := ((Below.refl _ _).alloc (Nat.le_refl _) _).alloc (by simp) _
  clear hB
  have HD := Lib.hid hD; have HZ := Lib.hid hZ; have HB := Lib.hid hb0; clear hD hZ hb0
  go_enter Try.func40, Try.ntmps40
  go_wp2_with (go_at_call 39; refine (load_ref s h _ (by decide) (by decide) _).mono ?_; rintro e w2 ⟨he, hb2⟩; rw [s.loadB_err _ (by decide)] at he; subst he; have D2 := HD.out.below hb2 HD.out.lt; have Z2 := HZ.out.below hb2 HZ.out.lt; have B2 := HB.out.trans (hb2.mono HB.out.size); have d0 := D2.cell 0 rfl; have x0 := D2.free 0; have z0 := Z2.cell 0 rfl; have y0 := Z2.free 0; have d1 := D2.cell 1 rfl; have x1 := D2.free 1; have z1 := Z2.cell 1 rfl; have y1 := Z2.free 1; have d2 := D2.cell 2 rfl; have x2 := D2.free 2; have z2 := Z2.cell 2 rfl; have y2 := Z2.free 2; have d3 := D2.cell 3 rfl; have x3 := D2.free 3; have z3 := Z2.cell 3 rfl; have y3 := Z2.free 3; have d4 := D2.cell 4 rfl; have x4 := D2.free 4; have z4 := Z2.cell 4 rfl; have y4 := Z2.free 4; have d5 := D2.cell 5 rfl; have x5 := D2.free 5; have z5 := Z2.cell 5 rfl; have y5 := Z2.free 5; have d6 := D2.cell 6 rfl; have x6 := D2.free 6; have z6 := Z2.cell 6 rfl; have y6 := Z2.free 6; have d7 := D2.cell 7 rfl; have x7 := D2.free 7; have z7 := Z2.cell 7 rfl; have y7 := Z2.free 7; have hF2 := hF.out)
  refine bodyPost_ret (v := .tuple #[.agg #[U s.load, U (s.value), .bool false, .bool (v / 2 % 2 == 1), .bool (v / 4 % 2 == 1), U (v / 256 % 256), U (0), .bool s.st], I 0]) (by simp [results, Try.results40, go_sem, z0, z1, z2, z3, z4, z5, z6, z7]) rfl ⟨by first | rfl | simp [*], ?_⟩
  iterate 8 (refine bset ?_ (Nat.le_succ _))
  iterate 5 (refine bset ?_ (Nat.le_refl _))
  exact B2

theorem store_ref (off v : Int) (h0 : 0 ≤ off) (h1 : off ≤ 4294967295) (v0 : 0 ≤ v) (v1 : v ≤ 4294967295) :
    Calls Try.prog 40 #[.agg s.rc, U off, U v] w fun e w' => e = .returned (.tuple #[.agg (s.storeB off v).1.rc, I (s.storeB off v).2]) ∧ Below w.heap.size w w' := by
  unfold CS.storeB
  by_cases h4 : off % 4 ≠ 0
  · rw [if_pos h4]; exact sref_err s h w off v 11 h0 h1 (by unfold CS.loadB'; rw [if_pos h4]) rfl
  · rw [if_neg h4]
    by_cases e0 : off = 0
    · subst e0; rw [if_pos rfl]; exact sref_0 s h w v
    · rw [if_neg e0]
      by_cases e4 : off = 4
      · subst e4; rw [if_pos rfl]; exact sref_4 s h w v
      · rw [if_neg e4]
        by_cases e8 : off = 8
        · subst e8; rw [if_pos rfl]
          cases hv : (v % 2 == 1) <;> cases hF : s.en
          · exact sref_8ff s h w v v0 v1 hv (Lib.hid hF)
          · exact sref_8ft s h w v v0 v1 hv (Lib.hid hF)
          · exact sref_8tf s h w v v0 v1 hv (Lib.hid hF)
          · exact sref_8tt s h w v v0 v1 hv (Lib.hid hF)
        · rw [if_neg e8]
          by_cases e12 : off = 12
          · subst e12; rw [if_pos rfl]
            cases hv : (v % 2 == 1)
            · have : ¬ v % 2 = 1 := by simpa using hv
              rw [if_neg this]; exact sref_12n s h w v v0 v1 hv
            · have : v % 2 = 1 := by simpa using hv
              rw [if_pos this]; exact sref_12y s h w v v0 v1 hv
          · rw [if_neg e12]; exact sref_err s h w off v 10 h0 h1 (by unfold CS.loadB'; rw [if_neg h4, if_neg e0, if_neg e4, if_neg e8, if_neg e12]) rfl
end
end Go.Proofs.Ytfjkfigjenalgaa
