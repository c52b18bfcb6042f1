/- The watchdog of the program: loads of registers. Conditions: those that each statement shows. -/
import Derived.Test.YtndndlegefhafaaN4
namespace Go.Proofs.Ytndndlegefhafaa
open Go.RowKit
set_option linter.unusedVariables false
set_option linter.unusedSimpArgs false

section
variable {b : Nat} {w : World}

theorem load_0_0 (ar : Bool) (shut all since fault : Int) (hc : HW w b ⟨false, false, ar, shut, all, since, fault⟩) (s0 : 0 ≤ since) (s1 : since ≤ 4294967295) :
    Calls Try.prog 18 #[.pointer (some ⟨b, 0, none⟩), U 0] w fun e w' => e = .returned (.tuple #[U 0, I 0]) ∧ Below w.heap.size w w' := by
  have PL := Lib.hid (place_ok b 0 0 (by decide) (by decide) (by decide))
  have LO := Lib.hid (lo_any since s0 s1)
  have c0 := hc.cell 0 rfl; have c1 := hc.cell 1 rfl
  have x3 := (show Blk w b _ 52 from hc).wx 3 rfl; have x4 := (show Blk w b _ 52 from hc).wx 4 rfl; have x5 := (show Blk w b _ 52 from hc).wx 5 rfl
  try dsimp only at c0 c1 x3 x4 x5
  have hix : ∀ w : World, (Instr.index 59 (.agg #[U 0, U shut, U all, U 0, U since]) (I 0)).run Try.prog w = .ok (U 0) w := fun _ => by kernel_rfl
  clear hc
  go_enter Try.func18, Try.ntmps18
  go_wp2_with ((go_at_call 23; fail))
  refine (PL.out _).mono ?_; rintro e wa ⟨rfl, rfl⟩
  go_wp2_with fail
  refine wp_region_grown (by kernel_rfl) (by kernel_rfl) ?_
  repeat (go_big_quiet_step ((go_at_call 28; exact WX.of_same (LO.out _))))
  refine wpQuiet_nil ?_
  intro w2 hb2
  go_wp2
  go_ret2
  exact ⟨rfl, hb2⟩
theorem load_0_1 (ar : Bool) (shut all since fault : Int) (hc : HW w b ⟨false, false, ar, shut, all, since, fault⟩) (s0 : 0 ≤ since) (s1 : since ≤ 4294967295) :
    Calls Try.prog 18 #[.pointer (some ⟨b, 0, none⟩), U 4] w fun e w' => e = .returned (.tuple #[U shut, I 0]) ∧ Below w.heap.size w w' := by
  have PL := Lib.hid (place_ok b 4 1 (by decide) (by decide) (by decide))
  have LO := Lib.hid (lo_any since s0 s1)
  have c0 := hc.cell 0 rfl; have c1 := hc.cell 1 rfl
  have x3 := (show Blk w b _ 52 from hc).wx 3 rfl; have x4 := (show Blk w b _ 52 from hc).wx 4 rfl; have x5 := (show Blk w b _ 52 from hc).wx 5 rfl
  try dsimp only at c0 c1 x3 x4 x5
  have hix : ∀ w : World, (Instr.index 59 (.agg #[U 0, U shut, U all, U 0, U since]) (I 1)).run Try.prog w = .ok (U shut) w := fun _ => by kernel_rfl
  clear hc
  go_enter Try.func18, Try.ntmps18
  go_wp2_with ((go_at_call 23; fail))
  refine (PL.out _).mono ?_; rintro e wa ⟨rfl, rfl⟩
  go_wp2_with fail
  refine wp_region_grown (by kernel_rfl) (by kernel_rfl) ?_
  repeat (go_big_quiet_step ((go_at_call 28; exact WX.of_same (LO.out _))))
  refine wpQuiet_nil ?_
  intro w2 hb2
  go_wp2
  go_ret2
  exact ⟨rfl, hb2⟩
theorem load_0_2 (ar : Bool) (shut all since fault : Int) (hc : HW w b ⟨false, false, ar, shut, all, since, fault⟩) (s0 : 0 ≤ since) (s1 : since ≤ 4294967295) :
    Calls Try.prog 18 #[.pointer (some ⟨b, 0, none⟩), U 8] w fun e w' => e = .returned (.tuple #[U all, I 0]) ∧ Below w.heap.size w w' := by
  have PL := Lib.hid (place_ok b 8 2 (by decide) (by decide) (by decide))
  have LO := Lib.hid (lo_any since s0 s1)
  have c0 := hc.cell 0 rfl; have c1 := hc.cell 1 rfl
  have x3 := (show Blk w b _ 52 from hc).wx 3 rfl; have x4 := (show Blk w b _ 52 from hc).wx 4 rfl; have x5 := (show Blk w b _ 52 from hc).wx 5 rfl
  try dsimp only at c0 c1 x3 x4 x5
  have hix : ∀ w : World, (Instr.index 59 (.agg #[U 0, U shut, U all, U 0, U since]) (I 2)).run Try.prog w = .ok (U all) w := fun _ => by kernel_rfl
  clear hc
  go_enter Try.func18, Try.ntmps18
  go_wp2_with ((go_at_call 23; fail))
  refine (PL.out _).mono ?_; rintro e wa ⟨rfl, rfl⟩
  go_wp2_with fail
  refine wp_region_grown (by kernel_rfl) (by kernel_rfl) ?_
  repeat (go_big_quiet_step ((go_at_call 28; exact WX.of_same (LO.out _))))
  refine wpQuiet_nil ?_
  intro w2 hb2
  go_wp2
  go_ret2
  exact ⟨rfl, hb2⟩
theorem load_0_3 (ar : Bool) (shut all since fault : Int) (hc : HW w b ⟨false, false, ar, shut, all, since, fault⟩) (s0 : 0 ≤ since) (s1 : since ≤ 4294967295) :
    Calls Try.prog 18 #[.pointer (some ⟨b, 0, none⟩), U 12] w fun e w' => e = .returned (.tuple #[U 0, I 0]) ∧ Below w.heap.size w w' := by
  have PL := Lib.hid (place_ok b 12 3 (by decide) (by decide) (by decide))
  have LO := Lib.hid (lo_any since s0 s1)
  have c0 := hc.cell 0 rfl; have c1 := hc.cell 1 rfl
  have x3 := (show Blk w b _ 52 from hc).wx 3 rfl; have x4 := (show Blk w b _ 52 from hc).wx 4 rfl; have x5 := (show Blk w b _ 52 from hc).wx 5 rfl
  try dsimp only at c0 c1 x3 x4 x5
  have hix : ∀ w : World, (Instr.index 59 (.agg #[U 0, U shut, U all, U 0, U since]) (I 3)).run Try.prog w = .ok (U 0) w := fun _ => by kernel_rfl
  clear hc
  go_enter Try.func18, Try.ntmps18
  go_wp2_with ((go_at_call 23; fail))
  refine (PL.out _).mono ?_; rintro e wa ⟨rfl, rfl⟩
  go_wp2_with fail
  refine wp_region_grown (by kernel_rfl) (by kernel_rfl) ?_
  repeat (go_big_quiet_step ((go_at_call 28; exact WX.of_same (LO.out _))))
  refine wpQuiet_nil ?_
  intro w2 hb2
  go_wp2
  go_ret2
  exact ⟨rfl, hb2⟩
theorem load_0_4 (ar : Bool) (shut all since fault : Int) (hc : HW w b ⟨false, false, ar, shut, all, since, fault⟩) (s0 : 0 ≤ since) (s1 : since ≤ 4294967295) :
    Calls Try.prog 18 #[.pointer (some ⟨b, 0, none⟩), U 16] w fun e w' => e = .returned (.tuple #[U since, I 0]) ∧ Below w.heap.size w w' := by
  have PL := Lib.hid (place_ok b 16 4 (by decide) (by decide) (by decide))
  have LO := Lib.hid (lo_any since s0 s1)
  have c0 := hc.cell 0 rfl; have c1 := hc.cell 1 rfl
  have x3 := (show Blk w b _ 52 from hc).wx 3 rfl; have x4 := (show Blk w b _ 52 from hc).wx 4 rfl; have x5 := (show Blk w b _ 52 from hc).wx 5 rfl
  try dsimp only at c0 c1 x3 x4 x5
  have hix : ∀ w : World, (Instr.index 59 (.agg #[U 0, U shut, U all, U 0, U since]) (I 4)).run Try.prog w = .ok (U since) w := fun _ => by kernel_rfl
  clear hc
  go_enter Try.func18, Try.ntmps18
  go_wp2_with ((go_at_call 23; fail))
  refine (PL.out _).mono ?_; rintro e wa ⟨rfl, rfl⟩
  go_wp2_with fail
  refine wp_region_grown (by kernel_rfl) (by kernel_rfl) ?_
  repeat (go_big_quiet_step ((go_at_call 28; exact WX.of_same (LO.out _))))
  refine wpQuiet_nil ?_
  intro w2 hb2
  go_wp2
  go_ret2
  exact ⟨rfl, hb2⟩
theorem load_1_0 (ar : Bool) (shut all since fault : Int) (hc : HW w b ⟨true, false, ar, shut, all, since, fault⟩) (s0 : 0 ≤ since) (s1 : since ≤ 4294967295) :
    Calls Try.prog 18 #[.pointer (some ⟨b, 0, none⟩), U 0] w fun e w' => e = .returned (.tuple #[U 1, I 0]) ∧ Below w.heap.size w w' := by
  have PL := Lib.hid (place_ok b 0 0 (by decide) (by decide) (by decide))
  have LO := Lib.hid (lo_any since s0 s1)
  have c0 := hc.cell 0 rfl; have c1 := hc.cell 1 rfl
  have x3 := (show Blk w b _ 52 from hc).wx 3 rfl; have x4 := (show Blk w b _ 52 from hc).wx 4 rfl; have x5 := (show Blk w b _ 52 from hc).wx 5 rfl
  try dsimp only at c0 c1 x3 x4 x5
  have hix : ∀ w : World, (Instr.index 59 (.agg #[U 1, U shut, U all, U 0, U since]) (I 0)).run Try.prog w = .ok (U 1) w := fun _ => by kernel_rfl
  clear hc
  go_enter Try.func18, Try.ntmps18
  go_wp2_with ((go_at_call 23; fail))
  refine (PL.out _).mono ?_; rintro e wa ⟨rfl, rfl⟩
  go_wp2_with ((go_at_call 27; fail))
  refine (Put_0 _).mono ?_; rintro e wb ⟨rfl, rfl⟩
  go_wp2_with fail
  refine wp_region_grown (by kernel_rfl) (by kernel_rfl) ?_
  repeat (go_big_quiet_step ((go_at_call 28; exact WX.of_same (LO.out _))))
  refine wpQuiet_nil ?_
  intro w2 hb2
  go_wp2
  go_ret2
  exact ⟨rfl, hb2⟩
theorem load_1_1 (ar : Bool) (shut all since fault : Int) (hc : HW w b ⟨true, false, ar, shut, all, since, fault⟩) (s0 : 0 ≤ since) (s1 : since ≤ 4294967295) :
    Calls Try.prog 18 #[.pointer (some ⟨b, 0, none⟩), U 4] w fun e w' => e = .returned (.tuple #[U shut, I 0]) ∧ Below w.heap.size w w' := by
  have PL := Lib.hid (place_ok b 4 1 (by decide) (by decide) (by decide))
  have LO := Lib.hid (lo_any since s0 s1)
  have c0 := hc.cell 0 rfl; have c1 := hc.cell 1 rfl
  have x3 := (show Blk w b _ 52 from hc).wx 3 rfl; have x4 := (show Blk w b _ 52 from hc).wx 4 rfl; have x5 := (show Blk w b _ 52 from hc).wx 5 rfl
  try dsimp only at c0 c1 x3 x4 x5
  have hix : ∀ w : World, (Instr.index 59 (.agg #[U 1, U shut, U all, U 0, U since]) (I 1)).run Try.prog w = .ok (U shut) w := fun _ => by kernel_rfl
  clear hc
  go_enter Try.func18, Try.ntmps18
  go_wp2_with ((go_at_call 23; fail))
  refine (PL.out _).mono ?_; rintro e wa ⟨rfl, rfl⟩
  go_wp2_with ((go_at_call 27; fail))
  refine (Put_0 _).mono ?_; rintro e wb ⟨rfl, rfl⟩
  go_wp2_with fail
  refine wp_region_grown (by kernel_rfl) (by kernel_rfl) ?_
  repeat (go_big_quiet_step ((go_at_call 28; exact WX.of_same (LO.out _))))
  refine wpQuiet_nil ?_
  intro w2 hb2
  go_wp2
  go_ret2
  exact ⟨rfl, hb2⟩
theorem load_1_2 (ar : Bool) (shut all since fault : Int) (hc : HW w b ⟨true, false, ar, shut, all, since, fault⟩) (s0 : 0 ≤ since) (s1 : since ≤ 4294967295) :
    Calls Try.prog 18 #[.pointer (some ⟨b, 0, none⟩), U 8] w fun e w' => e = .returned (.tuple #[U all, I 0]) ∧ Below w.heap.size w w' := by
  have PL := Lib.hid (place_ok b 8 2 (by decide) (by decide) (by decide))
  have LO := Lib.hid (lo_any since s0 s1)
  have c0 := hc.cell 0 rfl; have c1 := hc.cell 1 rfl
  have x3 := (show Blk w b _ 52 from hc).wx 3 rfl; have x4 := (show Blk w b _ 52 from hc).wx 4 rfl; have x5 := (show Blk w b _ 52 from hc).wx 5 rfl
  try dsimp only at c0 c1 x3 x4 x5
  have hix : ∀ w : World, (Instr.index 59 (.agg #[U 1, U shut, U all, U 0, U since]) (I 2)).run Try.prog w = .ok (U all) w := fun _ => by kernel_rfl
  clear hc
  go_enter Try.func18, Try.ntmps18
  go_wp2_with ((go_at_call 23; fail))
  refine (PL.out _).mono ?_; rintro e wa ⟨rfl, rfl⟩
  go_wp2_with ((go_at_call 27; fail))
  refine (Put_0 _).mono ?_; rintro e wb ⟨rfl, rfl⟩
  go_wp2_with fail
  refine wp_region_grown (by kernel_rfl) (by kernel_rfl) ?_
  repeat (go_big_quiet_step ((go_at_call 28; exact WX.of_same (LO.out _))))
  refine wpQuiet_nil ?_
  intro w2 hb2
  go_wp2
  go_ret2
  exact ⟨rfl, hb2⟩
theorem load_1_3 (ar : Bool) (shut all since fault : Int) (hc : HW w b ⟨true, false, ar, shut, all, since, fault⟩) (s0 : 0 ≤ since) (s1 : since ≤ 4294967295) :
    Calls Try.prog 18 #[.pointer (some ⟨b, 0, none⟩), U 12] w fun e w' => e = .returned (.tuple #[U 0, I 0]) ∧ Below w.heap.size w w' := by
  have PL := Lib.hid (place_ok b 12 3 (by decide) (by decide) (by decide))
  have LO := Lib.hid (lo_any since s0 s1)
  have c0 := hc.cell 0 rfl; have c1 := hc.cell 1 rfl
  have x3 := (show Blk w b _ 52 from hc).wx 3 rfl; have x4 := (show Blk w b _ 52 from hc).wx 4 rfl; have x5 := (show Blk w b _ 52 from hc).wx 5 rfl
  try dsimp only at c0 c1 x3 x4 x5
  have hix : ∀ w : World, (Instr.index 59 (.agg #[U 1, U shut, U all, U 0, U since]) (I 3)).run Try.prog w = .ok (U 0) w := fun _ => by kernel_rfl
  clear hc
  go_enter Try.func18, Try.ntmps18
  go_wp2_with ((go_at_call 23; fail))
  refine (PL.out _).mono ?_; rintro e wa ⟨rfl, rfl⟩
  go_wp2_with ((go_at_call 27; fail))
  refine (Put_0 _).mono ?_; rintro e wb ⟨rfl, rfl⟩
  go_wp2_with fail
  refine wp_region_grown (by kernel_rfl) (by kernel_rfl) ?_
  repeat (go_big_quiet_step ((go_at_call 28; exact WX.of_same (LO.out _))))
  refine wpQuiet_nil ?_
  intro w2 hb2
  go_wp2
  go_ret2
  exact ⟨rfl, hb2⟩
theorem load_1_4 (ar : Bool) (shut all since fault : Int) (hc : HW w b ⟨true, false, ar, shut, all, since, fault⟩) (s0 : 0 ≤ since) (s1 : since ≤ 4294967295) :
    Calls Try.prog 18 #[.pointer (some ⟨b, 0, none⟩), U 16] w fun e w' => e = .returned (.tuple #[U since, I 0]) ∧ Below w.heap.size w w' := by
  have PL := Lib.hid (place_ok b 16 4 (by decide) (by decide) (by decide))
  have LO := Lib.hid (lo_any since s0 s1)
  have c0 := hc.cell 0 rfl; have c1 := hc.cell 1 rfl
  have x3 := (show Blk w b _ 52 from hc).wx 3 rfl; have x4 := (show Blk w b _ 52 from hc).wx 4 rfl; have x5 := (show Blk w b _ 52 from hc).wx 5 rfl
  try dsimp only at c0 c1 x3 x4 x5
  have hix : ∀ w : World, (Instr.index 59 (.agg #[U 1, U shut, U all, U 0, U since]) (I 4)).run Try.prog w = .ok (U since) w := fun _ => by kernel_rfl
  clear hc
  go_enter Try.func18, Try.ntmps18
  go_wp2_with ((go_at_call 23; fail))
  refine (PL.out _).mono ?_; rintro e wa ⟨rfl, rfl⟩
  go_wp2_with ((go_at_call 27; fail))
  refine (Put_0 _).mono ?_; rintro e wb ⟨rfl, rfl⟩
  go_wp2_with fail
  refine wp_region_grown (by kernel_rfl) (by kernel_rfl) ?_
  repeat (go_big_quiet_step ((go_at_call 28; exact WX.of_same (LO.out _))))
  refine wpQuiet_nil ?_
  intro w2 hb2
  go_wp2
  go_ret2
  exact ⟨rfl, hb2⟩
theorem load_2_0 (ar : Bool) (shut all since fault : Int) (hc : HW w b ⟨false, true, ar, shut, all, since, fault⟩) (s0 : 0 ≤ since) (s1 : since ≤ 4294967295) :
    Calls Try.prog 18 #[.pointer (some ⟨b, 0, none⟩), U 0] w fun e w' => e = .returned (.tuple #[U 2, I 0]) ∧ Below w.heap.size w w' := by
  have PL := Lib.hid (place_ok b 0 0 (by decide) (by decide) (by decide))
  have LO := Lib.hid (lo_any since s0 s1)
  have c0 := hc.cell 0 rfl; have c1 := hc.cell 1 rfl
  have x3 := (show Blk w b _ 52 from hc).wx 3 rfl; have x4 := (show Blk w b _ 52 from hc).wx 4 rfl; have x5 := (show Blk w b _ 52 from hc).wx 5 rfl
  try dsimp only at c0 c1 x3 x4 x5
  have hix : ∀ w : World, (Instr.index 59 (.agg #[U 2, U shut, U all, U 0, U since]) (I 0)).run Try.prog w = .ok (U 2) w := fun _ => by kernel_rfl
  clear hc
  go_enter Try.func18, Try.ntmps18
  go_wp2_with ((go_at_call 23; fail))
  refine (PL.out _).mono ?_; rintro e wa ⟨rfl, rfl⟩
  go_wp2_with ((go_at_call 27; fail))
  refine (Put_10 _).mono ?_; rintro e wd ⟨rfl, rfl⟩
  go_wp2_with fail
  refine wp_region_grown (by kernel_rfl) (by kernel_rfl) ?_
  repeat (go_big_quiet_step ((go_at_call 28; exact WX.of_same (LO.out _))))
  refine wpQuiet_nil ?_
  intro w2 hb2
  go_wp2
  go_ret2
  exact ⟨rfl, hb2⟩
theorem load_2_1 (ar : Bool) (shut all since fault : Int) (hc : HW w b ⟨false, true, ar, shut, all, since, fault⟩) (s0 : 0 ≤ since) (s1 : since ≤ 4294967295) :
    Calls Try.prog 18 #[.pointer (some ⟨b, 0, none⟩), U 4] w fun e w' => e = .returned (.tuple #[U shut, I 0]) ∧ Below w.heap.size w w' := by
  have PL := Lib.hid (place_ok b 4 1 (by decide) (by decide) (by decide))
  have LO := Lib.hid (lo_any since s0 s1)
  have c0 := hc.cell 0 rfl; have c1 := hc.cell 1 rfl
  have x3 := (show Blk w b _ 52 from hc).wx 3 rfl; have x4 := (show Blk w b _ 52 from hc).wx 4 rfl; have x5 := (show Blk w b _ 52 from hc).wx 5 rfl
  try dsimp only at c0 c1 x3 x4 x5
  have hix : ∀ w : World, (Instr.index 59 (.agg #[U 2, U shut, U all, U 0, U since]) (I 1)).run Try.prog w = .ok (U shut) w := fun _ => by kernel_rfl
  clear hc
  go_enter Try.func18, Try.ntmps18
  go_wp2_with ((go_at_call 23; fail))
  refine (PL.out _).mono ?_; rintro e wa ⟨rfl, rfl⟩
  go_wp2_with ((go_at_call 27; fail))
  refine (Put_10 _).mono ?_; rintro e wd ⟨rfl, rfl⟩
  go_wp2_with fail
  refine wp_region_grown (by kernel_rfl) (by kernel_rfl) ?_
  repeat (go_big_quiet_step ((go_at_call 28; exact WX.of_same (LO.out _))))
  refine wpQuiet_nil ?_
  intro w2 hb2
  go_wp2
  go_ret2
  exact ⟨rfl, hb2⟩
theorem load_2_2 (ar : Bool) (shut all since fault : Int) (hc : HW w b ⟨false, true, ar, shut, all, since, fault⟩) (s0 : 0 ≤ since) (s1 : since ≤ 4294967295) :
    Calls Try.prog 18 #[.pointer (some ⟨b, 0, none⟩), U 8] w fun e w' => e = .returned (.tuple #[U all, I 0]) ∧ Below w.heap.size w w' := by
  have PL := Lib.hid (place_ok b 8 2 (by decide) (by decide) (by decide))
  have LO := Lib.hid (lo_any since s0 s1)
  have c0 := hc.cell 0 rfl; have c1 := hc.cell 1 rfl
  have x3 := (show Blk w b _ 52 from hc).wx 3 rfl; have x4 := (show Blk w b _ 52 from hc).wx 4 rfl; have x5 := (show Blk w b _ 52 from hc).wx 5 rfl
  try dsimp only at c0 c1 x3 x4 x5
  have hix : ∀ w : World, (Instr.index 59 (.agg #[U 2, U shut, U all, U 0, U since]) (I 2)).run Try.prog w = .ok (U all) w := fun _ => by kernel_rfl
  clear hc
  go_enter Try.func18, Try.ntmps18
  go_wp2_with ((go_at_call 23; fail))
  refine (PL.out _).mono ?_; rintro e wa ⟨rfl, rfl⟩
  go_wp2_with ((go_at_call 27; fail))
  refine (Put_10 _).mono ?_; rintro e wd ⟨rfl, rfl⟩
  go_wp2_with fail
  refine wp_region_grown (by kernel_rfl) (by kernel_rfl) ?_
  repeat (go_big_quiet_step ((go_at_call 28; exact WX.of_same (LO.out _))))
  refine wpQuiet_nil ?_
  intro w2 hb2
  go_wp2
  go_ret2
  exact ⟨rfl, hb2⟩
theorem load_2_3 (ar : Bool) (shut all since fault : Int) (hc : HW w b ⟨false, true, ar, shut, all, since, fault⟩) (s0 : 0 ≤ since) (s1 : since ≤ 4294967295) :
    Calls Try.prog 18 #[.pointer (some ⟨b, 0, none⟩), U 12] w fun e w' => e = .returned (.tuple #[U 0, I 0]) ∧ Below w.heap.size w w' := by
  have PL := Lib.hid (place_ok b 12 3 (by decide) (by decide) (by decide))
  have LO := Lib.hid (lo_any since s0 s1)
  have c0 := hc.cell 0 rfl; have c1 := hc.cell 1 rfl
  have x3 := (show Blk w b _ 52 from hc).wx 3 rfl; have x4 := (show Blk w b _ 52 from hc).wx 4 rfl; have x5 := (show Blk w b _ 52 from hc).wx 5 rfl
  try dsimp only at c0 c1 x3 x4 x5
  have hix : ∀ w : World, (Instr.index 59 (.agg #[U 2, U shut, U all, U 0, U since]) (I 3)).run Try.prog w = .ok (U 0) w := fun _ => by kernel_rfl
  clear hc
  go_enter Try.func18, Try.ntmps18
  go_wp2_with ((go_at_call 23; fail))
  refine (PL.out _).mono ?_; rintro e wa ⟨rfl, rfl⟩
  go_wp2_with ((go_at_call 27; fail))
  refine (Put_10 _).mono ?_; rintro e wd ⟨rfl, rfl⟩
  go_wp2_with fail
  refine wp_region_grown (by kernel_rfl) (by kernel_rfl) ?_
  repeat (go_big_quiet_step ((go_at_call 28; exact WX.of_same (LO.out _))))
  refine wpQuiet_nil ?_
  intro w2 hb2
  go_wp2
  go_ret2
  exact ⟨rfl, hb2⟩
theorem load_2_4 (ar : Bool) (shut all since fault : Int) (hc : HW w b ⟨false, true, ar, shut, all, since, fault⟩) (s0 : 0 ≤ since) (s1 : since ≤ 4294967295) :
    Calls Try.prog 18 #[.pointer (some ⟨b, 0, none⟩), U 16] w fun e w' => e = .returned (.tuple #[U since, I 0]) ∧ Below w.heap.size w w' := by
  have PL := Lib.hid (place_ok b 16 4 (by decide) (by decide) (by decide))
  have LO := Lib.hid (lo_any since s0 s1)
  have c0 := hc.cell 0 rfl; have c1 := hc.cell 1 rfl
  have x3 := (show Blk w b _ 52 from hc).wx 3 rfl; have x4 := (show Blk w b _ 52 from hc).wx 4 rfl; have x5 := (show Blk w b _ 52 from hc).wx 5 rfl
  try dsimp only at c0 c1 x3 x4 x5
  have hix : ∀ w : World, (Instr.index 59 (.agg #[U 2, U shut, U all, U 0, U since]) (I 4)).run Try.prog w = .ok (U since) w := fun _ => by kernel_rfl
  clear hc
  go_enter Try.func18, Try.ntmps18
  go_wp2_with ((go_at_call 23; fail))
  refine (PL.out _).mono ?_; rintro e wa ⟨rfl, rfl⟩
  go_wp2_with ((go_at_call 27; fail))
  refine (Put_10 _).mono ?_; rintro e wd ⟨rfl, rfl⟩
  go_wp2_with fail
  refine wp_region_grown (by kernel_rfl) (by kernel_rfl) ?_
  repeat (go_big_quiet_step ((go_at_call 28; exact WX.of_same (LO.out _))))
  refine wpQuiet_nil ?_
  intro w2 hb2
  go_wp2
  go_ret2
  exact ⟨rfl, hb2⟩
theorem load_3_0 (ar : Bool) (shut all since fault : Int) (hc : HW w b ⟨true, true, ar, shut, all, since, fault⟩) (s0 : 0 ≤ since) (s1 : since ≤ 4294967295) :
    Calls Try.prog 18 #[.pointer (some ⟨b, 0, none⟩), U 0] w fun e w' => e = .returned (.tuple #[U 3, I 0]) ∧ Below w.heap.size w w' := by
  have PL := Lib.hid (place_ok b 0 0 (by decide) (by decide) (by decide))
  have LO := Lib.hid (lo_any since s0 s1)
  have c0 := hc.cell 0 rfl; have c1 := hc.cell 1 rfl
  have x3 := (show Blk w b _ 52 from hc).wx 3 rfl; have x4 := (show Blk w b _ 52 from hc).wx 4 rfl; have x5 := (show Blk w b _ 52 from hc).wx 5 rfl
  try dsimp only at c0 c1 x3 x4 x5
  have hix : ∀ w : World, (Instr.index 59 (.agg #[U 3, U shut, U all, U 0, U since]) (I 0)).run Try.prog w = .ok (U 3) w := fun _ => by kernel_rfl
  clear hc
  go_enter Try.func18, Try.ntmps18
  go_wp2_with ((go_at_call 23; fail))
  refine (PL.out _).mono ?_; rintro e wa ⟨rfl, rfl⟩
  go_wp2_with ((go_at_call 27; fail))
  refine (Put_0 _).mono ?_; rintro e wb ⟨rfl, rfl⟩
  go_wp2_with ((go_at_call 27; fail))
  refine (Put_11 _).mono ?_; rintro e wd ⟨rfl, rfl⟩
  go_wp2_with fail
  refine wp_region_grown (by kernel_rfl) (by kernel_rfl) ?_
  repeat (go_big_quiet_step ((go_at_call 28; exact WX.of_same (LO.out _))))
  refine wpQuiet_nil ?_
  intro w2 hb2
  go_wp2
  go_ret2
  exact ⟨rfl, hb2⟩
theorem load_3_1 (ar : Bool) (shut all since fault : Int) (hc : HW w b ⟨true, true, ar, shut, all, since, fault⟩) (s0 : 0 ≤ since) (s1 : since ≤ 4294967295) :
    Calls Try.prog 18 #[.pointer (some ⟨b, 0, none⟩), U 4] w fun e w' => e = .returned (.tuple #[U shut, I 0]) ∧ Below w.heap.size w w' := by
  have PL := Lib.hid (place_ok b 4 1 (by decide) (by decide) (by decide))
  have LO := Lib.hid (lo_any since s0 s1)
  have c0 := hc.cell 0 rfl; have c1 := hc.cell 1 rfl
  have x3 := (show Blk w b _ 52 from hc).wx 3 rfl; have x4 := (show Blk w b _ 52 from hc).wx 4 rfl; have x5 := (show Blk w b _ 52 from hc).wx 5 rfl
  try dsimp only at c0 c1 x3 x4 x5
  have hix : ∀ w : World, (Instr.index 59 (.agg #[U 3, U shut, U all, U 0, U since]) (I 1)).run Try.prog w = .ok (U shut) w := fun _ => by kernel_rfl
  clear hc
  go_enter Try.func18, Try.ntmps18
  go_wp2_with ((go_at_call 23; fail))
  refine (PL.out _).mono ?_; rintro e wa ⟨rfl, rfl⟩
  go_wp2_with ((go_at_call 27; fail))
  refine (Put_0 _).mono ?_; rintro e wb ⟨rfl, rfl⟩
  go_wp2_with ((go_at_call 27; fail))
  refine (Put_11 _).mono ?_; rintro e wd ⟨rfl, rfl⟩
  go_wp2_with fail
  refine wp_region_grown (by kernel_rfl) (by kernel_rfl) ?_
  repeat (go_big_quiet_step ((go_at_call 28; exact WX.of_same (LO.out _))))
  refine wpQuiet_nil ?_
  intro w2 hb2
  go_wp2
  go_ret2
  exact ⟨rfl, hb2⟩
theorem load_3_2 (ar : Bool) (shut all since fault : Int) (hc : HW w b ⟨true, true, ar, shut, all, since, fault⟩) (s0 : 0 ≤ since) (s1 : since ≤ 4294967295) :
    Calls Try.prog 18 #[.pointer (some ⟨b, 0, none⟩), U 8] w fun e w' => e = .returned (.tuple #[U all, I 0]) ∧ Below w.heap.size w w' := by
  have PL := Lib.hid (place_ok b 8 2 (by decide) (by decide) (by decide))
  have LO := Lib.hid (lo_any since s0 s1)
  have c0 := hc.cell 0 rfl; have c1 := hc.cell 1 rfl
  have x3 := (show Blk w b _ 52 from hc).wx 3 rfl; have x4 := (show Blk w b _ 52 from hc).wx 4 rfl; have x5 := (show Blk w b _ 52 from hc).wx 5 rfl
  try dsimp only at c0 c1 x3 x4 x5
  have hix : ∀ w : World, (Instr.index 59 (.agg #[U 3, U shut, U all, U 0, U since]) (I 2)).run Try.prog w = .ok (U all) w := fun _ => by kernel_rfl
  clear hc
  go_enter Try.func18, Try.ntmps18
  go_wp2_with ((go_at_call 23; fail))
  refine (PL.out _).mono ?_; rintro e wa ⟨rfl, rfl⟩
  go_wp2_with ((go_at_call 27; fail))
  refine (Put_0 _).mono ?_; rintro e wb ⟨rfl, rfl⟩
  go_wp2_with ((go_at_call 27; fail))
  refine (Put_11 _).mono ?_; rintro e wd ⟨rfl, rfl⟩
  go_wp2_with fail
  refine wp_region_grown (by kernel_rfl) (by kernel_rfl) ?_
  repeat (go_big_quiet_step ((go_at_call 28; exact WX.of_same (LO.out _))))
  refine wpQuiet_nil ?_
  intro w2 hb2
  go_wp2
  go_ret2
  exact ⟨rfl, hb2⟩
theorem load_3_3 (ar : Bool) (shut all since fault : Int) (hc : HW w b ⟨true, true, ar, shut, all, since, fault⟩) (s0 : 0 ≤ since) (s1 : since ≤ 4294967295) :
    Calls Try.prog 18 #[.pointer (some ⟨b, 0, none⟩), U 12] w fun e w' => e = .returned (.tuple #[U 0, I 0]) ∧ Below w.heap.size w w' := by
  have PL := Lib.hid (place_ok b 12 3 (by decide) (by decide) (by decide))
  have LO := Lib.hid (lo_any since s0 s1)
  have c0 := hc.cell 0 rfl; have c1 := hc.cell 1 rfl
  have x3 := (show Blk w b _ 52 from hc).wx 3 rfl; have x4 := (show Blk w b _ 52 from hc).wx 4 rfl; have x5 := (show Blk w b _ 52 from hc).wx 5 rfl
  try dsimp only at c0 c1 x3 x4 x5
  have hix : ∀ w : World, (Instr.index 59 (.agg #[U 3, U shut, U all, U 0, U since]) (I 3)).run Try.prog w = .ok (U 0) w := fun _ => by kernel_rfl
  clear hc
  go_enter Try.func18, Try.ntmps18
  go_wp2_with ((go_at_call 23; fail))
  refine (PL.out _).mono ?_; rintro e wa ⟨rfl, rfl⟩
  go_wp2_with ((go_at_call 27; fail))
  refine (Put_0 _).mono ?_; rintro e wb ⟨rfl, rfl⟩
  go_wp2_with ((go_at_call 27; fail))
  refine (Put_11 _).mono ?_; rintro e wd ⟨rfl, rfl⟩
  go_wp2_with fail
  refine wp_region_grown (by kernel_rfl) (by kernel_rfl) ?_
  repeat (go_big_quiet_step ((go_at_call 28; exact WX.of_same (LO.out _))))
  refine wpQuiet_nil ?_
  intro w2 hb2
  go_wp2
  go_ret2
  exact ⟨rfl, hb2⟩
theorem load_3_4 (ar : Bool) (shut all since fault : Int) (hc : HW w b ⟨true, true, ar, shut, all, since, fault⟩) (s0 : 0 ≤ since) (s1 : since ≤ 4294967295) :
    Calls Try.prog 18 #[.pointer (some ⟨b, 0, none⟩), U 16] w fun e w' => e = .returned (.tuple #[U since, I 0]) ∧ Below w.heap.size w w' := by
  have PL := Lib.hid (place_ok b 16 4 (by decide) (by decide) (by decide))
  have LO := Lib.hid (lo_any since s0 s1)
  have c0 := hc.cell 0 rfl; have c1 := hc.cell 1 rfl
  have x3 := (show Blk w b _ 52 from hc).wx 3 rfl; have x4 := (show Blk w b _ 52 from hc).wx 4 rfl; have x5 := (show Blk w b _ 52 from hc).wx 5 rfl
  try dsimp only at c0 c1 x3 x4 x5
  have hix : ∀ w : World, (Instr.index 59 (.agg #[U 3, U shut, U all, U 0, U since]) (I 4)).run Try.prog w = .ok (U since) w := fun _ => by kernel_rfl
  clear hc
  go_enter Try.func18, Try.ntmps18
  go_wp2_with ((go_at_call 23; fail))
  refine (PL.out _).mono ?_; rintro e wa ⟨rfl, rfl⟩
  go_wp2_with ((go_at_call 27; fail))
  refine (Put_0 _).mono ?_; rintro e wb ⟨rfl, rfl⟩
  go_wp2_with ((go_at_call 27; fail))
  refine (Put_11 _).mono ?_; rintro e wd ⟨rfl, rfl⟩
  go_wp2_with fail
  refine wp_region_grown (by kernel_rfl) (by kernel_rfl) ?_
  repeat (go_big_quiet_step ((go_at_call 28; exact WX.of_same (LO.out _))))
  refine wpQuiet_nil ?_
  intro w2 hb2
  go_wp2
  go_ret2
  exact ⟨rfl, hb2⟩

theorem load_any {s : WS} (h : s.Ok) (hc : HW w b s) (off : Int) (h0 : 0 ≤ off) (h1 : off ≤ 4294967295) :
    Calls Try.prog 18 #[.pointer (some ⟨b, 0, none⟩), U off] w fun e w' => e = .returned (.tuple #[U (s.loadB off).1, I (s.loadB off).2]) ∧ Below w.heap.size w w' := by
  by_cases h4 : off % 4 = 0
  · by_cases h20 : 20 ≤ off
    · have hv : s.loadB off = (0, 10) := by
        unfold WS.loadB
        rw [if_neg (by omega), if_neg (by omega), if_neg (by omega), if_neg (by omega), if_neg (by omega), if_neg (by omega)]
      rw [hv]; exact load_bus off h0 h1 h4 h20
    · have s0 := h.s0
      have s1 := h.s1
      obtain ⟨en, lk, ar, shut, all, since, fault⟩ := s
      obtain rfl | rfl | rfl | rfl | rfl : off = 0 ∨ off = 4 ∨ off = 8 ∨ off = 12 ∨ off = 16 := by omega
      · cases en
        · cases lk
          · exact load_0_0 ar shut all since fault hc s0 s1
          · exact load_2_0 ar shut all since fault hc s0 s1
        · cases lk
          · exact load_1_0 ar shut all since fault hc s0 s1
          · exact load_3_0 ar shut all since fault hc s0 s1
      · cases en
        · cases lk
          · exact load_0_1 ar shut all since fault hc s0 s1
          · exact load_2_1 ar shut all since fault hc s0 s1
        · cases lk
          · exact load_1_1 ar shut all since fault hc s0 s1
          · exact load_3_1 ar shut all since fault hc s0 s1
      · cases en
        · cases lk
          · exact load_0_2 ar shut all since fault hc s0 s1
          · exact load_2_2 ar shut all since fault hc s0 s1
        · cases lk
          · exact load_1_2 ar shut all since fault hc s0 s1
          · exact load_3_2 ar shut all since fault hc s0 s1
      · cases en
        · cases lk
          · exact load_0_3 ar shut all since fault hc s0 s1
          · exact load_2_3 ar shut all since fault hc s0 s1
        · cases lk
          · exact load_1_3 ar shut all since fault hc s0 s1
          · exact load_3_3 ar shut all since fault hc s0 s1
      · cases en
        · cases lk
          · exact load_0_4 ar shut all since fault hc s0 s1
          · exact load_2_4 ar shut all since fault hc s0 s1
        · cases lk
          · exact load_1_4 ar shut all since fault hc s0 s1
          · exact load_3_4 ar shut all since fault hc s0 s1
  · have hv : s.loadB off = (0, 11) := by
      unfold WS.loadB
      rw [if_pos h4]
    rw [hv]; exact load_align off h0 h1 h4
end
end Go.Proofs.Ytndndlegefhafaa
