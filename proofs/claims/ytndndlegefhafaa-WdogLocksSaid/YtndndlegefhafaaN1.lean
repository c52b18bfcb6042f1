/- The watchdog of the program: what it reads. Conditions: those that each statement shows. -/
import Derived.Test.YtndndlegefhafaaM1
import Derived.RegionTactic
import Derived.StillTailTactics
namespace Go.Proofs.Ytndndlegefhafaa
open Go.RowKit
set_option linter.unusedVariables false
set_option linter.unusedSimpArgs false

/-- Block b is a watchdog. -/
def HW (w : World) (b : Nat) (s : WS) : Prop := Blk w b s.cs 52

abbrev wz : Array Value := #[.bool false, .bool false, .bool false, U 0, U 0, L 0, I 0]

theorem bset {B : Nat} {a w : World} (h : Below B a w) {c : Nat} (hc : B ≤ c) {j : Nat} {v : Value} : Below B a (w.setCell ⟨c, j, none⟩ v) := h.setCell hc v

section
variable {b : Nat} {s : WS} {w : World}

theorem HW.lt (h : HW w b s) : b < w.heap.size := Blk.lt h
theorem HW.cell (h : HW w b s) (j : Nat) {v : Value} (hv : s.cs[j]? = some v) : w.cell? ⟨b, j, none⟩ = some v := Blk.cell h j hv
theorem HW.free (h : HW w b s) (j : Nat) : w.frozen? ⟨b, j, none⟩ = false := Blk.free h j
theorem HW.below {w' : World} {B : Nat} (h : HW w b s) (hb : Below B w w') (hlt : b < B) : HW w' b s := Blk.below h hb hlt
theorem HW.alloc (h : HW w b s) (o : Obj) : HW (w.alloc o) b s := Blk.alloc h o
theorem HW.drew (h : HW w b s) : HW w.drew b s := h

theorem of_any (hc : HW w b s) : Calls Try.prog 26 #[.pointer (some ⟨b, 0, none⟩)] w fun e w' => e = .returned (.agg s.cs) ∧ Below w.heap.size w w' := by
  have h1 := hc.alloc (.cells wz 50)
  have c0 := h1.cell 0 rfl
  have c1 := h1.cell 1 rfl
  have c2 := h1.cell 2 rfl
  have c3 := h1.cell 3 rfl
  have c4 := h1.cell 4 rfl
  have c5 := h1.cell 5 rfl
  have c6 := h1.cell 6 rfl
  go_enter Try.func26, Try.ntmps26
  go_wp2
  exact bodyPost_ret (v := .agg s.cs) (by simp [results, Try.results26, go_sem]) rfl ⟨rfl, (Below.refl _ _).alloc (Nat.le_refl _) _⟩
theorem of_nil (w : World) : Calls Try.prog 26 #[.pointer none] w fun e w' => e = .returned (.agg wz) ∧ Below w.heap.size w w' := by
  go_enter Try.func26, Try.ntmps26
  go_wp2
  exact bodyPost_ret (v := .agg wz) (by simp [results, Try.results26, go_sem]) rfl ⟨rfl, (Below.refl _ _).alloc (Nat.le_refl _) _⟩

theorem fault_any (hc : HW w b s) : Calls Try.prog 12 #[.pointer (some ⟨b, 0, none⟩)] w fun e w' => e = .returned (I s.fault) ∧ Below w.heap.size w w' := by
  have hfld : ∀ w : World, (Instr.field 50 (.agg s.cs) 6).run Try.prog w = .ok (I s.fault) w := fun _ => by kernel_rfl
  go_enter Try.func12, Try.ntmps12
  go_wp2_with (go_at_call 26; refine (of_any hc).mono ?_; rintro e w2 ⟨rfl, hb⟩)
  go_ret
  exact ⟨rfl, hb⟩
theorem fault_nil (w : World) : Calls Try.prog 12 #[.pointer none] w fun e w' => e = .returned (I 0) ∧ Below w.heap.size w w' := by
  have hfld : ∀ w : World, (Instr.field 50 (.agg wz) 6).run Try.prog w = .ok (I 0) w := fun _ => by kernel_rfl
  go_enter Try.func12, Try.ntmps12
  go_wp2_with (go_at_call 26; refine (of_nil w).mono ?_; rintro e w2 ⟨rfl, hb⟩)
  go_ret
  exact ⟨rfl, hb⟩

theorem armed_any (hc : HW w b s) : Calls Try.prog 13 #[.pointer (some ⟨b, 0, none⟩)] w fun e w' => e = .returned (.bool s.ar) ∧ Below w.heap.size w w' := by
  have hfld : ∀ w : World, (Instr.field 50 (.agg s.cs) 2).run Try.prog w = .ok (.bool s.ar) w := fun _ => by kernel_rfl
  go_enter Try.func13, Try.ntmps13
  go_wp2_with (go_at_call 26; refine (of_any hc).mono ?_; rintro e w2 ⟨rfl, hb⟩)
  go_ret
  exact ⟨rfl, hb⟩
theorem armed_nil (w : World) : Calls Try.prog 13 #[.pointer none] w fun e w' => e = .returned (.bool false) ∧ Below w.heap.size w w' := by
  have hfld : ∀ w : World, (Instr.field 50 (.agg wz) 2).run Try.prog w = .ok (.bool false) w := fun _ => by kernel_rfl
  go_enter Try.func13, Try.ntmps13
  go_wp2_with (go_at_call 26; refine (of_nil w).mono ?_; rintro e w2 ⟨rfl, hb⟩)
  go_ret
  exact ⟨rfl, hb⟩

theorem since_any (hc : HW w b s) : Calls Try.prog 14 #[.pointer (some ⟨b, 0, none⟩)] w fun e w' => e = .returned (L s.since) ∧ Below w.heap.size w w' := by
  have hfld : ∀ w : World, (Instr.field 50 (.agg s.cs) 5).run Try.prog w = .ok (L s.since) w := fun _ => by kernel_rfl
  go_enter Try.func14, Try.ntmps14
  go_wp2_with (go_at_call 26; refine (of_any hc).mono ?_; rintro e w2 ⟨rfl, hb⟩)
  go_ret
  exact ⟨rfl, hb⟩
theorem since_nil (w : World) : Calls Try.prog 14 #[.pointer none] w fun e w' => e = .returned (L 0) ∧ Below w.heap.size w w' := by
  have hfld : ∀ w : World, (Instr.field 50 (.agg wz) 5).run Try.prog w = .ok (L 0) w := fun _ => by kernel_rfl
  go_enter Try.func14, Try.ntmps14
  go_wp2_with (go_at_call 26; refine (of_nil w).mono ?_; rintro e w2 ⟨rfl, hb⟩)
  go_ret
  exact ⟨rfl, hb⟩

theorem enabled_any (hc : HW w b s) : Calls Try.prog 16 #[.pointer (some ⟨b, 0, none⟩)] w fun e w' => e = .returned (.bool s.en) ∧ Below w.heap.size w w' := by
  have hfld : ∀ w : World, (Instr.field 50 (.agg s.cs) 0).run Try.prog w = .ok (.bool s.en) w := fun _ => by kernel_rfl
  go_enter Try.func16, Try.ntmps16
  go_wp2_with (go_at_call 26; refine (of_any hc).mono ?_; rintro e w2 ⟨rfl, hb⟩)
  go_ret
  exact ⟨rfl, hb⟩
theorem enabled_nil (w : World) : Calls Try.prog 16 #[.pointer none] w fun e w' => e = .returned (.bool false) ∧ Below w.heap.size w w' := by
  have hfld : ∀ w : World, (Instr.field 50 (.agg wz) 0).run Try.prog w = .ok (.bool false) w := fun _ => by kernel_rfl
  go_enter Try.func16, Try.ntmps16
  go_wp2_with (go_at_call 26; refine (of_nil w).mono ?_; rintro e w2 ⟨rfl, hb⟩)
  go_ret
  exact ⟨rfl, hb⟩

theorem locked_any (hc : HW w b s) : Calls Try.prog 17 #[.pointer (some ⟨b, 0, none⟩)] w fun e w' => e = .returned (.bool s.lk) ∧ Below w.heap.size w w' := by
  have hfld : ∀ w : World, (Instr.field 50 (.agg s.cs) 1).run Try.prog w = .ok (.bool s.lk) w := fun _ => by kernel_rfl
  go_enter Try.func17, Try.ntmps17
  go_wp2_with (go_at_call 26; refine (of_any hc).mono ?_; rintro e w2 ⟨rfl, hb⟩)
  go_ret
  exact ⟨rfl, hb⟩
theorem locked_nil (w : World) : Calls Try.prog 17 #[.pointer none] w fun e w' => e = .returned (.bool false) ∧ Below w.heap.size w w' := by
  have hfld : ∀ w : World, (Instr.field 50 (.agg wz) 1).run Try.prog w = .ok (.bool false) w := fun _ => by kernel_rfl
  go_enter Try.func17, Try.ntmps17
  go_wp2_with (go_at_call 26; refine (of_nil w).mono ?_; rintro e w2 ⟨rfl, hb⟩)
  go_ret
  exact ⟨rfl, hb⟩

theorem new_any (w : World) : Calls Try.prog 8 #[] w fun e w' => e = .returned (.pointer (some ⟨w.heap.size, 0, none⟩)) ∧ w.alloc (.cells WS.zero.cs 52) = w' := by
  go_enter Try.func8, Try.ntmps8
  go_wp2
  go_ret
  exact ⟨rfl, rfl⟩

theorem copy_any (hc : HW w b s) : Calls Try.prog 21 #[.pointer (some ⟨b, 0, none⟩)] w fun e w' => e = .returned (.pointer (some ⟨w.heap.size, 0, none⟩)) ∧ w.alloc (.cells s.cs 52) = w' := by
  have c0 := hc.cell 0 rfl
  have c1 := hc.cell 1 rfl
  have c2 := hc.cell 2 rfl
  have c3 := hc.cell 3 rfl
  have c4 := hc.cell 4 rfl
  have c5 := hc.cell 5 rfl
  have c6 := hc.cell 6 rfl
  go_enter Try.func21, Try.ntmps21
  go_wp2
  go_ret
  exact ⟨rfl, rfl⟩
theorem copy_nil (w : World) : Calls Try.prog 21 #[.pointer none] w fun e w' => e = .returned (.pointer none) ∧ w = w' := by
  go_enter Try.func21, Try.ntmps21
  go_wp2
  go_ret
  exact ⟨rfl, rfl⟩
theorem reset_nil (w : World) : Calls Try.prog 22 #[.pointer none] w fun e w' => e = .returned (.tuple #[]) ∧ w = w' := by
  go_enter Try.func22, Try.ntmps22
  go_wp2
  first
    | exact bodyPost_ret (v := .tuple #[]) (by simp [results, go_sem]) rfl ⟨rfl, rfl⟩
    | (go_end0; exact ⟨rfl, rfl⟩)

theorem place_align (p : Nat) (off : Int) (h0 : 0 ≤ off) (h1 : off ≤ 4294967295) (h4 : off % 4 ≠ 0) (w : World) :
    Calls Try.prog 23 #[.pointer (some ⟨p, 0, none⟩), U off] w fun e w' => e = .returned (.tuple #[I 0, I 11]) ∧ w = w' := by
  have q : (off % 4 == 0) = false := by simpa using h4
  have q' : (off % 4 != 0) = true := by simpa using h4
  go_enter Try.func23, Try.ntmps23
  go_wp2
  go_ret2
  exact ⟨rfl, rfl⟩
theorem place_bus (p : Nat) (off : Int) (h0 : 0 ≤ off) (h1 : off ≤ 4294967295) (h4 : off % 4 = 0) (h20 : 20 ≤ off) (w : World) :
    Calls Try.prog 23 #[.pointer (some ⟨p, 0, none⟩), U off] w fun e w' => e = .returned (.tuple #[I 0, I 10]) ∧ w = w' := by
  have q : decide (5 ≤ off / 4) = true := by simp; omega
  go_enter Try.func23, Try.ntmps23
  go_wp2
  go_ret2
  exact ⟨rfl, rfl⟩
theorem place_ok (p : Nat) (off k : Int) (hk : off = 4 * k) (h0 : 0 ≤ k) (h1 : k ≤ 4) (w : World) :
    Calls Try.prog 23 #[.pointer (some ⟨p, 0, none⟩), U off] w fun e w' => e = .returned (.tuple #[I k, I 0]) ∧ w = w' := by
  obtain rfl | rfl | rfl | rfl | rfl : k = 0 ∨ k = 1 ∨ k = 2 ∨ k = 3 ∨ k = 4 := by omega
  all_goals
    subst hk
    go_enter Try.func23, Try.ntmps23
    go_wp2
    go_ret2
    exact ⟨rfl, rfl⟩
theorem place_nil (off : Int) (w : World) :
    Calls Try.prog 23 #[.pointer none, U off] w fun e w' => e = .returned (.tuple #[I 0, I 10]) ∧ w = w' := by
  go_enter Try.func23, Try.ntmps23
  go_wp2
  go_ret2
  exact ⟨rfl, rfl⟩
theorem lo_any (n : Int) (h0 : 0 ≤ n) (h1 : n ≤ 4294967295) (w : World) : Calls Try.prog 28 #[L n] w fun e w' => e = .returned (U n) ∧ w = w' := by
  have q : IntKind.u32.wrap n = n := by rw [IntKind.wrap_u32]; omega
  go_enter Try.func28, Try.ntmps28
  go_wp2
  go_ret
  exact ⟨ret_int (by omega), rfl⟩
end
end Go.Proofs.Ytndndlegefhafaa
