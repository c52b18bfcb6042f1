/- Contracts of the program's functions on timers: bits and the timer's own small methods. No conditions beyond those that each statement shows. -/
import Derived.Test.YtfjkfigjenalgaaK1
import Derived.Test.YtfjkfigjenalgaaM2
namespace Go.Proofs.Ytfjkfigjenalgaa
open Go.RowKit
set_option linter.unusedVariables false

theorem mask_8 (w : World) : Calls Try.prog 47 #[.int .i64 8] w fun e w' => e = .returned (L 255) ∧ w = w' := by
  go_enter Try.func47, Try.ntmps47
  go_wp2
  go_ret
  exact ⟨rfl, rfl⟩

theorem field_88 (w : World) : Calls Try.prog 59 #[.int .i64 8, .int .i64 8] w fun e w' => e = .returned (U 65280) ∧ w = w' := by
  go_enter Try.func59, Try.ntmps59
  go_wp2_with (go_at_call 47; refine (mask_8 _).mono ?_; rintro e w' ⟨rfl, rfl⟩)
  go_ret
  exact ⟨rfl, rfl⟩

theorem Field_88 (n : Int) (h0 : 0 ≤ n) (h1 : n ≤ 4294967295) (w : World) : Calls Try.prog 57 #[U n, .int .i64 8, .int .i64 8] w fun e w' => e = .returned (U (n / 256 % 256)) ∧ w = w' := by
  go_enter Try.func57, Try.ntmps57
  go_wp2_with (go_at_call 59; refine (field_88 _).mono ?_; rintro e w' ⟨rfl, rfl⟩)
  go_ret
  exact ⟨ret_int (by rw [and_65280 n h0 h1]; omega), rfl⟩

def bI (b : Bool) : Int := if b then 1 else 0
theorem bI_bd (b : Bool) : 0 ≤ bI b ∧ bI b ≤ 1 := by cases b <;> simp [bI]
def CS.ctl (s : CS) : Int := bI s.en + 2 * bI s.re + 4 * bI s.ir + 256 * s.scale
abbrev CS.cells (s : CS) : Array Value := #[U s.load, U s.value, U s.ctl, U (bI s.st), U s.phase]
/-- A timer in memory. -/
def HC (w : World) (b : Nat) (s : CS) : Prop := Blk w b s.cells 67

theorem CS.ctl_bd (s : CS) (h : s.Ok) : 0 ≤ s.ctl ∧ s.ctl ≤ 65287 := by
  have := bI_bd s.en; have := bI_bd s.re; have := bI_bd s.ir; have := h.s0; have := h.s1
  unfold CS.ctl; omega
theorem CS.ctl_en (s : CS) (h : s.Ok) : bits .and .u32 s.ctl 1 = bI s.en := by
  have := s.ctl_bd h; rw [and_1 _ this.1 (by omega)]; unfold CS.ctl; have := bI_bd s.en; omega
theorem CS.ctl_re (s : CS) (h : s.Ok) : bits .and .u32 s.ctl 2 = 2 * bI s.re := by
  have := s.ctl_bd h; rw [and_2 _ this.1 (by omega)]; unfold CS.ctl; have := bI_bd s.en; have := bI_bd s.re; omega
theorem CS.ctl_ir (s : CS) (h : s.Ok) : bits .and .u32 s.ctl 4 = 4 * bI s.ir := by
  have := s.ctl_bd h; rw [and_4 _ this.1 (by omega)]; unfold CS.ctl; have := bI_bd s.en; have := bI_bd s.re; have := bI_bd s.ir; omega
theorem CS.ctl_scale (s : CS) (h : s.Ok) : s.ctl / 256 % 256 = s.scale := by
  unfold CS.ctl; have := bI_bd s.en; have := bI_bd s.re; have := bI_bd s.ir; have := h.s0; have := h.s1; omega
theorem CS.ctl_stop (s : CS) (h : s.Ok) : bits .andNot .u32 s.ctl 1 = s.ctl - bI s.en := by
  have := s.ctl_bd h; rw [andNot_1 _ this.1 (by omega)]; unfold CS.ctl; have := bI_bd s.en; omega

theorem on_any (l v c s p b q : Int) (h : bits .and .u32 c b = q) (w : World) :
    Calls Try.prog 44 #[.agg #[U l, U v, U c, U s, U p], U b] w fun e w' => e = .returned (.bool (q != 0)) ∧ Below w.heap.size w w' := by
  go_enter Try.func44, Try.ntmps44
  go_wp2
  go_ret
  exact ⟨rfl, (Below.refl _ _).alloc (Nat.le_refl _) _⟩

theorem bI_ne (b : Bool) : (bI b != 0) = b := by cases b <;> rfl
theorem bI2_ne (b : Bool) : (2 * bI b != 0) = b := by cases b <;> rfl
theorem bI4_ne (b : Bool) : (4 * bI b != 0) = b := by cases b <;> rfl

theorem on_en (s : CS) (h : s.Ok) (w : World) : Calls Try.prog 44 #[.agg s.cells, U 1] w fun e w' => e = .returned (.bool s.en) ∧ Below w.heap.size w w' :=
  (on_any _ _ _ _ _ _ _ (s.ctl_en h) w).mono fun _ _ ⟨h1, h2⟩ => ⟨by rw [h1, bI_ne], h2⟩
theorem on_re (s : CS) (h : s.Ok) (w : World) : Calls Try.prog 44 #[.agg s.cells, U 2] w fun e w' => e = .returned (.bool s.re) ∧ Below w.heap.size w w' :=
  (on_any _ _ _ _ _ _ _ (s.ctl_re h) w).mono fun _ _ ⟨h1, h2⟩ => ⟨by rw [h1, bI2_ne], h2⟩
theorem on_ir (s : CS) (h : s.Ok) (w : World) : Calls Try.prog 44 #[.agg s.cells, U 4] w fun e w' => e = .returned (.bool s.ir) ∧ Below w.heap.size w w' :=
  (on_any _ _ _ _ _ _ _ (s.ctl_ir h) w).mono fun _ _ ⟨h1, h2⟩ => ⟨by rw [h1, bI4_ne], h2⟩

theorem scale_any (l v c s p q : Int) (h0 : 0 ≤ c) (h1 : c ≤ 4294967295) (h : c / 256 % 256 = q) (w : World) :
    Calls Try.prog 42 #[.agg #[U l, U v, U c, U s, U p]] w fun e w' => e = .returned (L (q + 1)) ∧ Below w.heap.size w w' := by
  have q0 : 0 ≤ q := by omega
  have q1 : q ≤ 255 := by omega
  go_enter Try.func42, Try.ntmps42
  go_wp2_with (go_at_call 57; refine (Field_88 _ h0 h1 _).mono ?_; rintro e w' ⟨rfl, rfl⟩)
  go_ret
  exact ⟨rfl, (Below.refl _ _).alloc (Nat.le_refl _) _⟩

theorem scale_cs (s : CS) (h : s.Ok) (w : World) : Calls Try.prog 42 #[.agg s.cells] w fun e w' => e = .returned (L s.unit) ∧ Below w.heap.size w w' :=
  scale_any _ _ _ _ _ _ (s.ctl_bd h).1 (by have := s.ctl_bd h; omega) (s.ctl_scale h) w

theorem steps_cs (s : CS) (h : s.Ok) (w : World) : Calls Try.prog 43 #[.agg s.cells] w fun e w' => e = .returned (L s.vm) ∧ Below w.heap.size w w' := by
  have h0 := h.v0
  have h1 := h.v1
  unfold CS.vm
  by_cases hv : 1 ≤ s.value
  · rw [if_pos hv]
    go_enter Try.func43, Try.ntmps43
    go_wp2
    all_goals
      go_ret
      exact ⟨ret_int (by omega), (Below.refl _ _).alloc (Nat.le_refl _) _⟩
  · rw [if_neg hv]
    go_enter Try.func43, Try.ntmps43
    go_wp2
    go_ret
    exact ⟨rfl, (Below.refl _ _).alloc (Nat.le_refl _) _⟩

theorem new_any (w : World) : Calls Try.prog 11 #[] w fun e w' => e = .returned (.pointer (some ⟨w.heap.size, 0, none⟩)) ∧ w.alloc (.cells CS.zero.cells 67) = w' := by
  go_enter Try.func11, Try.ntmps11
  go_wp2
  go_ret
  exact ⟨rfl, rfl⟩

section
variable {b : Nat} {s : CS} {w : World}
theorem runs_any (h : s.Ok) (hc : HC w b s) : Calls Try.prog 21 #[.pointer (some ⟨b, 0, none⟩)] w fun e w' => e = .returned (.bool s.en) ∧ Below w.heap.size w w' := by
  have c0 := hc.cell 0 rfl
  have c1 := hc.cell 1 rfl
  have c2 := hc.cell 2 rfl
  have c3 := hc.cell 3 rfl
  have c4 := hc.cell 4 rfl
  go_enter Try.func21, Try.ntmps21
  go_wp2_with (go_at_call 44; refine (on_en s h _).mono ?_; rintro e w' ⟨rfl, hb⟩)
  go_ret
  exact ⟨rfl, hb⟩

theorem line_any (h : s.Ok) (hc : HC w b s) : Calls Try.prog 23 #[.pointer (some ⟨b, 0, none⟩)] w fun e w' => e = .returned (.bool (s.st && s.ir)) ∧ Below w.heap.size w w' := by
  have c0 := hc.cell 0 rfl
  have c1 := hc.cell 1 rfl
  have c2 := hc.cell 2 rfl
  have c3 := hc.cell 3 rfl
  have c4 := hc.cell 4 rfl
  cases hir : s.ir
  · go_enter Try.func23, Try.ntmps23
    go_wp2_with (go_at_call 44; refine (on_ir s h _).mono ?_; rintro e w' ⟨rfl, hb⟩)
    go_ret
    exact ⟨ret_bool (by simp), hb⟩
  · have hst := bI_ne s.st
    go_enter Try.func23, Try.ntmps23
    go_wp2_with (go_at_call 44; refine (on_ir s h _).mono ?_; rintro e w' ⟨rfl, hb⟩; have c3' := (hc.below hb hc.lt).cell 3 rfl)
    go_ret
    exact ⟨ret_bool (by simp), hb⟩

theorem left_any (h : s.Ok) (hc : HC w b s) : Calls Try.prog 19 #[.pointer (some ⟨b, 0, none⟩)] w fun e w' => e = .returned (L s.left) ∧ Below w.heap.size w w' := by
  unfold CS.left
  cases he : s.en
  · go_enter Try.func19, Try.ntmps19
    go_wp2_with (go_at_call 21; refine (runs_any h hc).mono ?_; rintro e w' ⟨rfl, hb⟩)
    go_ret
    exact ⟨rfl, hb⟩
  · have hv := h.v1
    have hvm := s.vm_pos
    have hvm2 : s.vm ≤ 4294967295 := by unfold CS.vm; split <;> omega
    have hu0 : 1 ≤ s.unit := by have := h.s0; unfold CS.unit; omega
    have hu1 : s.unit ≤ 256 := by have := h.s1; unfold CS.unit; omega
    have hp0 := h.p0
    have hp1 : s.phase < s.unit := by have := h.p1; unfold CS.unit; omega
    have hm0 : s.unit ≤ s.vm * s.unit := by have := Int.mul_le_mul_of_nonneg_right hvm (by omega : 0 ≤ s.unit); omega
    have hm1 : s.vm * s.unit ≤ 4294967295 * 256 := Int.le_trans (Int.mul_le_mul_of_nonneg_left hu1 (by omega)) (Int.mul_le_mul_of_nonneg_right hvm2 (by omega))
    go_enter Try.func19, Try.ntmps19
    go_wp2_with (go_at_call 21; refine (runs_any h hc).mono ?_; rintro e w2 ⟨rfl, hb⟩)
    have hc2 : HC w2 b s := hc.below hb hc.lt
    have c0 := hc2.wx 0 rfl
    have c1 := hc2.wx 1 rfl
    have c2 := hc2.wx 2 rfl
    have c3 := hc2.wx 3 rfl
    have c4 := hc2.wx 4 rfl
    refine wp_region_grown (by kernel_rfl) (by kernel_rfl) ?_
    repeat (go_big_quiet_step (first | (go_at_call 43; exact WX.of (steps_cs s h _)) | (go_at_call 42; exact WX.of (scale_cs s h _))))
    refine wpQuiet_nil ?_
    intro w3 hb3
    clear c0 c1 c2 c3 c4
    go_wp2
    go_ret
    exact ⟨rfl, hb.trans (hb3.mono hb.size)⟩
end
end Go.Proofs.Ytfjkfigjenalgaa
