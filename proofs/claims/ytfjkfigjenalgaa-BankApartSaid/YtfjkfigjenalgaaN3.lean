/- The contract of the timer's Tick. Its conditions: those that its statement shows. -/
import Derived.Test.YtfjkfigjenalgaaN2
namespace Go.Proofs.Ytfjkfigjenalgaa
open Go.RowKit
set_option linter.unusedVariables false

section
variable {b : Nat} {s : CS} {w : World}

theorem tick_off (h : s.Ok) (hc : HC w b s) (he : s.en = false) (n : Int) (hn0 : 0 ≤ n) (hn1 : n ≤ 18446744073709551615) :
    Calls Try.prog 16 #[.pointer (some ⟨b, 0, none⟩), L n] w fun e w' => e = .returned (.tuple #[]) ∧ Stored w w' b s := by
  go_enter Try.func16, Try.ntmps16
  go_wp2_with (go_at_call 21; refine (runs_any h hc).mono ?_; rintro e w' ⟨rfl, hb⟩)
  exact bodyPost_ret (v := .tuple #[]) (by simp [results, Try.results16, go_sem]) rfl ⟨rfl, Stored.of_below hb (hc.below hb hc.lt)⟩

theorem tick_few (h : s.Ok) (hc : HC w b s) (he : s.en = true) (n : Int) (hn0 : 0 ≤ n) (hlt : n < s.unit - s.phase) :
    Calls Try.prog 16 #[.pointer (some ⟨b, 0, none⟩), L n] w fun e w' => e = .returned (.tuple #[]) ∧ Stored w w' b { s with phase := s.phase + n } := by
  have hu0 : 1 ≤ s.unit := by have := h.s0; unfold CS.unit; omega
  have hu1 : s.unit ≤ 256 := by have := h.s1; unfold CS.unit; omega
  have hp0 := h.p0
  have hp1 : s.phase < s.unit := by have := h.p1; unfold CS.unit; omega
  go_enter Try.func16, Try.ntmps16
  go_wp2_with (first | (go_at_call 21; refine (runs_any h hc).mono ?_; rintro e w2 ⟨rfl, hb⟩; have hc2 : HC w2 b s := hc.below hb hc.lt; have c0 := hc2.cell 0 rfl; have c1 := hc2.cell 1 rfl; have c2 := hc2.cell 2 rfl; have c3 := hc2.cell 3 rfl; have c4 := hc2.cell 4 rfl) | (go_at_call 42; refine (scale_cs s h _).mono ?_; rintro e w3 ⟨rfl, hb3⟩; have hc3 : HC w3 b s := hc2.below hb3 hc2.lt; have d4 := hc3.cell 4 rfl; have f4 := hc3.free 4))
  exact bodyPost_ret (v := .tuple #[]) (by simp [results, Try.results16, go_sem]) rfl ⟨rfl, Stored.of_set 4 _ (hb.trans (hb3.mono hb.size)) hc3 rfl⟩

/-- Behind the first step. -/
theorem tick_step (h : s.Ok) (hc : HC w b s) (he : s.en = true) (n q r : Int) (hn1 : n ≤ 18446744073709551615) (hge : s.unit - s.phase ≤ n) (hq : (n - (s.unit - s.phase)) / s.unit + 1 = q) (hr : (n - (s.unit - s.phase)) % s.unit = r) (hlt : q < s.vm) :
    Calls Try.prog 16 #[.pointer (some ⟨b, 0, none⟩), L n] w fun e w' => e = .returned (.tuple #[]) ∧ Stored w w' b { s with value := s.value - q, phase := r } := by
  have hu0 : 1 ≤ s.unit := by have := h.s0; unfold CS.unit; omega
  have hu1 : s.unit ≤ 256 := by have := h.s1; unfold CS.unit; omega
  have hp0 := h.p0
  have hp1 : s.phase < s.unit := by have := h.p1; unfold CS.unit; omega
  have hq1 : 1 ≤ q := by have := Int.ediv_nonneg (by omega : 0 ≤ n - (s.unit - s.phase)) (by omega : 0 ≤ s.unit); omega
  have hq2 : q ≤ 18446744073709551615 := by
    have := Int.ediv_le_self s.unit (by omega : 0 ≤ n - (s.unit - s.phase)); omega
  have hr0 : 0 ≤ r := by rw [← hr]; exact Int.emod_nonneg _ (by omega)
  have hr1 : r < s.unit := by rw [← hr]; exact Int.emod_lt_of_pos _ (by omega)
  have hv0 := h.v0
  have hv1 := h.v1
  have hvm0 := s.vm_pos
  have hvm : s.vm ≤ 4294967295 := by unfold CS.vm; split <;> omega
  go_enter Try.func16, Try.ntmps16
  go_wp2_with (first | (go_at_call 21; refine (runs_any h hc).mono ?_; rintro e w2 ⟨rfl, hb⟩; have hc2 : HC w2 b s := hc.below hb hc.lt; have c0 := hc2.cell 0 rfl; have c1 := hc2.cell 1 rfl; have c2 := hc2.cell 2 rfl; have c3 := hc2.cell 3 rfl; have c4 := hc2.cell 4 rfl) | (go_at_call 42; refine (scale_cs s h _).mono ?_; rintro e w3 ⟨rfl, hb3⟩; have hc3 : HC w3 b s := hc2.below hb3 hc2.lt; have d4 := hc3.cell 4 rfl; have f4 := hc3.free 4))
  have hbb := hb.trans (hb3.mono hb.size)
  have x0 := hc3.wx 0 rfl
  have x1 := hc3.wx 1 rfl
  have x2 := hc3.wx 2 rfl
  have x3 := hc3.wx 3 rfl
  have x4 := hc3.wx 4 rfl
  clear c0 c1 c2 c3 c4 d4 f4 hc2 hb hb3
  refine wp_region_grown (by kernel_rfl) (by kernel_rfl) ?_
  repeat (go_big_quiet_step ((go_at_call 43; exact WX.of (steps_cs s h _))))
  refine wpQuiet_nil ?_
  intro w4 hb4
  have hS : Stored w w4 b s := Stored.of_below (hbb.trans (hb4.mono hbb.size)) (hc3.below hb4 hc3.lt)
  have f4 := hS.hc.free 4
  have d4 := hS.hc.cell 4 rfl
  clear x0 x1 x2 x3 x4 hbb hb4 hc3
  have hvv : q < s.value := by unfold CS.vm at hlt; split at hlt <;> omega
  go_wp2_with fail
  have hS2 := hS.set (s' := { s with phase := r }) 4 (U r) rfl
  generalize w4.setCell ⟨b, 4, none⟩ (U r) = w5 at *
  have g1 := hS2.hc.cell 1 rfl
  have k1 := hS2.hc.free 1
  clear f4 d4
  go_still_tail 13, (by kernel_rfl)
  go_wp2
  exact bodyPost_ret (v := .tuple #[]) (by simp [results, Try.results16, go_sem]) rfl ⟨rfl, (hS2.then (Below.refl _ _).drew).set 1 _ rfl⟩
end
end Go.Proofs.Ytfjkfigjenalgaa
