/- The contract of the timer's Tick, continued. Its conditions: those that its statement shows. -/
import Derived.Test.YtfjkfigjenalgaaN2
namespace Go.Proofs.Ytfjkfigjenalgaa
open Go.RowKit
set_option linter.unusedVariables false

section
variable {b : Nat} {s : CS} {w : World}

set_option maxHeartbeats 1000000 in
/-- Behind the first step. -/
theorem tick_reload (h : s.Ok) (hc : HC w b s) (he : s.en = true) (n q r : Int) (hn1 : n ≤ 18446744073709551615) (hge : s.unit - s.phase ≤ n) (hq : (n - (s.unit - s.phase)) / s.unit + 1 = q) (hr : (n - (s.unit - s.phase)) % s.unit = r) (hlt : s.vm ≤ q) (hre : s.re = true) (hl : 0 < s.load) :
    Calls Try.prog 16 #[.pointer (some ⟨b, 0, none⟩), L n] w fun e w' => e = .returned (.tuple #[]) ∧ Stored w w' b { s with value := s.load - (q - s.vm) % s.load, phase := r, st := true } := by
  have hu0 : 1 ≤ s.unit := by have := h.s0; unfold CS.unit; omega
  have hu1 : s.unit ≤ 256 := by have := h.s1; unfold CS.unit; omega
  have hp0 := h.p0
  have hp1 : s.phase < s.unit := by have := h.p1; unfold CS.unit; omega
  have hq1 : 1 ≤ q := by have := Int.ediv_nonneg (by omega : 0 ≤ n - (s.unit - s.phase)) (by omega : 0 ≤ s.unit); omega
  have hq2 : q ≤ 18446744073709551615 := by
    have := Int.ediv_le_self s.unit (by omega : 0 ≤ n - (s.unit - s.phase)); omega
  have hr0 : 0 ≤ r := by rw [← hr]; exact Int.emod_nonneg _ (by omega)
  have hr1 : r < s.unit := by rw [← hr]; exact Int.emod_lt_of_pos _ (by omega)
  have hv0 := h.v0
  have hv1 := h.v1
  have hvm0 := s.vm_pos
  have hvm : s.vm ≤ 4294967295 := by unfold CS.vm; split <;> omega
  go_enter Try.func16, Try.ntmps16
  go_wp2_with (first | (go_at_call 21; refine (runs_any h hc).mono ?_; rintro e w2 ⟨rfl, hb⟩; have hc2 : HC w2 b s := hc.below hb hc.lt; have c0 := hc2.cell 0 rfl; have c1 := hc2.cell 1 rfl; have c2 := hc2.cell 2 rfl; have c3 := hc2.cell 3 rfl; have c4 := hc2.cell 4 rfl) | (go_at_call 42; refine (scale_cs s h _).mono ?_; rintro e w3 ⟨rfl, hb3⟩; have hc3 : HC w3 b s := hc2.below hb3 hc2.lt; have d4 := hc3.cell 4 rfl; have f4 := hc3.free 4))
  have hbb := hb.trans (hb3.mono hb.size)
  have x0 := hc3.wx 0 rfl
  have x1 := hc3.wx 1 rfl
  have x2 := hc3.wx 2 rfl
  have x3 := hc3.wx 3 rfl
  have x4 := hc3.wx 4 rfl
  clear c0 c1 c2 c3 c4 d4 f4 hc2 hb hb3
  refine wp_region_grown (by kernel_rfl) (by kernel_rfl) ?_
  repeat (go_big_quiet_step ((go_at_call 43; exact WX.of (steps_cs s h _))))
  refine wpQuiet_nil ?_
  intro w4 hb4
  have hS : Stored w w4 b s := Stored.of_below (hbb.trans (hb4.mono hbb.size)) (hc3.below hb4 hc3.lt)
  have f4 := hS.hc.free 4
  have d4 := hS.hc.cell 4 rfl
  clear x0 x1 x2 x3 x4 hbb hb4 hc3
  have d0 := hS.hc.cell 0 rfl
  have d1 := hS.hc.cell 1 rfl
  have d2 := hS.hc.cell 2 rfl
  have d3 := hS.hc.cell 3 rfl
  have f3 := hS.hc.free 3
  have hl1 := h.l1
  go_wp2_with ((go_at_call 44; fail))
  have hS2 := (hS.set (s' := { s with phase := r }) 4 (U r) rfl).set (s' := { s with phase := r, st := true }) 3 (U 1) rfl
  have hok2 : CS.Ok { s with phase := r, st := true } := ⟨h.l0, h.l1, h.v0, h.v1, h.s0, h.s1, hr0, by show r ≤ s.scale; unfold CS.unit at hr1; omega⟩
  generalize (w4.setCell ⟨b, 4, none⟩ (U r)).setCell ⟨b, 3, none⟩ (U 1) = w5 at *
  clear d0 d1 d2 d3 d4 f3 f4 hS
  refine (on_re { s with phase := r, st := true } hok2 _).mono ?_
  rintro e w6 ⟨rfl, hb6⟩
  have hS6 := hS2.then hb6
  have g0 := hS6.hc.cell 0 rfl
  have g1 := hS6.hc.cell 1 rfl
  have g2 := hS6.hc.cell 2 rfl
  have g3 := hS6.hc.cell 3 rfl
  have g4 := hS6.hc.cell 4 rfl
  have k1 := hS6.hc.free 1
  clear hS2 hb6
  go_wp2_with ((go_at_call 44; fail))
  clear g0 g2 g3 g4
  have hl0 : ¬ s.load = 0 := by omega
  have hd0 : 0 ≤ (q - s.vm) % s.load := Int.emod_nonneg _ hl0
  have hd1 : (q - s.vm) % s.load < s.load := Int.emod_lt_of_pos _ hl
  have e1 : IntKind.u64.wrap (q - s.vm) = q - s.vm := by rw [IntKind.wrap_u64]; omega
  have e2 : (q - s.vm).tmod s.load = (q - s.vm) % s.load := Int.tmod_eq_emod_of_nonneg (by omega)
  have e3 : IntKind.u64.wrap ((q - s.vm) % s.load) = (q - s.vm) % s.load := by rw [IntKind.wrap_u64]; omega
  have e4 : IntKind.u64.wrap (s.load - (q - s.vm) % s.load) = s.load - (q - s.vm) % s.load := by rw [IntKind.wrap_u64]; omega
  have e5 : IntKind.u32.wrap (s.load - (q - s.vm) % s.load) = s.load - (q - s.vm) % s.load := by rw [IntKind.wrap_u32]; omega
  go_still_tail 13, (by kernel_rfl)
  go_wp2
  go_end0
  exact ⟨rfl, (hS6.then (Below.refl _ _).drew).set 1 _ rfl⟩
end
end Go.Proofs.Ytfjkfigjenalgaa
