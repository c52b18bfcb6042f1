/- The contracts of the timer's Tick, Copy, Reset and Store. Their conditions: those that their statements show. -/
import Derived.Test.YtfjkfigjenalgaaN3
import Derived.Test.YtfjkfigjenalgaaN4
import Derived.Test.YtfjkfigjenalgaaN5
import Derived.Test.YtfjkfigjenalgaaK2
namespace Go.Proofs.Ytfjkfigjenalgaa
open Go.RowKit
set_option linter.unusedVariables false

section
variable {b : Nat} {s : CS} {w : World}

theorem tick_any (h : s.Ok) (hc : HC w b s) (n : Int) (hn0 : 0 ≤ n) (hn1 : n ≤ 18446744073709551615) :
    Calls Try.prog 16 #[.pointer (some ⟨b, 0, none⟩), L n] w fun e w' => e = .returned (.tuple #[]) ∧ Stored w w' b (s.tick n) := by
  have hu0 : 1 ≤ s.unit := by have := h.s0; unfold CS.unit; omega
  have hp0 := h.p0
  have hp1 : s.phase < s.unit := by have := h.p1; unfold CS.unit; omega
  cases he : s.en
  · rw [CS.tick_off _ _ he]; exact tick_off h hc he n hn0 hn1
  · rw [CS.tick_on _ _ he]
    by_cases hlt : n < s.unit - s.phase
    · have e0 : (s.phase + n) / s.unit = 0 := Int.ediv_eq_zero_of_lt (by omega) (by omega)
      have e1 : (s.phase + n) % s.unit = s.phase + n := Int.emod_eq_of_lt (by omega) (by omega)
      rw [e0, e1, CS.at_lt _ _ _ (by have := s.vm_pos; omega), Int.sub_zero]
      exact tick_few h hc he n hn0 hlt
    · have hT : s.phase + n = (n - (s.unit - s.phase)) + s.unit * 1 := by omega
      have e0 : (s.phase + n) / s.unit = (n - (s.unit - s.phase)) / s.unit + 1 := by rw [hT, Int.add_mul_ediv_left _ _ (by omega)]
      have e1 : (s.phase + n) % s.unit = (n - (s.unit - s.phase)) % s.unit := by rw [hT, Int.add_mul_emod_self_left]
      rw [e0, e1]
      by_cases hq : (n - (s.unit - s.phase)) / s.unit + 1 < s.vm
      · rw [CS.at_lt _ _ _ hq]
        exact tick_step h hc he n _ _ hn1 (by omega) rfl rfl hq
      · by_cases hr : (s.re && decide (0 < s.load)) = true
        · rw [CS.at_reload _ _ _ hq hr]
          simp at hr
          exact tick_reload h hc he n _ _ hn1 (by omega) rfl rfl (by omega) hr.1 hr.2
        · rw [CS.at_stop _ _ _ hq hr]
          exact tick_stop h hc he n _ _ hn1 (by omega) rfl rfl (by omega) hr

theorem runs_nil (w : World) : Calls Try.prog 21 #[.pointer none] w fun e w' => e = .returned (.bool false) ∧ w = w' := by
  go_enter Try.func21, Try.ntmps21
  go_wp2
  go_ret
  exact ⟨rfl, rfl⟩

theorem tick_nil (n : Int) (w : World) : Calls Try.prog 16 #[.pointer none, L n] w fun e w' => e = .returned (.tuple #[]) ∧ w = w' := by
  go_enter Try.func16, Try.ntmps16
  go_wp2_with (go_at_call 21; refine (runs_nil _).mono ?_; rintro e w' ⟨rfl, rfl⟩)
  exact bodyPost_ret (v := .tuple #[]) (by simp [results, Try.results16, go_sem]) rfl ⟨rfl, rfl⟩

theorem copy_any (hc : HC w b s) :
    Calls Try.prog 15 #[.pointer (some ⟨b, 0, none⟩)] w fun e w' => e = .returned (.pointer (some ⟨w.heap.size, 0, none⟩)) ∧ w.alloc (.cells s.cells 67) = w' := by
  have c0 := hc.cell 0 rfl
  have c1 := hc.cell 1 rfl
  have c2 := hc.cell 2 rfl
  have c3 := hc.cell 3 rfl
  have c4 := hc.cell 4 rfl
  go_enter Try.func15, Try.ntmps15
  go_wp2
  go_ret
  exact ⟨rfl, rfl⟩

set_option maxRecDepth 100000 in
theorem reset_raw0 (x0 x1 x2 x3 x4 : Int) (hz : ¬ x0 = 0) (hc : Blk w b #[U x0, U x1, U x2, U x3, U x4] 67) :
    Calls Try.prog 22 #[.pointer (some ⟨b, 0, none⟩)] w fun e w' => e = .returned (.tuple #[]) ∧ (((((w.setCell ⟨b, 0, none⟩ (U 0)).setCell ⟨b, 1, none⟩ (U 0)).setCell ⟨b, 2, none⟩ (U 0)).setCell ⟨b, 3, none⟩ (U 0)).setCell ⟨b, 4, none⟩ (U 0)) = w' := by
  have heq : ∀ w : World, (Op.equalIn 9999 63 (.agg #[U x0, U x1, U x2, U x3]) (.agg #[U 0, U 0, U 0, U 0])).run Try.prog w = .ok false w := fun w => by rw [eq_regs]; congr 1; simp [hz]
  have c0 := hc.cell 0 rfl
  have f0 := hc.free 0
  have c1 := hc.cell 1 rfl
  have f1 := hc.free 1
  have c2 := hc.cell 2 rfl
  have f2 := hc.free 2
  have c3 := hc.cell 3 rfl
  have f3 := hc.free 3
  have c4 := hc.cell 4 rfl
  have f4 := hc.free 4
  go_enter Try.func22, Try.ntmps22
  go_wp2
  go_end0
  exact ⟨rfl, rfl⟩

set_option maxRecDepth 100000 in
theorem reset_raw1 (x1 x2 x3 x4 : Int) (hz : ¬ x1 = 0) (hc : Blk w b #[U 0, U x1, U x2, U x3, U x4] 67) :
    Calls Try.prog 22 #[.pointer (some ⟨b, 0, none⟩)] w fun e w' => e = .returned (.tuple #[]) ∧ (((((w.setCell ⟨b, 0, none⟩ (U 0)).setCell ⟨b, 1, none⟩ (U 0)).setCell ⟨b, 2, none⟩ (U 0)).setCell ⟨b, 3, none⟩ (U 0)).setCell ⟨b, 4, none⟩ (U 0)) = w' := by
  have heq : ∀ w : World, (Op.equalIn 9999 63 (.agg #[U 0, U x1, U x2, U x3]) (.agg #[U 0, U 0, U 0, U 0])).run Try.prog w = .ok false w := fun w => by rw [eq_regs]; congr 1; simp [hz]
  have c0 := hc.cell 0 rfl
  have f0 := hc.free 0
  have c1 := hc.cell 1 rfl
  have f1 := hc.free 1
  have c2 := hc.cell 2 rfl
  have f2 := hc.free 2
  have c3 := hc.cell 3 rfl
  have f3 := hc.free 3
  have c4 := hc.cell 4 rfl
  have f4 := hc.free 4
  go_enter Try.func22, Try.ntmps22
  go_wp2
  go_end0
  exact ⟨rfl, rfl⟩

set_option maxRecDepth 100000 in
theorem reset_raw2 (x2 x3 x4 : Int) (hz : ¬ x2 = 0) (hc : Blk w b #[U 0, U 0, U x2, U x3, U x4] 67) :
    Calls Try.prog 22 #[.pointer (some ⟨b, 0, none⟩)] w fun e w' => e = .returned (.tuple #[]) ∧ (((((w.setCell ⟨b, 0, none⟩ (U 0)).setCell ⟨b, 1, none⟩ (U 0)).setCell ⟨b, 2, none⟩ (U 0)).setCell ⟨b, 3, none⟩ (U 0)).setCell ⟨b, 4, none⟩ (U 0)) = w' := by
  have heq : ∀ w : World, (Op.equalIn 9999 63 (.agg #[U 0, U 0, U x2, U x3]) (.agg #[U 0, U 0, U 0, U 0])).run Try.prog w = .ok false w := fun w => by rw [eq_regs]; congr 1; simp [hz]
  have c0 := hc.cell 0 rfl
  have f0 := hc.free 0
  have c1 := hc.cell 1 rfl
  have f1 := hc.free 1
  have c2 := hc.cell 2 rfl
  have f2 := hc.free 2
  have c3 := hc.cell 3 rfl
  have f3 := hc.free 3
  have c4 := hc.cell 4 rfl
  have f4 := hc.free 4
  go_enter Try.func22, Try.ntmps22
  go_wp2
  go_end0
  exact ⟨rfl, rfl⟩

set_option maxRecDepth 100000 in
theorem reset_raw3 (x3 x4 : Int) (hz : ¬ x3 = 0) (hc : Blk w b #[U 0, U 0, U 0, U x3, U x4] 67) :
    Calls Try.prog 22 #[.pointer (some ⟨b, 0, none⟩)] w fun e w' => e = .returned (.tuple #[]) ∧ (((((w.setCell ⟨b, 0, none⟩ (U 0)).setCell ⟨b, 1, none⟩ (U 0)).setCell ⟨b, 2, none⟩ (U 0)).setCell ⟨b, 3, none⟩ (U 0)).setCell ⟨b, 4, none⟩ (U 0)) = w' := by
  have heq : ∀ w : World, (Op.equalIn 9999 63 (.agg #[U 0, U 0, U 0, U x3]) (.agg #[U 0, U 0, U 0, U 0])).run Try.prog w = .ok false w := fun w => by rw [eq_regs]; congr 1; simp [hz]
  have c0 := hc.cell 0 rfl
  have f0 := hc.free 0
  have c1 := hc.cell 1 rfl
  have f1 := hc.free 1
  have c2 := hc.cell 2 rfl
  have f2 := hc.free 2
  have c3 := hc.cell 3 rfl
  have f3 := hc.free 3
  have c4 := hc.cell 4 rfl
  have f4 := hc.free 4
  go_enter Try.func22, Try.ntmps22
  go_wp2
  go_end0
  exact ⟨rfl, rfl⟩

set_option maxRecDepth 100000 in
theorem reset_raw4 (x4 : Int) (hz : ¬ x4 = 0) (hc : Blk w b #[U 0, U 0, U 0, U 0, U x4] 67) :
    Calls Try.prog 22 #[.pointer (some ⟨b, 0, none⟩)] w fun e w' => e = .returned (.tuple #[]) ∧ (((((w.setCell ⟨b, 0, none⟩ (U 0)).setCell ⟨b, 1, none⟩ (U 0)).setCell ⟨b, 2, none⟩ (U 0)).setCell ⟨b, 3, none⟩ (U 0)).setCell ⟨b, 4, none⟩ (U 0)) = w' := by
  have heq : ∀ w : World, (Op.equalIn 9999 63 (.agg #[U 0, U 0, U 0, U 0]) (.agg #[U 0, U 0, U 0, U 0])).run Try.prog w = .ok true w := fun w => by rw [eq_regs]; rfl
  have c0 := hc.cell 0 rfl
  have f0 := hc.free 0
  have c1 := hc.cell 1 rfl
  have f1 := hc.free 1
  have c2 := hc.cell 2 rfl
  have f2 := hc.free 2
  have c3 := hc.cell 3 rfl
  have f3 := hc.free 3
  have c4 := hc.cell 4 rfl
  have f4 := hc.free 4
  go_enter Try.func22, Try.ntmps22
  go_wp2
  go_end0
  exact ⟨rfl, rfl⟩

set_option maxRecDepth 100000 in
theorem reset_raw5 (hc : Blk w b #[U 0, U 0, U 0, U 0, U 0] 67) :
    Calls Try.prog 22 #[.pointer (some ⟨b, 0, none⟩)] w fun e w' => e = .returned (.tuple #[]) ∧ w = w' := by
  have heq : ∀ w : World, (Op.equalIn 9999 63 (.agg #[U 0, U 0, U 0, U 0]) (.agg #[U 0, U 0, U 0, U 0])).run Try.prog w = .ok true w := fun w => by rw [eq_regs]; rfl
  have c0 := hc.cell 0 rfl
  have f0 := hc.free 0
  have c1 := hc.cell 1 rfl
  have f1 := hc.free 1
  have c2 := hc.cell 2 rfl
  have f2 := hc.free 2
  have c3 := hc.cell 3 rfl
  have f3 := hc.free 3
  have c4 := hc.cell 4 rfl
  have f4 := hc.free 4
  go_enter Try.func22, Try.ntmps22
  go_wp2
  go_end0
  exact ⟨rfl, rfl⟩

theorem reset_any (hc : HC w b s) : Calls Try.prog 22 #[.pointer (some ⟨b, 0, none⟩)] w fun e w' => e = .returned (.tuple #[]) ∧ Stored w w' b CS.zero := by
  have hne : ∀ x0 x1 x2 x3 x4 : Int, Blk w b #[U x0, U x1, U x2, U x3, U x4] 67 → Stored w (((((w.setCell ⟨b, 0, none⟩ (U 0)).setCell ⟨b, 1, none⟩ (U 0)).setCell ⟨b, 2, none⟩ (U 0)).setCell ⟨b, 3, none⟩ (U 0)).setCell ⟨b, 4, none⟩ (U 0)) b CS.zero := by
    intro x0 x1 x2 x3 x4 h
    have h1 : Blk (w.setCell ⟨b, 0, none⟩ (U 0)) b #[U 0, U x1, U x2, U x3, U x4] 67 := h.set 0 (U 0)
    have h2 : Blk ((w.setCell ⟨b, 0, none⟩ (U 0)).setCell ⟨b, 1, none⟩ (U 0)) b #[U 0, U 0, U x2, U x3, U x4] 67 := h1.set 1 (U 0)
    have h3 : Blk (((w.setCell ⟨b, 0, none⟩ (U 0)).setCell ⟨b, 1, none⟩ (U 0)).setCell ⟨b, 2, none⟩ (U 0)) b #[U 0, U 0, U 0, U x3, U x4] 67 := h2.set 2 (U 0)
    have h4 : Blk ((((w.setCell ⟨b, 0, none⟩ (U 0)).setCell ⟨b, 1, none⟩ (U 0)).setCell ⟨b, 2, none⟩ (U 0)).setCell ⟨b, 3, none⟩ (U 0)) b #[U 0, U 0, U 0, U 0, U x4] 67 := h3.set 3 (U 0)
    have h5 : Blk (((((w.setCell ⟨b, 0, none⟩ (U 0)).setCell ⟨b, 1, none⟩ (U 0)).setCell ⟨b, 2, none⟩ (U 0)).setCell ⟨b, 3, none⟩ (U 0)).setCell ⟨b, 4, none⟩ (U 0)) b #[U 0, U 0, U 0, U 0, U 0] 67 := h4.set 4 (U 0)
    have hz : CS.zero.cells = #[U 0, U 0, U 0, U 0, U 0] := rfl
    have hB := (((((Below.refl 0 w).setCell (p := ⟨b, 0, none⟩) (Nat.zero_le _) (U 0)).setCell (p := ⟨b, 1, none⟩) (Nat.zero_le _) (U 0)).setCell (p := ⟨b, 2, none⟩) (Nat.zero_le _) (U 0)).setCell (p := ⟨b, 3, none⟩) (Nat.zero_le _) (U 0)).setCell (p := ⟨b, 4, none⟩) (Nat.zero_le _) (U 0)
    refine ⟨by unfold HC; rw [hz]; exact h5, hB.os, hB.tape, hB.output, hB.size, fun k _ hk => ?_⟩
    exact ((((Below.heap_setCell _ ⟨b, 4, none⟩ _ k hk).trans (Below.heap_setCell _ ⟨b, 3, none⟩ _ k hk)).trans (Below.heap_setCell _ ⟨b, 2, none⟩ _ k hk)).trans (Below.heap_setCell _ ⟨b, 1, none⟩ _ k hk)).trans (Below.heap_setCell _ ⟨b, 0, none⟩ _ k hk)
  unfold HC CS.cells at hc
  generalize s.load = x0 at hc
  generalize s.value = x1 at hc
  generalize s.ctl = x2 at hc
  generalize bI s.st = x3 at hc
  generalize s.phase = x4 at hc
  have hn := hne _ _ _ _ _ hc
  by_cases h0 : x0 = 0
  · subst h0
    by_cases h1 : x1 = 0
    · subst h1
      by_cases h2 : x2 = 0
      · subst h2
        by_cases h3 : x3 = 0
        · subst h3
          by_cases h4 : x4 = 0
          · subst h4; exact (reset_raw5 hc).mono fun _ _ ⟨h1, h2⟩ => ⟨h1, h2 ▸ Stored.of_below (Below.refl _ _) hc⟩
          · exact (reset_raw4 _ h4 hc).mono fun _ _ ⟨h1, h2⟩ => ⟨h1, h2 ▸ hn⟩
        · exact (reset_raw3 _ _ h3 hc).mono fun _ _ ⟨h1, h2⟩ => ⟨h1, h2 ▸ hn⟩
      · exact (reset_raw2 _ _ _ h2 hc).mono fun _ _ ⟨h1, h2⟩ => ⟨h1, h2 ▸ hn⟩
    · exact (reset_raw1 _ _ _ _ h1 hc).mono fun _ _ ⟨h1, h2⟩ => ⟨h1, h2 ▸ hn⟩
  · exact (reset_raw0 _ _ _ _ _ h0 hc).mono fun _ _ ⟨h1, h2⟩ => ⟨h1, h2 ▸ hn⟩
end
end Go.Proofs.Ytfjkfigjenalgaa
