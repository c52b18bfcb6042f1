/- The document's watchdog: ticks. Conditions: those that each statement shows. -/
import Derived.Test.YtndndlegefhafaaR1
namespace Go.Proofs.Ytndndlegefhafaa
open Go.RowKit
set_option linter.unusedVariables false
set_option linter.unusedSimpArgs false

theorem leftR_of (s : WS) (h : s.Ok) (n : Int) (hv : Hid (s.left = n)) (w : World) : Calls Try.prog 32 #[.agg s.cs] w fun e w' => e = .returned (L n) ∧ Below w.heap.size w w' := by
  have := left_ref s h w
  rw [hv.out] at this; exact this

set_option maxHeartbeats 1000000 in
theorem tick_ref (s : WS) (h : s.Ok) (n : Int) (n0 : 0 ≤ n) (n1 : n ≤ 18446744073709551615) (w : World) :
    Calls Try.prog 29 #[.agg s.cs, L n] w fun e w' => e = .returned (.tuple #[.agg (s.tickB n).1.cs, L (s.tickB n).2]) ∧ Below w.heap.size w w' := by
  obtain ⟨en, lk, ar, shut, all, since, fault⟩ := s
  have a0 := h.a0; have a1 := h.a1; have s0 := h.s0; have s1 := h.s1; have hon := h.on
  try dsimp only at a0 a1 s0 s1 hon
  have HH := Lib.hid h
  clear h
  by_cases hf : fault = 0
  · subst hf
    cases en
    · have HV : Hid (WS.tickB ⟨false, lk, ar, shut, all, since, 0⟩ n = (⟨false, lk, ar, shut, all, since, 0⟩, n)) := Lib.hid (by simp [WS.tickB])
      clear hon
      rw [HV.out]
      go_enter Try.func29, Try.ntmps29
      go_wp2
      exact bodyPost_ret (v := .tuple #[.agg #[.bool false, .bool lk, .bool ar, U shut, U all, L since, I 0], L n]) (by simp [results, Try.results29, go_sem]) rfl ⟨rfl, two_below _ _ _⟩
    · have hlt := hon rfl rfl
      have HL : Hid (WS.left ⟨true, lk, ar, shut, all, since, 0⟩ = all - since) := Lib.hid (by simp [WS.left])
      clear hon
      have q0 : IntKind.u64.wrap all = all := by rw [IntKind.wrap_u64]; omega
      by_cases hle : all - since ≤ n
      · have HV : Hid (WS.tickB ⟨true, lk, ar, shut, all, since, 0⟩ n = (⟨true, lk, ar, shut, all, all, 2⟩, all - since)) := Lib.hid (by simp [WS.tickB, hle])
        rw [HV.out]
        have hB := Blk.new w #[.bool true, .bool lk, .bool ar, U shut, U all, L since, I 0] 40
        have hD := Lib.hid (hB.alloc (.cells wz 40))
        have hZ : Hid (Blk ((w.alloc (.cells #[.bool true, .bool lk, .bool ar, U shut, U all, L since, I 0] 40)).alloc (.cells wz 40)) (w.heap.size + 1) wz 40) := Lib.hid (by simpa using Blk.new (w.alloc (.cells #[.bool true, .bool lk, .bool ar, U shut, U all, L since, I 0] 40)) wz 40)
        have hb0 := Lib.hid (two_below w (.cells #[.bool true, .bool lk, .bool ar, U shut, U all, L since, I 0] 40) (.cells wz 40))
        clear hB
        by_cases hov : since + n ≤ 18446744073709551615
        · have g1 : decide (all ≤ since + n) = true := by simp; omega
          go_enter Try.func29, Try.ntmps29
          go_wp2_with ((go_at_call 32; fail))
          refine (leftR_of ⟨true, lk, ar, shut, all, since, 0⟩ HH.out _ HL _).mono ?_
          rintro e w2 ⟨rfl, hb2⟩
          have D2 := hD.out.below hb2 hD.out.lt; have Z2 := hZ.out.below hb2 hZ.out.lt; have B2 := hb0.out.trans (hb2.mono hb0.out.size)
          have d20 := D2.cell 0 rfl; have d21 := D2.cell 1 rfl; have d22 := D2.cell 2 rfl; have d23 := D2.cell 3 rfl; have d24 := D2.cell 4 rfl; have d25 := D2.cell 5 rfl; have d26 := D2.cell 6 rfl
          have x25 := D2.free 5; have x26 := D2.free 6
          have z20 := Z2.cell 0 rfl; have y20 := Z2.free 0; have z21 := Z2.cell 1 rfl; have y21 := Z2.free 1; have z22 := Z2.cell 2 rfl; have y22 := Z2.free 2; have z23 := Z2.cell 3 rfl; have y23 := Z2.free 3; have z24 := Z2.cell 4 rfl; have y24 := Z2.free 4; have z25 := Z2.cell 5 rfl; have y25 := Z2.free 5; have z26 := Z2.cell 6 rfl; have y26 := Z2.free 6
          go_wp2_with fail
          refine bodyPost_ret (v := .tuple #[.agg #[.bool true, .bool lk, .bool ar, U shut, U all, L all, I 2], L (all - since)]) (by simp [results, Try.results29, go_sem, z20, z21, z22, z23, z24, z25, z26]) rfl ⟨rfl, ?_⟩
          iterate 7 (refine bset ?_ (Nat.le_succ _))
          iterate 2 (refine bset ?_ (Nat.le_refl _))
          exact B2
        · have ew : IntKind.u64.wrap (since + n) = since + n - 18446744073709551616 := by rw [IntKind.wrap_u64]; omega
          by_cases hge : all ≤ since + n - 18446744073709551616
          · omega
          · have g1 : decide (all ≤ since + n - 18446744073709551616) = false := by simpa using hge
            have g2 : decide (since + n - 18446744073709551616 < n) = true := by simp; omega
            go_enter Try.func29, Try.ntmps29
            go_wp2_with ((go_at_call 32; fail))
            refine (leftR_of ⟨true, lk, ar, shut, all, since, 0⟩ HH.out _ HL _).mono ?_
            rintro e w2 ⟨rfl, hb2⟩
            have D2 := hD.out.below hb2 hD.out.lt; have Z2 := hZ.out.below hb2 hZ.out.lt; have B2 := hb0.out.trans (hb2.mono hb0.out.size)
            have d20 := D2.cell 0 rfl; have d21 := D2.cell 1 rfl; have d22 := D2.cell 2 rfl; have d23 := D2.cell 3 rfl; have d24 := D2.cell 4 rfl; have d25 := D2.cell 5 rfl; have d26 := D2.cell 6 rfl
            have x25 := D2.free 5; have x26 := D2.free 6
            have z20 := Z2.cell 0 rfl; have y20 := Z2.free 0; have z21 := Z2.cell 1 rfl; have y21 := Z2.free 1; have z22 := Z2.cell 2 rfl; have y22 := Z2.free 2; have z23 := Z2.cell 3 rfl; have y23 := Z2.free 3; have z24 := Z2.cell 4 rfl; have y24 := Z2.free 4; have z25 := Z2.cell 5 rfl; have y25 := Z2.free 5; have z26 := Z2.cell 6 rfl; have y26 := Z2.free 6
            go_wp2_with fail
            refine bodyPost_ret (v := .tuple #[.agg #[.bool true, .bool lk, .bool ar, U shut, U all, L all, I 2], L (all - since)]) (by simp [results, Try.results29, go_sem, z20, z21, z22, z23, z24, z25, z26]) rfl ⟨rfl, ?_⟩
            iterate 7 (refine bset ?_ (Nat.le_succ _))
            iterate 2 (refine bset ?_ (Nat.le_refl _))
            exact B2
      · have HV : Hid (WS.tickB ⟨true, lk, ar, shut, all, since, 0⟩ n = (⟨true, lk, ar, shut, all, since + n, 0⟩, n)) := Lib.hid (by simp [WS.tickB, hle])
        rw [HV.out]
        have g1 : decide (all ≤ since + n) = false := by simp; omega
        have g2 : decide (since + n < n) = false := by simp; omega
        go_enter Try.func29, Try.ntmps29
        go_wp2
        exact bodyPost_ret (v := .tuple #[.agg #[.bool true, .bool lk, .bool ar, U shut, U all, L (since + n), I 0], L n]) (by simp [results, Try.results29, go_sem]) rfl ⟨rfl, two_below _ _ _⟩
  · have HV : Hid (WS.tickB ⟨en, lk, ar, shut, all, since, fault⟩ n = (⟨en, lk, ar, shut, all, since, fault⟩, 0)) := Lib.hid (by simp [WS.tickB, hf])
    have hfb : (fault == 0) = false := by simpa using hf
    have hfb' : (fault != 0) = true := by simpa using hf
    clear hon
    rw [HV.out]
    go_enter Try.func29, Try.ntmps29
    go_wp2
    all_goals exact bodyPost_ret (v := .tuple #[.agg #[.bool en, .bool lk, .bool ar, U shut, U all, L since, I fault], L 0]) (by simp [results, Try.results29, go_sem]) rfl ⟨rfl, two_below _ _ _⟩
end Go.Proofs.Ytndndlegefhafaa
