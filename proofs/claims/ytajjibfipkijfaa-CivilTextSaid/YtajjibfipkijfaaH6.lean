/- The walk of the law CivilGoes. Its conditions: those that its statement shows. -/
import Derived.Test.YtajjibfipkijfaaH2
import Derived.Test.YtajjibfipkijfaaH5
import Derived.Deep.CutRange
import Derived.Deep.DeepCutAuto
set_option linter.unusedVariables false
set_option linter.unusedSimpArgs false
namespace Go.Proofs.Ytajjibfipkijfaa
open Go.RowKit

theorem less_of (x0 x1 x2 x3 x4 x5 y0 y1 y2 y3 y4 y5 : Int) (b : Bool) (h : Hid (lexB [x0, x1, x2, x3, x4, x5] [y0, y1, y2, y3, y4, y5] = b)) (w : World) :
    Calls Try.prog 20 #[.agg #[I x0, I x1, I x2, I x3, I x4, I x5], .agg #[I y0, I y1, I y2, I y3, I y4, I y5]] w fun e w' => e = .returned (.bool b) ∧ Below w.heap.size w w' := by
  have := less_any x0 x1 x2 x3 x4 x5 y0 y1 y2 y3 y4 y5 w
  rw [h.out] at this
  exact this
theorem days_of (y m n : Int) (h : daysB y m = n) (w : World) :
    Calls Try.prog 16 #[.int .i64 y, .int .i64 m] w fun e w' => e = .returned (.int .i64 n) ∧ Below w.heap.size w w' := by
  have := days_any y m w
  rw [h] at this
  exact this
theorem right_of (y m d h i s : Int) (hr : rightB y m d h i s = true) (w : World) :
    Calls Try.prog 12 #[.agg #[I y, I m, I d, I h, I i, I s]] w fun e w' => e = .returned (.bool true) ∧ Below w.heap.size w w' := by
  have := right_any y m d h i s w
  rw [hr] at this
  exact this

theorem eq_struct (x0 x1 x2 x3 x4 x5 y0 y1 y2 y3 y4 y5 : Int) (b : Bool) (h : decide (x0 = y0 ∧ x1 = y1 ∧ x2 = y2 ∧ x3 = y3 ∧ x4 = y4 ∧ x5 = y5) = b) (w : World) :
    (Op.equalIn 10000 24 (.agg #[I x0, I x1, I x2, I x3, I x4, I x5]) (.agg #[I y0, I y1, I y2, I y3, I y4, I y5])).run Try.prog w = .ok b w := by
  subst h
  by_cases h0 : x0 = y0
  · by_cases h1 : x1 = y1
    · by_cases h2 : x2 = y2
      · by_cases h3 : x3 = y3
        · by_cases h4 : x4 = y4
          · by_cases h5 : x5 = y5
            · simp [go_sem, h0, h1, h2, h3, h4, h5]
            · simp [go_sem, h0, h1, h2, h3, h4, h5]
          · simp [go_sem, h0, h1, h2, h3, h4]
        · simp [go_sem, h0, h1, h2, h3]
      · simp [go_sem, h0, h1, h2]
    · simp [go_sem, h0, h1]
  · simp [go_sem, h0]

set_option maxHeartbeats 4000000 in
theorem goes_walk (a0 b0 : Int) (alo : 0 ≤ a0) (ahi : a0 ≤ 18446744073709551615) (blo : 0 ≤ b0) (bhi : b0 ≤ 18446744073709551615) (w : World) :
    Calls Try.prog 4 #[.int .u64 a0, .int .u64 b0] w fun e w' => e = .returned (.bool true) ∧ Below w.heap.size w w' := by
  obtain ⟨A, hA⟩ : ∃ A : Int, a0 % 253402300800 = A := ⟨_, rfl⟩
  obtain ⟨B, hB⟩ : ∃ B : Int, b0 % 253402300800 = B := ⟨_, rfl⟩
  have A0 : 0 ≤ A := by omega
  have A1 : A ≤ 253402300799 := by omega
  have B0 : 0 ≤ B := by omega
  have B1 : B ≤ 253402300799 := by omega
  have hA' : a0.tmod 253402300800 = A := by rw [Int.tmod_eq_emod_of_nonneg alo]; exact hA
  have hB' : b0.tmod 253402300800 = B := by rw [Int.tmod_eq_emod_of_nonneg blo]; exact hB
  obtain ⟨y, m, d, hd⟩ := date_of (A / 86400) (by omega) (by omega)
  have cX := fun w => of_any A y m d A0 A1 hd w
  have cZ := fun (y' m' d' : Int) (h86 : A + 86400 ≤ 253402300799) (hz : IsDate (A / 86400 + 1) y' m' d') (w : World) => of_any (A + 86400) y' m' d' (by omega) h86 (by rw [show (A + 86400) / 86400 = A / 86400 + 1 by omega]; exact hz) w
  have cN := fun (h86 : 253402300799 < A + 86400) (w : World) => of_no (A + 86400) h86 (by omega) w
  rw [show (A + 86400) % 86400 / 3600 = A % 86400 / 3600 by omega, show (A + 86400) % 3600 / 60 = A % 3600 / 60 by omega, show (A + 86400) % 60 = A % 60 by omega] at cZ
  obtain ⟨h, hh⟩ : ∃ h, A % 86400 / 3600 = h := ⟨_, rfl⟩
  obtain ⟨i, hi⟩ : ∃ i, A % 3600 / 60 = i := ⟨_, rfl⟩
  obtain ⟨s, hs⟩ : ∃ s, A % 60 = s := ⟨_, rfl⟩
  have hxr : rightB y m d h i s = true := date_right hd (by omega) (by omega) (by omega) (by omega) (by omega) (by omega)
  have hxs : secB y m d h i s = A := by have := hd.num; unfold secB; omega
  rw [hh, hi, hs] at cX cZ
  obtain ⟨Y, e1, cB, _, hY⟩ := of_both B B0 (by omega)
  obtain ⟨rfl, hyr, hys⟩ : e1 = 0 ∧ Y.right = true ∧ Y.sec = B := by
    rcases hY with ⟨h1, _, h2, h3⟩ | ⟨_, h2⟩
    · exact ⟨h1, h2, h3⟩
    · omega
  obtain ⟨lt, hlt⟩ : ∃ b, decide (A < B) = b := ⟨_, rfl⟩
  obtain ⟨gt, hgt⟩ : ∃ b, decide (B < A) = b := ⟨_, rfl⟩
  obtain ⟨eq, heq⟩ : ∃ b, (A == B) = b := ⟨_, rfl⟩
  have l1 := lex_sec ⟨y, m, d, h, i, s⟩ Y hxr hyr
  have l2 := lex_sec Y ⟨y, m, d, h, i, s⟩ hyr hxr
  have l3 := eq_sec ⟨y, m, d, h, i, s⟩ Y hxr hyr
  rw [hys, show DT.sec ⟨y, m, d, h, i, s⟩ = A from hxs] at l1 l2 l3
  rw [hlt] at l1
  rw [hgt] at l2
  rw [heq] at l3
  obtain ⟨y0, y1, y2, y3, y4, y5⟩ := Y
  have L1 : Hid (lexB [y, m, d, h, i, s] [y0, y1, y2, y3, y4, y5] = lt) := Lib.hid l1
  have L2 : Hid (lexB [y0, y1, y2, y3, y4, y5] [y, m, d, h, i, s] = gt) := Lib.hid l2
  have L3 : Hid (decide (y = y0 ∧ m = y1 ∧ d = y2 ∧ h = y3 ∧ i = y4 ∧ s = y5) = eq) := Lib.hid l3
  have CX := Lib.hid cX
  have CB : Hid (∀ w, Calls Try.prog 7 #[.int .u64 B] w fun r w' => r = .returned (.tuple #[.agg #[I y0, I y1, I y2, I y3, I y4, I y5], .int .i64 0]) ∧ Below w.heap.size w w') := Lib.hid cB
  have CZ := Lib.hid cZ
  have CN := Lib.hid cN
  have XR := Lib.hid hxr
  have HD := Lib.hid hd
  have LT := Lib.hid hlt
  have GT := Lib.hid hgt
  have EQ := Lib.hid heq
  clear l1 l2 l3 cX cB cZ cN hxr hxs hyr hys hd hlt hgt heq hh hi hs hY
  go_enter Try.func4, Try.ntmps4
  go_wp2_with ((go_at_call 7; fail))
  clear hA hB hA' hB'
  refine (CX.out _).mono ?_
  rintro e w2 ⟨rfl, hb2⟩
  have X2 := Blk.new w2 #[I y, I m, I d, I h, I i, I s] 24
  have B2 := hb2.alloc hb2.size (.cells #[I y, I m, I d, I h, I i, I s] 24)
  go_wp2_with ((go_at_call 7; fail))
  refine (CB.out _).mono ?_
  rintro e w3 ⟨rfl, hb3⟩
  have X3 := (X2.below hb3 X2.lt).alloc (.cells #[I y0, I y1, I y2, I y3, I y4, I y5] 24)
  have B3 := (B2.trans (hb3.mono B2.size)).alloc (B2.trans (hb3.mono B2.size)).size (.cells #[I y0, I y1, I y2, I y3, I y4, I y5] 24)
  have Y3 := Blk.new w3 #[I y0, I y1, I y2, I y3, I y4, I y5] 24
  clear hb2 hb3 X2 B2
  have x3_0 := X3.cell 0 rfl; have x3_1 := X3.cell 1 rfl; have x3_2 := X3.cell 2 rfl; have x3_3 := X3.cell 3 rfl; have x3_4 := X3.cell 4 rfl; have x3_5 := X3.cell 5 rfl
  have y3_0 := Y3.cell 0 rfl; have y3_1 := Y3.cell 1 rfl; have y3_2 := Y3.cell 2 rfl; have y3_3 := Y3.cell 3 rfl; have y3_4 := Y3.cell 4 rfl; have y3_5 := Y3.cell 5 rfl
  have heq : ∀ w : World, (Op.equalIn 10000 24 (.agg #[I y, I m, I d, I h, I i, I s]) (.agg #[I y0, I y1, I y2, I y3, I y4, I y5])).run Try.prog w = .ok eq w := fun w => eq_struct _ _ _ _ _ _ _ _ _ _ _ _ _ L3.out w
  have lt' := LT.out
  have gt' := GT.out
  have eq' := EQ.out
  go_wp2_with ((go_at_call 20; fail))
  clear x3_0 x3_1 x3_2 x3_3 x3_4 x3_5 y3_0 y3_1 y3_2 y3_3 y3_4 y3_5
  refine (less_of _ _ _ _ _ _ _ _ _ _ _ _ lt L1 _).mono ?_
  rintro e w4 ⟨rfl, hb4⟩
  have X4 := X3.below hb4 X3.lt
  have Y4 := Y3.below hb4 Y3.lt
  have B4 := B3.trans (hb4.mono B3.size)
  clear hb4 X3 Y3 B3
  generalize w2.heap.size = g1 at *
  generalize w3.heap.size = g2 at *
  have x4_0 := X4.cell 0 rfl; have x4_1 := X4.cell 1 rfl; have x4_2 := X4.cell 2 rfl; have x4_3 := X4.cell 3 rfl; have x4_4 := X4.cell 4 rfl; have x4_5 := X4.cell 5 rfl
  have y4_0 := Y4.cell 0 rfl; have y4_1 := Y4.cell 1 rfl; have y4_2 := Y4.cell 2 rfl; have y4_3 := Y4.cell 3 rfl; have y4_4 := Y4.cell 4 rfl; have y4_5 := Y4.cell 5 rfl
  go_wp2_with ((go_at_call 20; fail))
  clear x4_0 x4_1 x4_2 x4_3 x4_4 x4_5 y4_0 y4_1 y4_2 y4_3 y4_4 y4_5
  refine (less_of _ _ _ _ _ _ _ _ _ _ _ _ gt L2 _).mono ?_
  rintro e w5 ⟨rfl, hb5⟩
  have X5 := X4.below hb5 X4.lt
  have Y5 := Y4.below hb5 Y4.lt
  have B5 := B4.trans (hb5.mono B4.size)
  clear hb5 X4 Y4 B4
  have x5_0 := X5.cell 0 rfl; have x5_1 := X5.cell 1 rfl; have x5_2 := X5.cell 2 rfl; have x5_3 := X5.cell 3 rfl; have x5_4 := X5.cell 4 rfl; have x5_5 := X5.cell 5 rfl
  have y5_0 := Y5.cell 0 rfl; have y5_1 := Y5.cell 1 rfl; have y5_2 := Y5.cell 2 rfl; have y5_3 := Y5.cell 3 rfl; have y5_4 := Y5.cell 4 rfl; have y5_5 := Y5.cell 5 rfl
  go_wp2_with ((go_at_call 12; fail))
  clear x5_0 x5_1 x5_2 x5_3 x5_4 x5_5 y5_0 y5_1 y5_2 y5_3 y5_4 y5_5
  refine (right_of _ _ _ _ _ _ XR.out _).mono ?_
  rintro e w6 ⟨rfl, hb6⟩
  have X6 := X5.below hb6 X5.lt
  have B6 := B5.trans (hb6.mono B5.size)
  clear hb6 X5 Y5 B5 heq lt' gt' eq'
  have WD1 := Lib.hid (weekday_any (A + 86400) (by omega) (by omega))
  have WD2 := Lib.hid (weekday_any A (by omega) (by omega))
  by_cases h86 : A + 86400 ≤ 253402300799
  · rcases next_day HD.out (by omega) with ⟨hdd, hz⟩ | ⟨hdd, h28, y', m', hz⟩
    · have CZ1 := Lib.hid (CZ.out y m (d + 1) h86 hz)
      have d1 := HD.out.d0
      have d2 : d + 1 ≤ 31 := by have := days_bd y m (by have := HD.out.y0; omega) HD.out.m0 HD.out.m1; omega
      clear hz hdd
      go_wp2_with ((go_at_call 7; fail))
      refine (CZ1.out _).mono ?_
      rintro e w7 ⟨rfl, hb7⟩
      have Z7 := Blk.new w7 #[I y, I m, I (d + 1), I h, I i, I s] 24
      have X7 := (X6.below hb7 X6.lt).alloc (.cells #[I y, I m, I (d + 1), I h, I i, I s] 24)
      have B7 := (B6.trans (hb7.mono B6.size)).alloc (B6.trans (hb7.mono B6.size)).size (.cells #[I y, I m, I (d + 1), I h, I i, I s] 24)
      clear X6 hb7 B6
      have x7_0 := X7.wx 0 rfl; have x7_1 := X7.wx 1 rfl; have x7_2 := X7.wx 2 rfl; have x7_3 := X7.wx 3 rfl; have x7_4 := X7.wx 4 rfl; have x7_5 := X7.wx 5 rfl; have z7_0 := Z7.wx 0 rfl; have z7_1 := Z7.wx 1 rfl; have z7_2 := Z7.wx 2 rfl; have z7_3 := Z7.wx 3 rfl; have z7_4 := Z7.wx 4 rfl; have z7_5 := Z7.wx 5 rfl
      have q1 : ((d + 1) == (d + 1)) = true := by simp
      have q2 : IntKind.i64.wrap (d + 1) = d + 1 := by rw [IntKind.wrap_i64]; omega
      have q3 : (m == m) = true := by simp
      go_upto_region 9 with fail
      refine wp_region_grown (by kernel_rfl) (by kernel_rfl) ?_
      repeat (go_big_quiet_step (fail))
      refine wpQuiet_nil ?_
      intro w8 hb8
      have Z8 := Z7.below hb8 Z7.lt
      have X8 := X7.below hb8 X7.lt
      have B8 := B7.trans (hb8.mono B7.size)
      clear x7_0 x7_1 x7_2 x7_3 x7_4 x7_5 z7_0 z7_1 z7_2 z7_3 z7_4 z7_5 X7 Z7 B7 hb8
      generalize w7.heap.size = g3 at *
      have x8_0 := X8.cell 0 rfl; have x8_1 := X8.cell 1 rfl; have x8_2 := X8.cell 2 rfl; have x8_3 := X8.cell 3 rfl; have x8_4 := X8.cell 4 rfl; have x8_5 := X8.cell 5 rfl; have z8_0 := Z8.cell 0 rfl; have z8_1 := Z8.cell 1 rfl; have z8_2 := Z8.cell 2 rfl; have z8_3 := Z8.cell 3 rfl; have z8_4 := Z8.cell 4 rfl; have z8_5 := Z8.cell 5 rfl
      have r1 : (m == m) = true := by simp
      go_wp2_with ((go_at_call 19; fail))
      clear x8_0 x8_1 x8_2 x8_3 x8_4 x8_5 z8_0 z8_1 z8_2 z8_3 z8_4 z8_5
      refine (known_any _).mono ?_
      rintro e w9 ⟨rfl, hb9⟩
      have Z9 := Z8.below hb9 Z8.lt
      have X9 := X8.below hb9 X8.lt
      have B9 := B8.trans (hb9.mono B8.size)
      clear Z8 X8 B8 hb9
      have x9_0 := X9.cell 0 rfl; have x9_1 := X9.cell 1 rfl; have x9_2 := X9.cell 2 rfl; have x9_3 := X9.cell 3 rfl; have x9_4 := X9.cell 4 rfl; have x9_5 := X9.cell 5 rfl; have z9_0 := Z9.cell 0 rfl; have z9_1 := Z9.cell 1 rfl; have z9_2 := Z9.cell 2 rfl; have z9_3 := Z9.cell 3 rfl; have z9_4 := Z9.cell 4 rfl; have z9_5 := Z9.cell 5 rfl
      go_wp2_with ((go_at_call 18; fail))
      refine (WD1.out _).mono ?_
      rintro e wa ⟨rfl, rfl⟩
      go_wp2_with ((go_at_call 18; fail))
      refine (WD2.out _).mono ?_
      rintro e wb ⟨rfl, rfl⟩
      go_wp2_with fail
      go_ret
      exact ⟨ret_bool (by simp; omega), B9⟩
    · have CZ1 := Lib.hid (CZ.out y' m' 1 h86 hz)
      have d1 := HD.out.d0
      have d2 : d ≤ 31 := by have := days_bd y m (by have := HD.out.y0; omega) HD.out.m0 HD.out.m1; omega
      have HDD := Lib.hid hdd
      clear hz hdd
      go_wp2_with ((go_at_call 7; fail))
      refine (CZ1.out _).mono ?_
      rintro e w7 ⟨rfl, hb7⟩
      have Z7 := Blk.new w7 #[I y', I m', I 1, I h, I i, I s] 24
      have X7 := (X6.below hb7 X6.lt).alloc (.cells #[I y', I m', I 1, I h, I i, I s] 24)
      have B7 := (B6.trans (hb7.mono B6.size)).alloc (B6.trans (hb7.mono B6.size)).size (.cells #[I y', I m', I 1, I h, I i, I s] 24)
      clear X6 hb7 B6
      have x7_0 := X7.wx 0 rfl; have x7_1 := X7.wx 1 rfl; have x7_2 := X7.wx 2 rfl; have x7_3 := X7.wx 3 rfl; have x7_4 := X7.wx 4 rfl; have x7_5 := X7.wx 5 rfl; have z7_0 := Z7.wx 0 rfl; have z7_1 := Z7.wx 1 rfl; have z7_2 := Z7.wx 2 rfl; have z7_3 := Z7.wx 3 rfl; have z7_4 := Z7.wx 4 rfl; have z7_5 := Z7.wx 5 rfl
      have q1 : ((1 : Int) == (d + 1)) = false := by simp; omega
      have q2 : IntKind.i64.wrap (d + 1) = d + 1 := by rw [IntKind.wrap_i64]; omega
      have q4 : (d == d) = true := by simp
      go_upto_region 9 with fail
      refine wp_region_grown (by kernel_rfl) (by kernel_rfl) ?_
      repeat (go_big_quiet_step ((go_at_call 16; exact WX.of (days_of _ _ _ HDD.out.symm _))))
      refine wpQuiet_nil ?_
      intro w8 hb8
      have Z8 := Z7.below hb8 Z7.lt
      have X8 := X7.below hb8 X7.lt
      have B8 := B7.trans (hb8.mono B7.size)
      clear x7_0 x7_1 x7_2 x7_3 x7_4 x7_5 z7_0 z7_1 z7_2 z7_3 z7_4 z7_5 X7 Z7 B7 hb8
      generalize w7.heap.size = g3 at *
      have x8_0 := X8.cell 0 rfl; have x8_1 := X8.cell 1 rfl; have x8_2 := X8.cell 2 rfl; have x8_3 := X8.cell 3 rfl; have x8_4 := X8.cell 4 rfl; have x8_5 := X8.cell 5 rfl; have z8_0 := Z8.cell 0 rfl; have z8_1 := Z8.cell 1 rfl; have z8_2 := Z8.cell 2 rfl; have z8_3 := Z8.cell 3 rfl; have z8_4 := Z8.cell 4 rfl; have z8_5 := Z8.cell 5 rfl
      go_wp2_with ((go_at_call 19; fail))
      clear x8_0 x8_1 x8_2 x8_3 x8_4 x8_5 z8_0 z8_1 z8_2 z8_3 z8_4 z8_5
      refine (known_any _).mono ?_
      rintro e w9 ⟨rfl, hb9⟩
      have Z9 := Z8.below hb9 Z8.lt
      have X9 := X8.below hb9 X8.lt
      have B9 := B8.trans (hb9.mono B8.size)
      clear Z8 X8 B8 hb9
      have x9_0 := X9.cell 0 rfl; have x9_1 := X9.cell 1 rfl; have x9_2 := X9.cell 2 rfl; have x9_3 := X9.cell 3 rfl; have x9_4 := X9.cell 4 rfl; have x9_5 := X9.cell 5 rfl; have z9_0 := Z9.cell 0 rfl; have z9_1 := Z9.cell 1 rfl; have z9_2 := Z9.cell 2 rfl; have z9_3 := Z9.cell 3 rfl; have z9_4 := Z9.cell 4 rfl; have z9_5 := Z9.cell 5 rfl
      go_wp2_with ((go_at_call 18; fail))
      refine (WD1.out _).mono ?_
      rintro e wa ⟨rfl, rfl⟩
      go_wp2_with ((go_at_call 18; fail))
      refine (WD2.out _).mono ?_
      rintro e wb ⟨rfl, rfl⟩
      go_wp2_with fail
      go_ret
      exact ⟨ret_bool (by simp; omega), B9⟩
  · have CN1 := Lib.hid (CN.out (by omega))
    go_wp2_with ((go_at_call 7; fail))
    refine (CN1.out _).mono ?_
    rintro e w7 ⟨rfl, hb7⟩
    have B7 := (B6.trans (hb7.mono B6.size)).alloc (B6.trans (hb7.mono B6.size)).size (.cells #[I 0, I 0, I 0, I 0, I 0, I 0] 24)
    go_wp2_with ((go_at_call 19; fail))
    refine (known_any _).mono ?_
    rintro e wk ⟨rfl, hbk⟩
    go_wp2_with fail
    go_ret
    exact ⟨rfl, B7.trans (hbk.mono B7.size)⟩

theorem u64_bd {n : Int} (h : (Lit.int .u64 n).wf = true) : 0 ≤ n ∧ n ≤ 18446744073709551615 := by
  simp [Lit.wf, IntKind.min, IntKind.max, IntKind.signed, IntKind.bits] at h; omega
theorem goes_row (a b : Int) (ha : (Lit.int .u64 a).wf = true) (hb : (Lit.int .u64 b).wf = true) (w : World) :
    Calls Try.prog 4 #[.int .u64 a, .int .u64 b] w fun e w' => e = .returned (.bool true) ∧ Below w.heap.size w w' :=
  goes_walk a b (u64_bd ha).1 (u64_bd ha).2 (u64_bd hb).1 (u64_bd hb).2 w
end Go.Proofs.Ytajjibfipkijfaa
