/- The document's watchdog: stores. Conditions: those that each statement shows. -/
import Derived.Test.YtndndlegefhafaaR1
namespace Go.Proofs.Ytndndlegefhafaa
open Go.RowKit
set_option linter.unusedVariables false
set_option linter.unusedSimpArgs false

theorem loadR_of (s : WS) (h : s.Ok) (off v e : Int) (h0 : 0 ≤ off) (h1 : off ≤ 4294967295) (hv : Hid (s.loadB off = (v, e))) (w : World) :
    Calls Try.prog 30 #[.agg s.cs, U off] w fun x w' => x = .returned (.tuple #[U v, I e]) ∧ Below w.heap.size w w' := by
  have := load_ref s h off h0 h1 w
  rw [hv.out] at this; exact this

set_option maxHeartbeats 1000000 in
theorem store_ref_err (en lk ar : Bool) (shut all since fault : Int) (off v lv er : Int) (o0 : 0 ≤ off) (o1 : off ≤ 4294967295) (hl : Hid (WS.loadB ⟨en, lk, ar, shut, all, since, fault⟩ off = (lv, er))) (he : er ≠ 0) (h : WS.Ok ⟨en, lk, ar, shut, all, since, fault⟩) (w : World) :
    Calls Try.prog 31 #[.agg #[.bool en, .bool lk, .bool ar, U shut, U all, L since, I fault], U off, U v] w fun e w' => e = .returned (.tuple #[.agg #[.bool en, .bool lk, .bool ar, U shut, U all, L since, I fault], I er]) ∧ Below w.heap.size w w' := by
  have LB := hl
  have LB0 : Hid (0 ≤ off ∧ off ≤ 4294967295) := Lib.hid ⟨o0, o1⟩
  clear hl
  have h0 := h.h0; have h1 := h.h1; have a0 := h.a0; have a1 := h.a1; have s0 := h.s0; have s1 := h.s1
  try dsimp only at h0 h1 a0 a1 s0 s1
  have q0 : IntKind.u64.wrap shut = shut := by rw [IntKind.wrap_u64]; omega
  have HH := Lib.hid h
  clear h
  have hB := Blk.new w #[.bool en, .bool lk, .bool ar, U shut, U all, L since, I fault] 40
  have hD := Lib.hid (hB.alloc (.cells wz 40))
  have hZ : Hid (Blk ((w.alloc (.cells #[.bool en, .bool lk, .bool ar, U shut, U all, L since, I fault] 40)).alloc (.cells wz 40)) (w.heap.size + 1) wz 40) := Lib.hid (by simpa using Blk.new (w.alloc (.cells #[.bool en, .bool lk, .bool ar, U shut, U all, L since, I fault] 40)) wz 40)
  have hb0 := Lib.hid (two_below w (.cells #[.bool en, .bool lk, .bool ar, U shut, U all, L since, I fault] 40) (.cells wz 40))
  clear hB
  have e1 : (er == 0) = false := by simpa using he
  have e2 : (er != 0) = true := by simpa using he
  clear he
  go_enter Try.func31, Try.ntmps31
  go_wp2_with ((go_at_call 30; fail))
  refine (loadR_of ⟨en, lk, ar, shut, all, since, fault⟩ HH.out _ _ _ LB0.out.1 LB0.out.2 LB _).mono ?_
  rintro e w2 ⟨rfl, hb2⟩
  have D2 := hD.out.below hb2 hD.out.lt; have Z2 := hZ.out.below hb2 hZ.out.lt; have B2 := hb0.out.trans (hb2.mono hb0.out.size)
  have d20 := D2.cell 0 rfl; have d21 := D2.cell 1 rfl; have d22 := D2.cell 2 rfl; have d23 := D2.cell 3 rfl; have d24 := D2.cell 4 rfl; have d25 := D2.cell 5 rfl; have d26 := D2.cell 6 rfl
  have x20 := D2.free 0; have x21 := D2.free 1; have x22 := D2.free 2; have x23 := D2.free 3; have x24 := D2.free 4; have x25 := D2.free 5; have x26 := D2.free 6
  have z20 := Z2.cell 0 rfl; have y20 := Z2.free 0; have z21 := Z2.cell 1 rfl; have y21 := Z2.free 1; have z22 := Z2.cell 2 rfl; have y22 := Z2.free 2; have z23 := Z2.cell 3 rfl; have y23 := Z2.free 3; have z24 := Z2.cell 4 rfl; have y24 := Z2.free 4; have z25 := Z2.cell 5 rfl; have y25 := Z2.free 5; have z26 := Z2.cell 6 rfl; have y26 := Z2.free 6
  go_wp2_with fail
  all_goals
    refine bodyPost_ret (v := .tuple #[.agg #[.bool en, .bool lk, .bool ar, U shut, U all, L since, I fault], I er]) (by simp [results, Try.results31, go_sem, z20, z21, z22, z23, z24, z25, z26]) rfl ⟨rfl, ?_⟩
    iterate 7 (refine bset ?_ (Nat.le_succ _))
    iterate 0 (refine bset ?_ (Nat.le_refl _))
    exact B2
set_option maxHeartbeats 1000000 in
theorem store_ref_16 (en lk ar : Bool) (shut all since fault : Int) (v : Int) (h : WS.Ok ⟨en, lk, ar, shut, all, since, fault⟩) (w : World) :
    Calls Try.prog 31 #[.agg #[.bool en, .bool lk, .bool ar, U shut, U all, L since, I fault], U 16, U v] w fun e w' => e = .returned (.tuple #[.agg #[.bool en, .bool lk, .bool ar, U shut, U all, L since, I fault], I 12]) ∧ Below w.heap.size w w' := by
  have LB0 : Hid (0 ≤ (16 : Int) ∧ (16 : Int) ≤ 4294967295) := Lib.hid (by decide)
  obtain ⟨lv, LB⟩ : ∃ lv, Hid (WS.loadB ⟨en, lk, ar, shut, all, since, fault⟩ 16 = (lv, 0)) := ⟨_, Lib.hid rfl⟩
  have h0 := h.h0; have h1 := h.h1; have a0 := h.a0; have a1 := h.a1; have s0 := h.s0; have s1 := h.s1
  try dsimp only at h0 h1 a0 a1 s0 s1
  have q0 : IntKind.u64.wrap shut = shut := by rw [IntKind.wrap_u64]; omega
  have HH := Lib.hid h
  clear h
  have hB := Blk.new w #[.bool en, .bool lk, .bool ar, U shut, U all, L since, I fault] 40
  have hD := Lib.hid (hB.alloc (.cells wz 40))
  have hZ : Hid (Blk ((w.alloc (.cells #[.bool en, .bool lk, .bool ar, U shut, U all, L since, I fault] 40)).alloc (.cells wz 40)) (w.heap.size + 1) wz 40) := Lib.hid (by simpa using Blk.new (w.alloc (.cells #[.bool en, .bool lk, .bool ar, U shut, U all, L since, I fault] 40)) wz 40)
  have hb0 := Lib.hid (two_below w (.cells #[.bool en, .bool lk, .bool ar, U shut, U all, L since, I fault] 40) (.cells wz 40))
  clear hB
  go_enter Try.func31, Try.ntmps31
  go_wp2_with ((go_at_call 30; fail))
  refine (loadR_of ⟨en, lk, ar, shut, all, since, fault⟩ HH.out _ _ _ LB0.out.1 LB0.out.2 LB _).mono ?_
  rintro e w2 ⟨rfl, hb2⟩
  have D2 := hD.out.below hb2 hD.out.lt; have Z2 := hZ.out.below hb2 hZ.out.lt; have B2 := hb0.out.trans (hb2.mono hb0.out.size)
  have d20 := D2.cell 0 rfl; have d21 := D2.cell 1 rfl; have d22 := D2.cell 2 rfl; have d23 := D2.cell 3 rfl; have d24 := D2.cell 4 rfl; have d25 := D2.cell 5 rfl; have d26 := D2.cell 6 rfl
  have x20 := D2.free 0; have x21 := D2.free 1; have x22 := D2.free 2; have x23 := D2.free 3; have x24 := D2.free 4; have x25 := D2.free 5; have x26 := D2.free 6
  have z20 := Z2.cell 0 rfl; have y20 := Z2.free 0; have z21 := Z2.cell 1 rfl; have y21 := Z2.free 1; have z22 := Z2.cell 2 rfl; have y22 := Z2.free 2; have z23 := Z2.cell 3 rfl; have y23 := Z2.free 3; have z24 := Z2.cell 4 rfl; have y24 := Z2.free 4; have z25 := Z2.cell 5 rfl; have y25 := Z2.free 5; have z26 := Z2.cell 6 rfl; have y26 := Z2.free 6
  go_wp2_with fail
  all_goals
    refine bodyPost_ret (v := .tuple #[.agg #[.bool en, .bool lk, .bool ar, U shut, U all, L since, I fault], I 12]) (by simp [results, Try.results31, go_sem, z20, z21, z22, z23, z24, z25, z26]) rfl ⟨rfl, ?_⟩
    iterate 7 (refine bset ?_ (Nat.le_succ _))
    iterate 0 (refine bset ?_ (Nat.le_refl _))
    exact B2
set_option maxHeartbeats 1000000 in
theorem store_ref_fault_0 (en lk ar : Bool) (shut all since fault : Int) (hf : fault ≠ 0) (v : Int) (h : WS.Ok ⟨en, lk, ar, shut, all, since, fault⟩) (w : World) :
    Calls Try.prog 31 #[.agg #[.bool en, .bool lk, .bool ar, U shut, U all, L since, I fault], U 0, U v] w fun e w' => e = .returned (.tuple #[.agg #[.bool en, .bool lk, .bool ar, U shut, U all, L since, I fault], I 0]) ∧ Below w.heap.size w w' := by
  have LB0 : Hid (0 ≤ (0 : Int) ∧ (0 : Int) ≤ 4294967295) := Lib.hid (by decide)
  obtain ⟨lv, LB⟩ : ∃ lv, Hid (WS.loadB ⟨en, lk, ar, shut, all, since, fault⟩ 0 = (lv, 0)) := ⟨_, Lib.hid rfl⟩
  have h0 := h.h0; have h1 := h.h1; have a0 := h.a0; have a1 := h.a1; have s0 := h.s0; have s1 := h.s1
  try dsimp only at h0 h1 a0 a1 s0 s1
  have q0 : IntKind.u64.wrap shut = shut := by rw [IntKind.wrap_u64]; omega
  have HH := Lib.hid h
  clear h
  have hB := Blk.new w #[.bool en, .bool lk, .bool ar, U shut, U all, L since, I fault] 40
  have hD := Lib.hid (hB.alloc (.cells wz 40))
  have hZ : Hid (Blk ((w.alloc (.cells #[.bool en, .bool lk, .bool ar, U shut, U all, L since, I fault] 40)).alloc (.cells wz 40)) (w.heap.size + 1) wz 40) := Lib.hid (by simpa using Blk.new (w.alloc (.cells #[.bool en, .bool lk, .bool ar, U shut, U all, L since, I fault] 40)) wz 40)
  have hb0 := Lib.hid (two_below w (.cells #[.bool en, .bool lk, .bool ar, U shut, U all, L since, I fault] 40) (.cells wz 40))
  clear hB
  have e1 : (fault == 0) = false := by simpa using hf
  have e2 : (fault != 0) = true := by simpa using hf
  clear hf
  go_enter Try.func31, Try.ntmps31
  go_wp2_with ((go_at_call 30; fail))
  refine (loadR_of ⟨en, lk, ar, shut, all, since, fault⟩ HH.out _ _ _ LB0.out.1 LB0.out.2 LB _).mono ?_
  rintro e w2 ⟨rfl, hb2⟩
  have D2 := hD.out.below hb2 hD.out.lt; have Z2 := hZ.out.below hb2 hZ.out.lt; have B2 := hb0.out.trans (hb2.mono hb0.out.size)
  have d20 := D2.cell 0 rfl; have d21 := D2.cell 1 rfl; have d22 := D2.cell 2 rfl; have d23 := D2.cell 3 rfl; have d24 := D2.cell 4 rfl; have d25 := D2.cell 5 rfl; have d26 := D2.cell 6 rfl
  have x20 := D2.free 0; have x21 := D2.free 1; have x22 := D2.free 2; have x23 := D2.free 3; have x24 := D2.free 4; have x25 := D2.free 5; have x26 := D2.free 6
  have z20 := Z2.cell 0 rfl; have y20 := Z2.free 0; have z21 := Z2.cell 1 rfl; have y21 := Z2.free 1; have z22 := Z2.cell 2 rfl; have y22 := Z2.free 2; have z23 := Z2.cell 3 rfl; have y23 := Z2.free 3; have z24 := Z2.cell 4 rfl; have y24 := Z2.free 4; have z25 := Z2.cell 5 rfl; have y25 := Z2.free 5; have z26 := Z2.cell 6 rfl; have y26 := Z2.free 6
  go_wp2_with fail
  all_goals
    refine bodyPost_ret (v := .tuple #[.agg #[.bool en, .bool lk, .bool ar, U shut, U all, L since, I fault], I 0]) (by simp [results, Try.results31, go_sem, z20, z21, z22, z23, z24, z25, z26]) rfl ⟨rfl, ?_⟩
    iterate 7 (refine bset ?_ (Nat.le_succ _))
    iterate 0 (refine bset ?_ (Nat.le_refl _))
    exact B2
set_option maxHeartbeats 1000000 in
theorem store_ref_fault_4 (en lk ar : Bool) (shut all since fault : Int) (hf : fault ≠ 0) (v : Int) (h : WS.Ok ⟨en, lk, ar, shut, all, since, fault⟩) (w : World) :
    Calls Try.prog 31 #[.agg #[.bool en, .bool lk, .bool ar, U shut, U all, L since, I fault], U 4, U v] w fun e w' => e = .returned (.tuple #[.agg #[.bool en, .bool lk, .bool ar, U shut, U all, L since, I fault], I 0]) ∧ Below w.heap.size w w' := by
  have LB0 : Hid (0 ≤ (4 : Int) ∧ (4 : Int) ≤ 4294967295) := Lib.hid (by decide)
  obtain ⟨lv, LB⟩ : ∃ lv, Hid (WS.loadB ⟨en, lk, ar, shut, all, since, fault⟩ 4 = (lv, 0)) := ⟨_, Lib.hid rfl⟩
  have h0 := h.h0; have h1 := h.h1; have a0 := h.a0; have a1 := h.a1; have s0 := h.s0; have s1 := h.s1
  try dsimp only at h0 h1 a0 a1 s0 s1
  have q0 : IntKind.u64.wrap shut = shut := by rw [IntKind.wrap_u64]; omega
  have HH := Lib.hid h
  clear h
  have hB := Blk.new w #[.bool en, .bool lk, .bool ar, U shut, U all, L since, I fault] 40
  have hD := Lib.hid (hB.alloc (.cells wz 40))
  have hZ : Hid (Blk ((w.alloc (.cells #[.bool en, .bool lk, .bool ar, U shut, U all, L since, I fault] 40)).alloc (.cells wz 40)) (w.heap.size + 1) wz 40) := Lib.hid (by simpa using Blk.new (w.alloc (.cells #[.bool en, .bool lk, .bool ar, U shut, U all, L since, I fault] 40)) wz 40)
  have hb0 := Lib.hid (two_below w (.cells #[.bool en, .bool lk, .bool ar, U shut, U all, L since, I fault] 40) (.cells wz 40))
  clear hB
  have e1 : (fault == 0) = false := by simpa using hf
  have e2 : (fault != 0) = true := by simpa using hf
  clear hf
  go_enter Try.func31, Try.ntmps31
  go_wp2_with ((go_at_call 30; fail))
  refine (loadR_of ⟨en, lk, ar, shut, all, since, fault⟩ HH.out _ _ _ LB0.out.1 LB0.out.2 LB _).mono ?_
  rintro e w2 ⟨rfl, hb2⟩
  have D2 := hD.out.below hb2 hD.out.lt; have Z2 := hZ.out.below hb2 hZ.out.lt; have B2 := hb0.out.trans (hb2.mono hb0.out.size)
  have d20 := D2.cell 0 rfl; have d21 := D2.cell 1 rfl; have d22 := D2.cell 2 rfl; have d23 := D2.cell 3 rfl; have d24 := D2.cell 4 rfl; have d25 := D2.cell 5 rfl; have d26 := D2.cell 6 rfl
  have x20 := D2.free 0; have x21 := D2.free 1; have x22 := D2.free 2; have x23 := D2.free 3; have x24 := D2.free 4; have x25 := D2.free 5; have x26 := D2.free 6
  have z20 := Z2.cell 0 rfl; have y20 := Z2.free 0; have z21 := Z2.cell 1 rfl; have y21 := Z2.free 1; have z22 := Z2.cell 2 rfl; have y22 := Z2.free 2; have z23 := Z2.cell 3 rfl; have y23 := Z2.free 3; have z24 := Z2.cell 4 rfl; have y24 := Z2.free 4; have z25 := Z2.cell 5 rfl; have y25 := Z2.free 5; have z26 := Z2.cell 6 rfl; have y26 := Z2.free 6
  go_wp2_with fail
  all_goals
    refine bodyPost_ret (v := .tuple #[.agg #[.bool en, .bool lk, .bool ar, U shut, U all, L since, I fault], I 0]) (by simp [results, Try.results31, go_sem, z20, z21, z22, z23, z24, z25, z26]) rfl ⟨rfl, ?_⟩
    iterate 7 (refine bset ?_ (Nat.le_succ _))
    iterate 0 (refine bset ?_ (Nat.le_refl _))
    exact B2
set_option maxHeartbeats 1000000 in
theorem store_ref_fault_8 (en lk ar : Bool) (shut all since fault : Int) (hf : fault ≠ 0) (v : Int) (h : WS.Ok ⟨en, lk, ar, shut, all, since, fault⟩) (w : World) :
    Calls Try.prog 31 #[.agg #[.bool en, .bool lk, .bool ar, U shut, U all, L since, I fault], U 8, U v] w fun e w' => e = .returned (.tuple #[.agg #[.bool en, .bool lk, .bool ar, U shut, U all, L since, I fault], I 0]) ∧ Below w.heap.size w w' := by
  have LB0 : Hid (0 ≤ (8 : Int) ∧ (8 : Int) ≤ 4294967295) := Lib.hid (by decide)
  obtain ⟨lv, LB⟩ : ∃ lv, Hid (WS.loadB ⟨en, lk, ar, shut, all, since, fault⟩ 8 = (lv, 0)) := ⟨_, Lib.hid rfl⟩
  have h0 := h.h0; have h1 := h.h1; have a0 := h.a0; have a1 := h.a1; have s0 := h.s0; have s1 := h.s1
  try dsimp only at h0 h1 a0 a1 s0 s1
  have q0 : IntKind.u64.wrap shut = shut := by rw [IntKind.wrap_u64]; omega
  have HH := Lib.hid h
  clear h
  have hB := Blk.new w #[.bool en, .bool lk, .bool ar, U shut, U all, L since, I fault] 40
  have hD := Lib.hid (hB.alloc (.cells wz 40))
  have hZ : Hid (Blk ((w.alloc (.cells #[.bool en, .bool lk, .bool ar, U shut, U all, L since, I fault] 40)).alloc (.cells wz 40)) (w.heap.size + 1) wz 40) := Lib.hid (by simpa using Blk.new (w.alloc (.cells #[.bool en, .bool lk, .bool ar, U shut, U all, L since, I fault] 40)) wz 40)
  have hb0 := Lib.hid (two_below w (.cells #[.bool en, .bool lk, .bool ar, U shut, U all, L since, I fault] 40) (.cells wz 40))
  clear hB
  have e1 : (fault == 0) = false := by simpa using hf
  have e2 : (fault != 0) = true := by simpa using hf
  clear hf
  go_enter Try.func31, Try.ntmps31
  go_wp2_with ((go_at_call 30; fail))
  refine (loadR_of ⟨en, lk, ar, shut, all, since, fault⟩ HH.out _ _ _ LB0.out.1 LB0.out.2 LB _).mono ?_
  rintro e w2 ⟨rfl, hb2⟩
  have D2 := hD.out.below hb2 hD.out.lt; have Z2 := hZ.out.below hb2 hZ.out.lt; have B2 := hb0.out.trans (hb2.mono hb0.out.size)
  have d20 := D2.cell 0 rfl; have d21 := D2.cell 1 rfl; have d22 := D2.cell 2 rfl; have d23 := D2.cell 3 rfl; have d24 := D2.cell 4 rfl; have d25 := D2.cell 5 rfl; have d26 := D2.cell 6 rfl
  have x20 := D2.free 0; have x21 := D2.free 1; have x22 := D2.free 2; have x23 := D2.free 3; have x24 := D2.free 4; have x25 := D2.free 5; have x26 := D2.free 6
  have z20 := Z2.cell 0 rfl; have y20 := Z2.free 0; have z21 := Z2.cell 1 rfl; have y21 := Z2.free 1; have z22 := Z2.cell 2 rfl; have y22 := Z2.free 2; have z23 := Z2.cell 3 rfl; have y23 := Z2.free 3; have z24 := Z2.cell 4 rfl; have y24 := Z2.free 4; have z25 := Z2.cell 5 rfl; have y25 := Z2.free 5; have z26 := Z2.cell 6 rfl; have y26 := Z2.free 6
  go_wp2_with fail
  all_goals
    refine bodyPost_ret (v := .tuple #[.agg #[.bool en, .bool lk, .bool ar, U shut, U all, L since, I fault], I 0]) (by simp [results, Try.results31, go_sem, z20, z21, z22, z23, z24, z25, z26]) rfl ⟨rfl, ?_⟩
    iterate 7 (refine bset ?_ (Nat.le_succ _))
    iterate 0 (refine bset ?_ (Nat.le_refl _))
    exact B2
set_option maxHeartbeats 1000000 in
theorem store_ref_fault_12 (en lk ar : Bool) (shut all since fault : Int) (hf : fault ≠ 0) (v : Int) (h : WS.Ok ⟨en, lk, ar, shut, all, since, fault⟩) (w : World) :
    Calls Try.prog 31 #[.agg #[.bool en, .bool lk, .bool ar, U shut, U all, L since, I fault], U 12, U v] w fun e w' => e = .returned (.tuple #[.agg #[.bool en, .bool lk, .bool ar, U shut, U all, L since, I fault], I 0]) ∧ Below w.heap.size w w' := by
  have LB0 : Hid (0 ≤ (12 : Int) ∧ (12 : Int) ≤ 4294967295) := Lib.hid (by decide)
  obtain ⟨lv, LB⟩ : ∃ lv, Hid (WS.loadB ⟨en, lk, ar, shut, all, since, fault⟩ 12 = (lv, 0)) := ⟨_, Lib.hid rfl⟩
  have h0 := h.h0; have h1 := h.h1; have a0 := h.a0; have a1 := h.a1; have s0 := h.s0; have s1 := h.s1
  try dsimp only at h0 h1 a0 a1 s0 s1
  have q0 : IntKind.u64.wrap shut = shut := by rw [IntKind.wrap_u64]; omega
  have HH := Lib.hid h
  clear h
  have hB := Blk.new w #[.bool en, .bool lk, .bool ar, U shut, U all, L since, I fault] 40
  have hD := Lib.hid (hB.alloc (.cells wz 40))
  have hZ : Hid (Blk ((w.alloc (.cells #[.bool en, .bool lk, .bool ar, U shut, U all, L since, I fault] 40)).alloc (.cells wz 40)) (w.heap.size + 1) wz 40) := Lib.hid (by simpa using Blk.new (w.alloc (.cells #[.bool en, .bool lk, .bool ar, U shut, U all, L since, I fault] 40)) wz 40)
  have hb0 := Lib.hid (two_below w (.cells #[.bool en, .bool lk, .bool ar, U shut, U all, L since, I fault] 40) (.cells wz 40))
  clear hB
  have e1 : (fault == 0) = false := by simpa using hf
  have e2 : (fault != 0) = true := by simpa using hf
  clear hf
  go_enter Try.func31, Try.ntmps31
  go_wp2_with ((go_at_call 30; fail))
  refine (loadR_of ⟨en, lk, ar, shut, all, since, fault⟩ HH.out _ _ _ LB0.out.1 LB0.out.2 LB _).mono ?_
  rintro e w2 ⟨rfl, hb2⟩
  have D2 := hD.out.below hb2 hD.out.lt; have Z2 := hZ.out.below hb2 hZ.out.lt; have B2 := hb0.out.trans (hb2.mono hb0.out.size)
  have d20 := D2.cell 0 rfl; have d21 := D2.cell 1 rfl; have d22 := D2.cell 2 rfl; have d23 := D2.cell 3 rfl; have d24 := D2.cell 4 rfl; have d25 := D2.cell 5 rfl; have d26 := D2.cell 6 rfl
  have x20 := D2.free 0; have x21 := D2.free 1; have x22 := D2.free 2; have x23 := D2.free 3; have x24 := D2.free 4; have x25 := D2.free 5; have x26 := D2.free 6
  have z20 := Z2.cell 0 rfl; have y20 := Z2.free 0; have z21 := Z2.cell 1 rfl; have y21 := Z2.free 1; have z22 := Z2.cell 2 rfl; have y22 := Z2.free 2; have z23 := Z2.cell 3 rfl; have y23 := Z2.free 3; have z24 := Z2.cell 4 rfl; have y24 := Z2.free 4; have z25 := Z2.cell 5 rfl; have y25 := Z2.free 5; have z26 := Z2.cell 6 rfl; have y26 := Z2.free 6
  go_wp2_with fail
  all_goals
    refine bodyPost_ret (v := .tuple #[.agg #[.bool en, .bool lk, .bool ar, U shut, U all, L since, I fault], I 0]) (by simp [results, Try.results31, go_sem, z20, z21, z22, z23, z24, z25, z26]) rfl ⟨rfl, ?_⟩
    iterate 7 (refine bset ?_ (Nat.le_succ _))
    iterate 0 (refine bset ?_ (Nat.le_refl _))
    exact B2
set_option maxHeartbeats 1000000 in
theorem store_ref_0_lk (en ar : Bool) (shut all since : Int) (v : Int) (v0 : 0 ≤ v) (v1 : v ≤ 4294967295) (h : WS.Ok ⟨en, true, ar, shut, all, since, 0⟩) (w : World) :
    Calls Try.prog 31 #[.agg #[.bool en, .bool true, .bool ar, U shut, U all, L since, I 0], U 0, U v] w fun e w' => e = .returned (.tuple #[.agg #[.bool en, .bool true, .bool ar, U shut, U all, L since, I 0], I 0]) ∧ Below w.heap.size w w' := by
  have LB0 : Hid (0 ≤ (0 : Int) ∧ (0 : Int) ≤ 4294967295) := Lib.hid (by decide)
  obtain ⟨lv, LB⟩ : ∃ lv, Hid (WS.loadB ⟨en, true, ar, shut, all, since, 0⟩ 0 = (lv, 0)) := ⟨_, Lib.hid rfl⟩
  have h0 := h.h0; have h1 := h.h1; have a0 := h.a0; have a1 := h.a1; have s0 := h.s0; have s1 := h.s1
  try dsimp only at h0 h1 a0 a1 s0 s1
  have q0 : IntKind.u64.wrap shut = shut := by rw [IntKind.wrap_u64]; omega
  have HH := Lib.hid h
  clear h
  have hB := Blk.new w #[.bool en, .bool true, .bool ar, U shut, U all, L since, I 0] 40
  have hD := Lib.hid (hB.alloc (.cells wz 40))
  have hZ : Hid (Blk ((w.alloc (.cells #[.bool en, .bool true, .bool ar, U shut, U all, L since, I 0] 40)).alloc (.cells wz 40)) (w.heap.size + 1) wz 40) := Lib.hid (by simpa using Blk.new (w.alloc (.cells #[.bool en, .bool true, .bool ar, U shut, U all, L since, I 0] 40)) wz 40)
  have hb0 := Lib.hid (two_below w (.cells #[.bool en, .bool true, .bool ar, U shut, U all, L since, I 0] 40) (.cells wz 40))
  clear hB
  go_enter Try.func31, Try.ntmps31
  go_wp2_with ((go_at_call 30; fail))
  refine (loadR_of ⟨en, true, ar, shut, all, since, 0⟩ HH.out _ _ _ LB0.out.1 LB0.out.2 LB _).mono ?_
  rintro e w2 ⟨rfl, hb2⟩
  have D2 := hD.out.below hb2 hD.out.lt; have Z2 := hZ.out.below hb2 hZ.out.lt; have B2 := hb0.out.trans (hb2.mono hb0.out.size)
  have d20 := D2.cell 0 rfl; have d21 := D2.cell 1 rfl; have d22 := D2.cell 2 rfl; have d23 := D2.cell 3 rfl; have d24 := D2.cell 4 rfl; have d25 := D2.cell 5 rfl; have d26 := D2.cell 6 rfl
  have x20 := D2.free 0; have x21 := D2.free 1; have x22 := D2.free 2; have x23 := D2.free 3; have x24 := D2.free 4; have x25 := D2.free 5; have x26 := D2.free 6
  have z20 := Z2.cell 0 rfl; have y20 := Z2.free 0; have z21 := Z2.cell 1 rfl; have y21 := Z2.free 1; have z22 := Z2.cell 2 rfl; have y22 := Z2.free 2; have z23 := Z2.cell 3 rfl; have y23 := Z2.free 3; have z24 := Z2.cell 4 rfl; have y24 := Z2.free 4; have z25 := Z2.cell 5 rfl; have y25 := Z2.free 5; have z26 := Z2.cell 6 rfl; have y26 := Z2.free 6
  go_wp2_with fail
  all_goals
    refine bodyPost_ret (v := .tuple #[.agg #[.bool en, .bool true, .bool ar, U shut, U all, L since, I 0], I 0]) (by simp [results, Try.results31, go_sem, z20, z21, z22, z23, z24, z25, z26]) rfl ⟨rfl, ?_⟩
    iterate 7 (refine bset ?_ (Nat.le_succ _))
    iterate 0 (refine bset ?_ (Nat.le_refl _))
    exact B2
set_option maxHeartbeats 1000000 in
theorem store_ref_0_on (ar : Bool) (shut all since g : Int) (v : Int) (v0 : 0 ≤ v) (v1 : v ≤ 4294967295) (hg : v / 2 % 2 = g) (hv : v % 2 = 1) (hlt : shut < all) (h : WS.Ok ⟨false, false, ar, shut, all, since, 0⟩) (w : World) :
    Calls Try.prog 31 #[.agg #[.bool false, .bool false, .bool ar, U shut, U all, L since, I 0], U 0, U v] w fun e w' => e = .returned (.tuple #[.agg #[.bool true, .bool (g == 1), .bool false, U shut, U all, L 0, I 0], I 0]) ∧ Below w.heap.size w w' := by
  have LB0 : Hid (0 ≤ (0 : Int) ∧ (0 : Int) ≤ 4294967295) := Lib.hid (by decide)
  obtain ⟨lv, LB⟩ : ∃ lv, Hid (WS.loadB ⟨false, false, ar, shut, all, since, 0⟩ 0 = (lv, 0)) := ⟨_, Lib.hid rfl⟩
  have h0 := h.h0; have h1 := h.h1; have a0 := h.a0; have a1 := h.a1; have s0 := h.s0; have s1 := h.s1
  try dsimp only at h0 h1 a0 a1 s0 s1
  have q0 : IntKind.u64.wrap shut = shut := by rw [IntKind.wrap_u64]; omega
  have HH := Lib.hid h
  clear h
  have hB := Blk.new w #[.bool false, .bool false, .bool ar, U shut, U all, L since, I 0] 40
  have hD := Lib.hid (hB.alloc (.cells wz 40))
  have hZ : Hid (Blk ((w.alloc (.cells #[.bool false, .bool false, .bool ar, U shut, U all, L since, I 0] 40)).alloc (.cells wz 40)) (w.heap.size + 1) wz 40) := Lib.hid (by simpa using Blk.new (w.alloc (.cells #[.bool false, .bool false, .bool ar, U shut, U all, L since, I 0] 40)) wz 40)
  have hb0 := Lib.hid (two_below w (.cells #[.bool false, .bool false, .bool ar, U shut, U all, L since, I 0] 40) (.cells wz 40))
  clear hB
  have e1 : decide (shut < all) = true := by simpa using hlt
  clear hlt
  go_enter Try.func31, Try.ntmps31
  go_wp2_with ((go_at_call 30; fail))
  refine (loadR_of ⟨false, false, ar, shut, all, since, 0⟩ HH.out _ _ _ LB0.out.1 LB0.out.2 LB _).mono ?_
  rintro e w2 ⟨rfl, hb2⟩
  have D2 := hD.out.below hb2 hD.out.lt; have Z2 := hZ.out.below hb2 hZ.out.lt; have B2 := hb0.out.trans (hb2.mono hb0.out.size)
  have d20 := D2.cell 0 rfl; have d21 := D2.cell 1 rfl; have d22 := D2.cell 2 rfl; have d23 := D2.cell 3 rfl; have d24 := D2.cell 4 rfl; have d25 := D2.cell 5 rfl; have d26 := D2.cell 6 rfl
  have x20 := D2.free 0; have x21 := D2.free 1; have x22 := D2.free 2; have x23 := D2.free 3; have x24 := D2.free 4; have x25 := D2.free 5; have x26 := D2.free 6
  have z20 := Z2.cell 0 rfl; have y20 := Z2.free 0; have z21 := Z2.cell 1 rfl; have y21 := Z2.free 1; have z22 := Z2.cell 2 rfl; have y22 := Z2.free 2; have z23 := Z2.cell 3 rfl; have y23 := Z2.free 3; have z24 := Z2.cell 4 rfl; have y24 := Z2.free 4; have z25 := Z2.cell 5 rfl; have y25 := Z2.free 5; have z26 := Z2.cell 6 rfl; have y26 := Z2.free 6
  go_wp2_with fail
  all_goals
    refine bodyPost_ret (v := .tuple #[.agg #[.bool true, .bool (g == 1), .bool false, U shut, U all, L 0, I 0], I 0]) (by simp [results, Try.results31, go_sem, z20, z21, z22, z23, z24, z25, z26]) rfl ⟨rfl, ?_⟩
    iterate 7 (refine bset ?_ (Nat.le_succ _))
    iterate 4 (refine bset ?_ (Nat.le_refl _))
    exact B2
set_option maxHeartbeats 1000000 in
theorem store_ref_0_no (ar : Bool) (shut all since g : Int) (v : Int) (v0 : 0 ≤ v) (v1 : v ≤ 4294967295) (hg : v / 2 % 2 = g) (hv : v % 2 = 1) (hlt : ¬ shut < all) (h : WS.Ok ⟨false, false, ar, shut, all, since, 0⟩) (w : World) :
    Calls Try.prog 31 #[.agg #[.bool false, .bool false, .bool ar, U shut, U all, L since, I 0], U 0, U v] w fun e w' => e = .returned (.tuple #[.agg #[.bool false, .bool (g == 1), .bool ar, U shut, U all, L since, I 0], I 0]) ∧ Below w.heap.size w w' := by
  have LB0 : Hid (0 ≤ (0 : Int) ∧ (0 : Int) ≤ 4294967295) := Lib.hid (by decide)
  obtain ⟨lv, LB⟩ : ∃ lv, Hid (WS.loadB ⟨false, false, ar, shut, all, since, 0⟩ 0 = (lv, 0)) := ⟨_, Lib.hid rfl⟩
  have h0 := h.h0; have h1 := h.h1; have a0 := h.a0; have a1 := h.a1; have s0 := h.s0; have s1 := h.s1
  try dsimp only at h0 h1 a0 a1 s0 s1
  have q0 : IntKind.u64.wrap shut = shut := by rw [IntKind.wrap_u64]; omega
  have HH := Lib.hid h
  clear h
  have hB := Blk.new w #[.bool false, .bool false, .bool ar, U shut, U all, L since, I 0] 40
  have hD := Lib.hid (hB.alloc (.cells wz 40))
  have hZ : Hid (Blk ((w.alloc (.cells #[.bool false, .bool false, .bool ar, U shut, U all, L since, I 0] 40)).alloc (.cells wz 40)) (w.heap.size + 1) wz 40) := Lib.hid (by simpa using Blk.new (w.alloc (.cells #[.bool false, .bool false, .bool ar, U shut, U all, L since, I 0] 40)) wz 40)
  have hb0 := Lib.hid (two_below w (.cells #[.bool false, .bool false, .bool ar, U shut, U all, L since, I 0] 40) (.cells wz 40))
  clear hB
  have e1 : decide (shut < all) = false := by simpa using hlt
  clear hlt
  go_enter Try.func31, Try.ntmps31
  go_wp2_with ((go_at_call 30; fail))
  refine (loadR_of ⟨false, false, ar, shut, all, since, 0⟩ HH.out _ _ _ LB0.out.1 LB0.out.2 LB _).mono ?_
  rintro e w2 ⟨rfl, hb2⟩
  have D2 := hD.out.below hb2 hD.out.lt; have Z2 := hZ.out.below hb2 hZ.out.lt; have B2 := hb0.out.trans (hb2.mono hb0.out.size)
  have d20 := D2.cell 0 rfl; have d21 := D2.cell 1 rfl; have d22 := D2.cell 2 rfl; have d23 := D2.cell 3 rfl; have d24 := D2.cell 4 rfl; have d25 := D2.cell 5 rfl; have d26 := D2.cell 6 rfl
  have x20 := D2.free 0; have x21 := D2.free 1; have x22 := D2.free 2; have x23 := D2.free 3; have x24 := D2.free 4; have x25 := D2.free 5; have x26 := D2.free 6
  have z20 := Z2.cell 0 rfl; have y20 := Z2.free 0; have z21 := Z2.cell 1 rfl; have y21 := Z2.free 1; have z22 := Z2.cell 2 rfl; have y22 := Z2.free 2; have z23 := Z2.cell 3 rfl; have y23 := Z2.free 3; have z24 := Z2.cell 4 rfl; have y24 := Z2.free 4; have z25 := Z2.cell 5 rfl; have y25 := Z2.free 5; have z26 := Z2.cell 6 rfl; have y26 := Z2.free 6
  go_wp2_with fail
  all_goals
    refine bodyPost_ret (v := .tuple #[.agg #[.bool false, .bool (g == 1), .bool ar, U shut, U all, L since, I 0], I 0]) (by simp [results, Try.results31, go_sem, z20, z21, z22, z23, z24, z25, z26]) rfl ⟨rfl, ?_⟩
    iterate 7 (refine bset ?_ (Nat.le_succ _))
    iterate 1 (refine bset ?_ (Nat.le_refl _))
    exact B2
set_option maxHeartbeats 1000000 in
theorem store_ref_0_off (ar : Bool) (shut all since g : Int) (v : Int) (v0 : 0 ≤ v) (v1 : v ≤ 4294967295) (hg : v / 2 % 2 = g) (hv : v % 2 = 0) (h : WS.Ok ⟨false, false, ar, shut, all, since, 0⟩) (w : World) :
    Calls Try.prog 31 #[.agg #[.bool false, .bool false, .bool ar, U shut, U all, L since, I 0], U 0, U v] w fun e w' => e = .returned (.tuple #[.agg #[.bool false, .bool (g == 1), .bool ar, U shut, U all, L since, I 0], I 0]) ∧ Below w.heap.size w w' := by
  have LB0 : Hid (0 ≤ (0 : Int) ∧ (0 : Int) ≤ 4294967295) := Lib.hid (by decide)
  obtain ⟨lv, LB⟩ : ∃ lv, Hid (WS.loadB ⟨false, false, ar, shut, all, since, 0⟩ 0 = (lv, 0)) := ⟨_, Lib.hid rfl⟩
  have h0 := h.h0; have h1 := h.h1; have a0 := h.a0; have a1 := h.a1; have s0 := h.s0; have s1 := h.s1
  try dsimp only at h0 h1 a0 a1 s0 s1
  have q0 : IntKind.u64.wrap shut = shut := by rw [IntKind.wrap_u64]; omega
  have HH := Lib.hid h
  clear h
  have hB := Blk.new w #[.bool false, .bool false, .bool ar, U shut, U all, L since, I 0] 40
  have hD := Lib.hid (hB.alloc (.cells wz 40))
  have hZ : Hid (Blk ((w.alloc (.cells #[.bool false, .bool false, .bool ar, U shut, U all, L since, I 0] 40)).alloc (.cells wz 40)) (w.heap.size + 1) wz 40) := Lib.hid (by simpa using Blk.new (w.alloc (.cells #[.bool false, .bool false, .bool ar, U shut, U all, L since, I 0] 40)) wz 40)
  have hb0 := Lib.hid (two_below w (.cells #[.bool false, .bool false, .bool ar, U shut, U all, L since, I 0] 40) (.cells wz 40))
  clear hB
  go_enter Try.func31, Try.ntmps31
  go_wp2_with ((go_at_call 30; fail))
  refine (loadR_of ⟨false, false, ar, shut, all, since, 0⟩ HH.out _ _ _ LB0.out.1 LB0.out.2 LB _).mono ?_
  rintro e w2 ⟨rfl, hb2⟩
  have D2 := hD.out.below hb2 hD.out.lt; have Z2 := hZ.out.below hb2 hZ.out.lt; have B2 := hb0.out.trans (hb2.mono hb0.out.size)
  have d20 := D2.cell 0 rfl; have d21 := D2.cell 1 rfl; have d22 := D2.cell 2 rfl; have d23 := D2.cell 3 rfl; have d24 := D2.cell 4 rfl; have d25 := D2.cell 5 rfl; have d26 := D2.cell 6 rfl
  have x20 := D2.free 0; have x21 := D2.free 1; have x22 := D2.free 2; have x23 := D2.free 3; have x24 := D2.free 4; have x25 := D2.free 5; have x26 := D2.free 6
  have z20 := Z2.cell 0 rfl; have y20 := Z2.free 0; have z21 := Z2.cell 1 rfl; have y21 := Z2.free 1; have z22 := Z2.cell 2 rfl; have y22 := Z2.free 2; have z23 := Z2.cell 3 rfl; have y23 := Z2.free 3; have z24 := Z2.cell 4 rfl; have y24 := Z2.free 4; have z25 := Z2.cell 5 rfl; have y25 := Z2.free 5; have z26 := Z2.cell 6 rfl; have y26 := Z2.free 6
  go_wp2_with fail
  all_goals
    refine bodyPost_ret (v := .tuple #[.agg #[.bool false, .bool (g == 1), .bool ar, U shut, U all, L since, I 0], I 0]) (by simp [results, Try.results31, go_sem, z20, z21, z22, z23, z24, z25, z26]) rfl ⟨rfl, ?_⟩
    iterate 7 (refine bset ?_ (Nat.le_succ _))
    iterate 1 (refine bset ?_ (Nat.le_refl _))
    exact B2
set_option maxHeartbeats 1000000 in
theorem store_ref_0_stop (ar : Bool) (shut all since g : Int) (v : Int) (v0 : 0 ≤ v) (v1 : v ≤ 4294967295) (hg : v / 2 % 2 = g) (hv : v % 2 = 0) (h : WS.Ok ⟨true, false, ar, shut, all, since, 0⟩) (w : World) :
    Calls Try.prog 31 #[.agg #[.bool true, .bool false, .bool ar, U shut, U all, L since, I 0], U 0, U v] w fun e w' => e = .returned (.tuple #[.agg #[.bool false, .bool (g == 1), .bool false, U shut, U all, L 0, I 0], I 0]) ∧ Below w.heap.size w w' := by
  have LB0 : Hid (0 ≤ (0 : Int) ∧ (0 : Int) ≤ 4294967295) := Lib.hid (by decide)
  obtain ⟨lv, LB⟩ : ∃ lv, Hid (WS.loadB ⟨true, false, ar, shut, all, since, 0⟩ 0 = (lv, 0)) := ⟨_, Lib.hid rfl⟩
  have h0 := h.h0; have h1 := h.h1; have a0 := h.a0; have a1 := h.a1; have s0 := h.s0; have s1 := h.s1
  try dsimp only at h0 h1 a0 a1 s0 s1
  have q0 : IntKind.u64.wrap shut = shut := by rw [IntKind.wrap_u64]; omega
  have HH := Lib.hid h
  clear h
  have hB := Blk.new w #[.bool true, .bool false, .bool ar, U shut, U all, L since, I 0] 40
  have hD := Lib.hid (hB.alloc (.cells wz 40))
  have hZ : Hid (Blk ((w.alloc (.cells #[.bool true, .bool false, .bool ar, U shut, U all, L since, I 0] 40)).alloc (.cells wz 40)) (w.heap.size + 1) wz 40) := Lib.hid (by simpa using Blk.new (w.alloc (.cells #[.bool true, .bool false, .bool ar, U shut, U all, L since, I 0] 40)) wz 40)
  have hb0 := Lib.hid (two_below w (.cells #[.bool true, .bool false, .bool ar, U shut, U all, L since, I 0] 40) (.cells wz 40))
  clear hB
  go_enter Try.func31, Try.ntmps31
  go_wp2_with ((go_at_call 30; fail))
  refine (loadR_of ⟨true, false, ar, shut, all, since, 0⟩ HH.out _ _ _ LB0.out.1 LB0.out.2 LB _).mono ?_
  rintro e w2 ⟨rfl, hb2⟩
  have D2 := hD.out.below hb2 hD.out.lt; have Z2 := hZ.out.below hb2 hZ.out.lt; have B2 := hb0.out.trans (hb2.mono hb0.out.size)
  have d20 := D2.cell 0 rfl; have d21 := D2.cell 1 rfl; have d22 := D2.cell 2 rfl; have d23 := D2.cell 3 rfl; have d24 := D2.cell 4 rfl; have d25 := D2.cell 5 rfl; have d26 := D2.cell 6 rfl
  have x20 := D2.free 0; have x21 := D2.free 1; have x22 := D2.free 2; have x23 := D2.free 3; have x24 := D2.free 4; have x25 := D2.free 5; have x26 := D2.free 6
  have z20 := Z2.cell 0 rfl; have y20 := Z2.free 0; have z21 := Z2.cell 1 rfl; have y21 := Z2.free 1; have z22 := Z2.cell 2 rfl; have y22 := Z2.free 2; have z23 := Z2.cell 3 rfl; have y23 := Z2.free 3; have z24 := Z2.cell 4 rfl; have y24 := Z2.free 4; have z25 := Z2.cell 5 rfl; have y25 := Z2.free 5; have z26 := Z2.cell 6 rfl; have y26 := Z2.free 6
  go_wp2_with fail
  all_goals
    refine bodyPost_ret (v := .tuple #[.agg #[.bool false, .bool (g == 1), .bool false, U shut, U all, L 0, I 0], I 0]) (by simp [results, Try.results31, go_sem, z20, z21, z22, z23, z24, z25, z26]) rfl ⟨rfl, ?_⟩
    iterate 7 (refine bset ?_ (Nat.le_succ _))
    iterate 4 (refine bset ?_ (Nat.le_refl _))
    exact B2
set_option maxHeartbeats 1000000 in
theorem store_ref_0_stay (ar : Bool) (shut all since g : Int) (v : Int) (v0 : 0 ≤ v) (v1 : v ≤ 4294967295) (hg : v / 2 % 2 = g) (hv : v % 2 = 1) (h : WS.Ok ⟨true, false, ar, shut, all, since, 0⟩) (w : World) :
    Calls Try.prog 31 #[.agg #[.bool true, .bool false, .bool ar, U shut, U all, L since, I 0], U 0, U v] w fun e w' => e = .returned (.tuple #[.agg #[.bool true, .bool (g == 1), .bool ar, U shut, U all, L since, I 0], I 0]) ∧ Below w.heap.size w w' := by
  have LB0 : Hid (0 ≤ (0 : Int) ∧ (0 : Int) ≤ 4294967295) := Lib.hid (by decide)
  obtain ⟨lv, LB⟩ : ∃ lv, Hid (WS.loadB ⟨true, false, ar, shut, all, since, 0⟩ 0 = (lv, 0)) := ⟨_, Lib.hid rfl⟩
  have h0 := h.h0; have h1 := h.h1; have a0 := h.a0; have a1 := h.a1; have s0 := h.s0; have s1 := h.s1
  try dsimp only at h0 h1 a0 a1 s0 s1
  have q0 : IntKind.u64.wrap shut = shut := by rw [IntKind.wrap_u64]; omega
  have HH := Lib.hid h
  clear h
  have hB := Blk.new w #[.bool true, .bool false, .bool ar, U shut, U all, L since, I 0] 40
  have hD := Lib.hid (hB.alloc (.cells wz 40))
  have hZ : Hid (Blk ((w.alloc (.cells #[.bool true, .bool false, .bool ar, U shut, U all, L since, I 0] 40)).alloc (.cells wz 40)) (w.heap.size + 1) wz 40) := Lib.hid (by simpa using Blk.new (w.alloc (.cells #[.bool true, .bool false, .bool ar, U shut, U all, L since, I 0] 40)) wz 40)
  have hb0 := Lib.hid (two_below w (.cells #[.bool true, .bool false, .bool ar, U shut, U all, L since, I 0] 40) (.cells wz 40))
  clear hB
  go_enter Try.func31, Try.ntmps31
  go_wp2_with ((go_at_call 30; fail))
  refine (loadR_of ⟨true, false, ar, shut, all, since, 0⟩ HH.out _ _ _ LB0.out.1 LB0.out.2 LB _).mono ?_
  rintro e w2 ⟨rfl, hb2⟩
  have D2 := hD.out.below hb2 hD.out.lt; have Z2 := hZ.out.below hb2 hZ.out.lt; have B2 := hb0.out.trans (hb2.mono hb0.out.size)
  have d20 := D2.cell 0 rfl; have d21 := D2.cell 1 rfl; have d22 := D2.cell 2 rfl; have d23 := D2.cell 3 rfl; have d24 := D2.cell 4 rfl; have d25 := D2.cell 5 rfl; have d26 := D2.cell 6 rfl
  have x20 := D2.free 0; have x21 := D2.free 1; have x22 := D2.free 2; have x23 := D2.free 3; have x24 := D2.free 4; have x25 := D2.free 5; have x26 := D2.free 6
  have z20 := Z2.cell 0 rfl; have y20 := Z2.free 0; have z21 := Z2.cell 1 rfl; have y21 := Z2.free 1; have z22 := Z2.cell 2 rfl; have y22 := Z2.free 2; have z23 := Z2.cell 3 rfl; have y23 := Z2.free 3; have z24 := Z2.cell 4 rfl; have y24 := Z2.free 4; have z25 := Z2.cell 5 rfl; have y25 := Z2.free 5; have z26 := Z2.cell 6 rfl; have y26 := Z2.free 6
  go_wp2_with fail
  all_goals
    refine bodyPost_ret (v := .tuple #[.agg #[.bool true, .bool (g == 1), .bool ar, U shut, U all, L since, I 0], I 0]) (by simp [results, Try.results31, go_sem, z20, z21, z22, z23, z24, z25, z26]) rfl ⟨rfl, ?_⟩
    iterate 7 (refine bset ?_ (Nat.le_succ _))
    iterate 1 (refine bset ?_ (Nat.le_refl _))
    exact B2
set_option maxHeartbeats 1000000 in
theorem store_ref_4_open (ar : Bool) (shut all since : Int) (v : Int) (v0 : 0 ≤ v) (v1 : v ≤ 4294967295) (h : WS.Ok ⟨false, false, ar, shut, all, since, 0⟩) (w : World) :
    Calls Try.prog 31 #[.agg #[.bool false, .bool false, .bool ar, U shut, U all, L since, I 0], U 4, U v] w fun e w' => e = .returned (.tuple #[.agg #[.bool false, .bool false, .bool ar, U v, U all, L since, I 0], I 0]) ∧ Below w.heap.size w w' := by
  have LB0 : Hid (0 ≤ (4 : Int) ∧ (4 : Int) ≤ 4294967295) := Lib.hid (by decide)
  obtain ⟨lv, LB⟩ : ∃ lv, Hid (WS.loadB ⟨false, false, ar, shut, all, since, 0⟩ 4 = (lv, 0)) := ⟨_, Lib.hid rfl⟩
  have h0 := h.h0; have h1 := h.h1; have a0 := h.a0; have a1 := h.a1; have s0 := h.s0; have s1 := h.s1
  try dsimp only at h0 h1 a0 a1 s0 s1
  have q0 : IntKind.u64.wrap shut = shut := by rw [IntKind.wrap_u64]; omega
  have HH := Lib.hid h
  clear h
  have hB := Blk.new w #[.bool false, .bool false, .bool ar, U shut, U all, L since, I 0] 40
  have hD := Lib.hid (hB.alloc (.cells wz 40))
  have hZ : Hid (Blk ((w.alloc (.cells #[.bool false, .bool false, .bool ar, U shut, U all, L since, I 0] 40)).alloc (.cells wz 40)) (w.heap.size + 1) wz 40) := Lib.hid (by simpa using Blk.new (w.alloc (.cells #[.bool false, .bool false, .bool ar, U shut, U all, L since, I 0] 40)) wz 40)
  have hb0 := Lib.hid (two_below w (.cells #[.bool false, .bool false, .bool ar, U shut, U all, L since, I 0] 40) (.cells wz 40))
  clear hB
  go_enter Try.func31, Try.ntmps31
  go_wp2_with ((go_at_call 30; fail))
  refine (loadR_of ⟨false, false, ar, shut, all, since, 0⟩ HH.out _ _ _ LB0.out.1 LB0.out.2 LB _).mono ?_
  rintro e w2 ⟨rfl, hb2⟩
  have D2 := hD.out.below hb2 hD.out.lt; have Z2 := hZ.out.below hb2 hZ.out.lt; have B2 := hb0.out.trans (hb2.mono hb0.out.size)
  have d20 := D2.cell 0 rfl; have d21 := D2.cell 1 rfl; have d22 := D2.cell 2 rfl; have d23 := D2.cell 3 rfl; have d24 := D2.cell 4 rfl; have d25 := D2.cell 5 rfl; have d26 := D2.cell 6 rfl
  have x20 := D2.free 0; have x21 := D2.free 1; have x22 := D2.free 2; have x23 := D2.free 3; have x24 := D2.free 4; have x25 := D2.free 5; have x26 := D2.free 6
  have z20 := Z2.cell 0 rfl; have y20 := Z2.free 0; have z21 := Z2.cell 1 rfl; have y21 := Z2.free 1; have z22 := Z2.cell 2 rfl; have y22 := Z2.free 2; have z23 := Z2.cell 3 rfl; have y23 := Z2.free 3; have z24 := Z2.cell 4 rfl; have y24 := Z2.free 4; have z25 := Z2.cell 5 rfl; have y25 := Z2.free 5; have z26 := Z2.cell 6 rfl; have y26 := Z2.free 6
  go_wp2_with fail
  all_goals
    refine bodyPost_ret (v := .tuple #[.agg #[.bool false, .bool false, .bool ar, U v, U all, L since, I 0], I 0]) (by simp [results, Try.results31, go_sem, z20, z21, z22, z23, z24, z25, z26]) rfl ⟨rfl, ?_⟩
    iterate 7 (refine bset ?_ (Nat.le_succ _))
    iterate 1 (refine bset ?_ (Nat.le_refl _))
    exact B2
set_option maxHeartbeats 1000000 in
theorem store_ref_4_tt (ar : Bool) (shut all since : Int) (v : Int) (v0 : 0 ≤ v) (v1 : v ≤ 4294967295) (h : WS.Ok ⟨true, true, ar, shut, all, since, 0⟩) (w : World) :
    Calls Try.prog 31 #[.agg #[.bool true, .bool true, .bool ar, U shut, U all, L since, I 0], U 4, U v] w fun e w' => e = .returned (.tuple #[.agg #[.bool true, .bool true, .bool ar, U shut, U all, L since, I 0], I 0]) ∧ Below w.heap.size w w' := by
  have LB0 : Hid (0 ≤ (4 : Int) ∧ (4 : Int) ≤ 4294967295) := Lib.hid (by decide)
  obtain ⟨lv, LB⟩ : ∃ lv, Hid (WS.loadB ⟨true, true, ar, shut, all, since, 0⟩ 4 = (lv, 0)) := ⟨_, Lib.hid rfl⟩
  have h0 := h.h0; have h1 := h.h1; have a0 := h.a0; have a1 := h.a1; have s0 := h.s0; have s1 := h.s1
  try dsimp only at h0 h1 a0 a1 s0 s1
  have q0 : IntKind.u64.wrap shut = shut := by rw [IntKind.wrap_u64]; omega
  have HH := Lib.hid h
  clear h
  have hB := Blk.new w #[.bool true, .bool true, .bool ar, U shut, U all, L since, I 0] 40
  have hD := Lib.hid (hB.alloc (.cells wz 40))
  have hZ : Hid (Blk ((w.alloc (.cells #[.bool true, .bool true, .bool ar, U shut, U all, L since, I 0] 40)).alloc (.cells wz 40)) (w.heap.size + 1) wz 40) := Lib.hid (by simpa using Blk.new (w.alloc (.cells #[.bool true, .bool true, .bool ar, U shut, U all, L since, I 0] 40)) wz 40)
  have hb0 := Lib.hid (two_below w (.cells #[.bool true, .bool true, .bool ar, U shut, U all, L since, I 0] 40) (.cells wz 40))
  clear hB
  go_enter Try.func31, Try.ntmps31
  go_wp2_with ((go_at_call 30; fail))
  refine (loadR_of ⟨true, true, ar, shut, all, since, 0⟩ HH.out _ _ _ LB0.out.1 LB0.out.2 LB _).mono ?_
  rintro e w2 ⟨rfl, hb2⟩
  have D2 := hD.out.below hb2 hD.out.lt; have Z2 := hZ.out.below hb2 hZ.out.lt; have B2 := hb0.out.trans (hb2.mono hb0.out.size)
  have d20 := D2.cell 0 rfl; have d21 := D2.cell 1 rfl; have d22 := D2.cell 2 rfl; have d23 := D2.cell 3 rfl; have d24 := D2.cell 4 rfl; have d25 := D2.cell 5 rfl; have d26 := D2.cell 6 rfl
  have x20 := D2.free 0; have x21 := D2.free 1; have x22 := D2.free 2; have x23 := D2.free 3; have x24 := D2.free 4; have x25 := D2.free 5; have x26 := D2.free 6
  have z20 := Z2.cell 0 rfl; have y20 := Z2.free 0; have z21 := Z2.cell 1 rfl; have y21 := Z2.free 1; have z22 := Z2.cell 2 rfl; have y22 := Z2.free 2; have z23 := Z2.cell 3 rfl; have y23 := Z2.free 3; have z24 := Z2.cell 4 rfl; have y24 := Z2.free 4; have z25 := Z2.cell 5 rfl; have y25 := Z2.free 5; have z26 := Z2.cell 6 rfl; have y26 := Z2.free 6
  go_wp2_with fail
  all_goals
    refine bodyPost_ret (v := .tuple #[.agg #[.bool true, .bool true, .bool ar, U shut, U all, L since, I 0], I 0]) (by simp [results, Try.results31, go_sem, z20, z21, z22, z23, z24, z25, z26]) rfl ⟨rfl, ?_⟩
    iterate 7 (refine bset ?_ (Nat.le_succ _))
    iterate 0 (refine bset ?_ (Nat.le_refl _))
    exact B2
set_option maxHeartbeats 1000000 in
theorem store_ref_4_tf (ar : Bool) (shut all since : Int) (v : Int) (v0 : 0 ≤ v) (v1 : v ≤ 4294967295) (h : WS.Ok ⟨true, false, ar, shut, all, since, 0⟩) (w : World) :
    Calls Try.prog 31 #[.agg #[.bool true, .bool false, .bool ar, U shut, U all, L since, I 0], U 4, U v] w fun e w' => e = .returned (.tuple #[.agg #[.bool true, .bool false, .bool ar, U shut, U all, L since, I 0], I 0]) ∧ Below w.heap.size w w' := by
  have LB0 : Hid (0 ≤ (4 : Int) ∧ (4 : Int) ≤ 4294967295) := Lib.hid (by decide)
  obtain ⟨lv, LB⟩ : ∃ lv, Hid (WS.loadB ⟨true, false, ar, shut, all, since, 0⟩ 4 = (lv, 0)) := ⟨_, Lib.hid rfl⟩
  have h0 := h.h0; have h1 := h.h1; have a0 := h.a0; have a1 := h.a1; have s0 := h.s0; have s1 := h.s1
  try dsimp only at h0 h1 a0 a1 s0 s1
  have q0 : IntKind.u64.wrap shut = shut := by rw [IntKind.wrap_u64]; omega
  have HH := Lib.hid h
  clear h
  have hB := Blk.new w #[.bool true, .bool false, .bool ar, U shut, U all, L since, I 0] 40
  have hD := Lib.hid (hB.alloc (.cells wz 40))
  have hZ : Hid (Blk ((w.alloc (.cells #[.bool true, .bool false, .bool ar, U shut, U all, L since, I 0] 40)).alloc (.cells wz 40)) (w.heap.size + 1) wz 40) := Lib.hid (by simpa using Blk.new (w.alloc (.cells #[.bool true, .bool false, .bool ar, U shut, U all, L since, I 0] 40)) wz 40)
  have hb0 := Lib.hid (two_below w (.cells #[.bool true, .bool false, .bool ar, U shut, U all, L since, I 0] 40) (.cells wz 40))
  clear hB
  go_enter Try.func31, Try.ntmps31
  go_wp2_with ((go_at_call 30; fail))
  refine (loadR_of ⟨true, false, ar, shut, all, since, 0⟩ HH.out _ _ _ LB0.out.1 LB0.out.2 LB _).mono ?_
  rintro e w2 ⟨rfl, hb2⟩
  have D2 := hD.out.below hb2 hD.out.lt; have Z2 := hZ.out.below hb2 hZ.out.lt; have B2 := hb0.out.trans (hb2.mono hb0.out.size)
  have d20 := D2.cell 0 rfl; have d21 := D2.cell 1 rfl; have d22 := D2.cell 2 rfl; have d23 := D2.cell 3 rfl; have d24 := D2.cell 4 rfl; have d25 := D2.cell 5 rfl; have d26 := D2.cell 6 rfl
  have x20 := D2.free 0; have x21 := D2.free 1; have x22 := D2.free 2; have x23 := D2.free 3; have x24 := D2.free 4; have x25 := D2.free 5; have x26 := D2.free 6
  have z20 := Z2.cell 0 rfl; have y20 := Z2.free 0; have z21 := Z2.cell 1 rfl; have y21 := Z2.free 1; have z22 := Z2.cell 2 rfl; have y22 := Z2.free 2; have z23 := Z2.cell 3 rfl; have y23 := Z2.free 3; have z24 := Z2.cell 4 rfl; have y24 := Z2.free 4; have z25 := Z2.cell 5 rfl; have y25 := Z2.free 5; have z26 := Z2.cell 6 rfl; have y26 := Z2.free 6
  go_wp2_with fail
  all_goals
    refine bodyPost_ret (v := .tuple #[.agg #[.bool true, .bool false, .bool ar, U shut, U all, L since, I 0], I 0]) (by simp [results, Try.results31, go_sem, z20, z21, z22, z23, z24, z25, z26]) rfl ⟨rfl, ?_⟩
    iterate 7 (refine bset ?_ (Nat.le_succ _))
    iterate 0 (refine bset ?_ (Nat.le_refl _))
    exact B2
set_option maxHeartbeats 1000000 in
theorem store_ref_4_ft (ar : Bool) (shut all since : Int) (v : Int) (v0 : 0 ≤ v) (v1 : v ≤ 4294967295) (h : WS.Ok ⟨false, true, ar, shut, all, since, 0⟩) (w : World) :
    Calls Try.prog 31 #[.agg #[.bool false, .bool true, .bool ar, U shut, U all, L since, I 0], U 4, U v] w fun e w' => e = .returned (.tuple #[.agg #[.bool false, .bool true, .bool ar, U shut, U all, L since, I 0], I 0]) ∧ Below w.heap.size w w' := by
  have LB0 : Hid (0 ≤ (4 : Int) ∧ (4 : Int) ≤ 4294967295) := Lib.hid (by decide)
  obtain ⟨lv, LB⟩ : ∃ lv, Hid (WS.loadB ⟨false, true, ar, shut, all, since, 0⟩ 4 = (lv, 0)) := ⟨_, Lib.hid rfl⟩
  have h0 := h.h0; have h1 := h.h1; have a0 := h.a0; have a1 := h.a1; have s0 := h.s0; have s1 := h.s1
  try dsimp only at h0 h1 a0 a1 s0 s1
  have q0 : IntKind.u64.wrap shut = shut := by rw [IntKind.wrap_u64]; omega
  have HH := Lib.hid h
  clear h
  have hB := Blk.new w #[.bool false, .bool true, .bool ar, U shut, U all, L since, I 0] 40
  have hD := Lib.hid (hB.alloc (.cells wz 40))
  have hZ : Hid (Blk ((w.alloc (.cells #[.bool false, .bool true, .bool ar, U shut, U all, L since, I 0] 40)).alloc (.cells wz 40)) (w.heap.size + 1) wz 40) := Lib.hid (by simpa using Blk.new (w.alloc (.cells #[.bool false, .bool true, .bool ar, U shut, U all, L since, I 0] 40)) wz 40)
  have hb0 := Lib.hid (two_below w (.cells #[.bool false, .bool true, .bool ar, U shut, U all, L since, I 0] 40) (.cells wz 40))
  clear hB
  go_enter Try.func31, Try.ntmps31
  go_wp2_with ((go_at_call 30; fail))
  refine (loadR_of ⟨false, true, ar, shut, all, since, 0⟩ HH.out _ _ _ LB0.out.1 LB0.out.2 LB _).mono ?_
  rintro e w2 ⟨rfl, hb2⟩
  have D2 := hD.out.below hb2 hD.out.lt; have Z2 := hZ.out.below hb2 hZ.out.lt; have B2 := hb0.out.trans (hb2.mono hb0.out.size)
  have d20 := D2.cell 0 rfl; have d21 := D2.cell 1 rfl; have d22 := D2.cell 2 rfl; have d23 := D2.cell 3 rfl; have d24 := D2.cell 4 rfl; have d25 := D2.cell 5 rfl; have d26 := D2.cell 6 rfl
  have x20 := D2.free 0; have x21 := D2.free 1; have x22 := D2.free 2; have x23 := D2.free 3; have x24 := D2.free 4; have x25 := D2.free 5; have x26 := D2.free 6
  have z20 := Z2.cell 0 rfl; have y20 := Z2.free 0; have z21 := Z2.cell 1 rfl; have y21 := Z2.free 1; have z22 := Z2.cell 2 rfl; have y22 := Z2.free 2; have z23 := Z2.cell 3 rfl; have y23 := Z2.free 3; have z24 := Z2.cell 4 rfl; have y24 := Z2.free 4; have z25 := Z2.cell 5 rfl; have y25 := Z2.free 5; have z26 := Z2.cell 6 rfl; have y26 := Z2.free 6
  go_wp2_with fail
  all_goals
    refine bodyPost_ret (v := .tuple #[.agg #[.bool false, .bool true, .bool ar, U shut, U all, L since, I 0], I 0]) (by simp [results, Try.results31, go_sem, z20, z21, z22, z23, z24, z25, z26]) rfl ⟨rfl, ?_⟩
    iterate 7 (refine bset ?_ (Nat.le_succ _))
    iterate 0 (refine bset ?_ (Nat.le_refl _))
    exact B2
set_option maxHeartbeats 1000000 in
theorem store_ref_8_open (ar : Bool) (shut all since : Int) (v : Int) (v0 : 0 ≤ v) (v1 : v ≤ 4294967295) (h : WS.Ok ⟨false, false, ar, shut, all, since, 0⟩) (w : World) :
    Calls Try.prog 31 #[.agg #[.bool false, .bool false, .bool ar, U shut, U all, L since, I 0], U 8, U v] w fun e w' => e = .returned (.tuple #[.agg #[.bool false, .bool false, .bool ar, U shut, U v, L since, I 0], I 0]) ∧ Below w.heap.size w w' := by
  have LB0 : Hid (0 ≤ (8 : Int) ∧ (8 : Int) ≤ 4294967295) := Lib.hid (by decide)
  obtain ⟨lv, LB⟩ : ∃ lv, Hid (WS.loadB ⟨false, false, ar, shut, all, since, 0⟩ 8 = (lv, 0)) := ⟨_, Lib.hid rfl⟩
  have h0 := h.h0; have h1 := h.h1; have a0 := h.a0; have a1 := h.a1; have s0 := h.s0; have s1 := h.s1
  try dsimp only at h0 h1 a0 a1 s0 s1
  have q0 : IntKind.u64.wrap shut = shut := by rw [IntKind.wrap_u64]; omega
  have HH := Lib.hid h
  clear h
  have hB := Blk.new w #[.bool false, .bool false, .bool ar, U shut, U all, L since, I 0] 40
  have hD := Lib.hid (hB.alloc (.cells wz 40))
  have hZ : Hid (Blk ((w.alloc (.cells #[.bool false, .bool false, .bool ar, U shut, U all, L since, I 0] 40)).alloc (.cells wz 40)) (w.heap.size + 1) wz 40) := Lib.hid (by simpa using Blk.new (w.alloc (.cells #[.bool false, .bool false, .bool ar, U shut, U all, L since, I 0] 40)) wz 40)
  have hb0 := Lib.hid (two_below w (.cells #[.bool false, .bool false, .bool ar, U shut, U all, L since, I 0] 40) (.cells wz 40))
  clear hB
  go_enter Try.func31, Try.ntmps31
  go_wp2_with ((go_at_call 30; fail))
  refine (loadR_of ⟨false, false, ar, shut, all, since, 0⟩ HH.out _ _ _ LB0.out.1 LB0.out.2 LB _).mono ?_
  rintro e w2 ⟨rfl, hb2⟩
  have D2 := hD.out.below hb2 hD.out.lt; have Z2 := hZ.out.below hb2 hZ.out.lt; have B2 := hb0.out.trans (hb2.mono hb0.out.size)
  have d20 := D2.cell 0 rfl; have d21 := D2.cell 1 rfl; have d22 := D2.cell 2 rfl; have d23 := D2.cell 3 rfl; have d24 := D2.cell 4 rfl; have d25 := D2.cell 5 rfl; have d26 := D2.cell 6 rfl
  have x20 := D2.free 0; have x21 := D2.free 1; have x22 := D2.free 2; have x23 := D2.free 3; have x24 := D2.free 4; have x25 := D2.free 5; have x26 := D2.free 6
  have z20 := Z2.cell 0 rfl; have y20 := Z2.free 0; have z21 := Z2.cell 1 rfl; have y21 := Z2.free 1; have z22 := Z2.cell 2 rfl; have y22 := Z2.free 2; have z23 := Z2.cell 3 rfl; have y23 := Z2.free 3; have z24 := Z2.cell 4 rfl; have y24 := Z2.free 4; have z25 := Z2.cell 5 rfl; have y25 := Z2.free 5; have z26 := Z2.cell 6 rfl; have y26 := Z2.free 6
  go_wp2_with fail
  all_goals
    refine bodyPost_ret (v := .tuple #[.agg #[.bool false, .bool false, .bool ar, U shut, U v, L since, I 0], I 0]) (by simp [results, Try.results31, go_sem, z20, z21, z22, z23, z24, z25, z26]) rfl ⟨rfl, ?_⟩
    iterate 7 (refine bset ?_ (Nat.le_succ _))
    iterate 1 (refine bset ?_ (Nat.le_refl _))
    exact B2
set_option maxHeartbeats 1000000 in
theorem store_ref_8_tt (ar : Bool) (shut all since : Int) (v : Int) (v0 : 0 ≤ v) (v1 : v ≤ 4294967295) (h : WS.Ok ⟨true, true, ar, shut, all, since, 0⟩) (w : World) :
    Calls Try.prog 31 #[.agg #[.bool true, .bool true, .bool ar, U shut, U all, L since, I 0], U 8, U v] w fun e w' => e = .returned (.tuple #[.agg #[.bool true, .bool true, .bool ar, U shut, U all, L since, I 0], I 0]) ∧ Below w.heap.size w w' := by
  have LB0 : Hid (0 ≤ (8 : Int) ∧ (8 : Int) ≤ 4294967295) := Lib.hid (by decide)
  obtain ⟨lv, LB⟩ : ∃ lv, Hid (WS.loadB ⟨true, true, ar, shut, all, since, 0⟩ 8 = (lv, 0)) := ⟨_, Lib.hid rfl⟩
  have h0 := h.h0; have h1 := h.h1; have a0 := h.a0; have a1 := h.a1; have s0 := h.s0; have s1 := h.s1
  try dsimp only at h0 h1 a0 a1 s0 s1
  have q0 : IntKind.u64.wrap shut = shut := by rw [IntKind.wrap_u64]; omega
  have HH := Lib.hid h
  clear h
  have hB := Blk.new w #[.bool true, .bool true, .bool ar, U shut, U all, L since, I 0] 40
  have hD := Lib.hid (hB.alloc (.cells wz 40))
  have hZ : Hid (Blk ((w.alloc (.cells #[.bool true, .bool true, .bool ar, U shut, U all, L since, I 0] 40)).alloc (.cells wz 40)) (w.heap.size + 1) wz 40) := Lib.hid (by simpa using Blk.new (w.alloc (.cells #[.bool true, .bool true, .bool ar, U shut, U all, L since, I 0] 40)) wz 40)
  have hb0 := Lib.hid (two_below w (.cells #[.bool true, .bool true, .bool ar, U shut, U all, L since, I 0] 40) (.cells wz 40))
  clear hB
  go_enter Try.func31, Try.ntmps31
  go_wp2_with ((go_at_call 30; fail))
  refine (loadR_of ⟨true, true, ar, shut, all, since, 0⟩ HH.out _ _ _ LB0.out.1 LB0.out.2 LB _).mono ?_
  rintro e w2 ⟨rfl, hb2⟩
  have D2 := hD.out.below hb2 hD.out.lt; have Z2 := hZ.out.below hb2 hZ.out.lt; have B2 := hb0.out.trans (hb2.mono hb0.out.size)
  have d20 := D2.cell 0 rfl; have d21 := D2.cell 1 rfl; have d22 := D2.cell 2 rfl; have d23 := D2.cell 3 rfl; have d24 := D2.cell 4 rfl; have d25 := D2.cell 5 rfl; have d26 := D2.cell 6 rfl
  have x20 := D2.free 0; have x21 := D2.free 1; have x22 := D2.free 2; have x23 := D2.free 3; have x24 := D2.free 4; have x25 := D2.free 5; have x26 := D2.free 6
  have z20 := Z2.cell 0 rfl; have y20 := Z2.free 0; have z21 := Z2.cell 1 rfl; have y21 := Z2.free 1; have z22 := Z2.cell 2 rfl; have y22 := Z2.free 2; have z23 := Z2.cell 3 rfl; have y23 := Z2.free 3; have z24 := Z2.cell 4 rfl; have y24 := Z2.free 4; have z25 := Z2.cell 5 rfl; have y25 := Z2.free 5; have z26 := Z2.cell 6 rfl; have y26 := Z2.free 6
  go_wp2_with fail
  all_goals
    refine bodyPost_ret (v := .tuple #[.agg #[.bool true, .bool true, .bool ar, U shut, U all, L since, I 0], I 0]) (by simp [results, Try.results31, go_sem, z20, z21, z22, z23, z24, z25, z26]) rfl ⟨rfl, ?_⟩
    iterate 7 (refine bset ?_ (Nat.le_succ _))
    iterate 0 (refine bset ?_ (Nat.le_refl _))
    exact B2
set_option maxHeartbeats 1000000 in
theorem store_ref_8_tf (ar : Bool) (shut all since : Int) (v : Int) (v0 : 0 ≤ v) (v1 : v ≤ 4294967295) (h : WS.Ok ⟨true, false, ar, shut, all, since, 0⟩) (w : World) :
    Calls Try.prog 31 #[.agg #[.bool true, .bool false, .bool ar, U shut, U all, L since, I 0], U 8, U v] w fun e w' => e = .returned (.tuple #[.agg #[.bool true, .bool false, .bool ar, U shut, U all, L since, I 0], I 0]) ∧ Below w.heap.size w w' := by
  have LB0 : Hid (0 ≤ (8 : Int) ∧ (8 : Int) ≤ 4294967295) := Lib.hid (by decide)
  obtain ⟨lv, LB⟩ : ∃ lv, Hid (WS.loadB ⟨true, false, ar, shut, all, since, 0⟩ 8 = (lv, 0)) := ⟨_, Lib.hid rfl⟩
  have h0 := h.h0; have h1 := h.h1; have a0 := h.a0; have a1 := h.a1; have s0 := h.s0; have s1 := h.s1
  try dsimp only at h0 h1 a0 a1 s0 s1
  have q0 : IntKind.u64.wrap shut = shut := by rw [IntKind.wrap_u64]; omega
  have HH := Lib.hid h
  clear h
  have hB := Blk.new w #[.bool true, .bool false, .bool ar, U shut, U all, L since, I 0] 40
  have hD := Lib.hid (hB.alloc (.cells wz 40))
  have hZ : Hid (Blk ((w.alloc (.cells #[.bool true, .bool false, .bool ar, U shut, U all, L since, I 0] 40)).alloc (.cells wz 40)) (w.heap.size + 1) wz 40) := Lib.hid (by simpa using Blk.new (w.alloc (.cells #[.bool true, .bool false, .bool ar, U shut, U all, L since, I 0] 40)) wz 40)
  have hb0 := Lib.hid (two_below w (.cells #[.bool true, .bool false, .bool ar, U shut, U all, L since, I 0] 40) (.cells wz 40))
  clear hB
  go_enter Try.func31, Try.ntmps31
  go_wp2_with ((go_at_call 30; fail))
  refine (loadR_of ⟨true, false, ar, shut, all, since, 0⟩ HH.out _ _ _ LB0.out.1 LB0.out.2 LB _).mono ?_
  rintro e w2 ⟨rfl, hb2⟩
  have D2 := hD.out.below hb2 hD.out.lt; have Z2 := hZ.out.below hb2 hZ.out.lt; have B2 := hb0.out.trans (hb2.mono hb0.out.size)
  have d20 := D2.cell 0 rfl; have d21 := D2.cell 1 rfl; have d22 := D2.cell 2 rfl; have d23 := D2.cell 3 rfl; have d24 := D2.cell 4 rfl; have d25 := D2.cell 5 rfl; have d26 := D2.cell 6 rfl
  have x20 := D2.free 0; have x21 := D2.free 1; have x22 := D2.free 2; have x23 := D2.free 3; have x24 := D2.free 4; have x25 := D2.free 5; have x26 := D2.free 6
  have z20 := Z2.cell 0 rfl; have y20 := Z2.free 0; have z21 := Z2.cell 1 rfl; have y21 := Z2.free 1; have z22 := Z2.cell 2 rfl; have y22 := Z2.free 2; have z23 := Z2.cell 3 rfl; have y23 := Z2.free 3; have z24 := Z2.cell 4 rfl; have y24 := Z2.free 4; have z25 := Z2.cell 5 rfl; have y25 := Z2.free 5; have z26 := Z2.cell 6 rfl; have y26 := Z2.free 6
  go_wp2_with fail
  all_goals
    refine bodyPost_ret (v := .tuple #[.agg #[.bool true, .bool false, .bool ar, U shut, U all, L since, I 0], I 0]) (by simp [results, Try.results31, go_sem, z20, z21, z22, z23, z24, z25, z26]) rfl ⟨rfl, ?_⟩
    iterate 7 (refine bset ?_ (Nat.le_succ _))
    iterate 0 (refine bset ?_ (Nat.le_refl _))
    exact B2
set_option maxHeartbeats 1000000 in
theorem store_ref_8_ft (ar : Bool) (shut all since : Int) (v : Int) (v0 : 0 ≤ v) (v1 : v ≤ 4294967295) (h : WS.Ok ⟨false, true, ar, shut, all, since, 0⟩) (w : World) :
    Calls Try.prog 31 #[.agg #[.bool false, .bool true, .bool ar, U shut, U all, L since, I 0], U 8, U v] w fun e w' => e = .returned (.tuple #[.agg #[.bool false, .bool true, .bool ar, U shut, U all, L since, I 0], I 0]) ∧ Below w.heap.size w w' := by
  have LB0 : Hid (0 ≤ (8 : Int) ∧ (8 : Int) ≤ 4294967295) := Lib.hid (by decide)
  obtain ⟨lv, LB⟩ : ∃ lv, Hid (WS.loadB ⟨false, true, ar, shut, all, since, 0⟩ 8 = (lv, 0)) := ⟨_, Lib.hid rfl⟩
  have h0 := h.h0; have h1 := h.h1; have a0 := h.a0; have a1 := h.a1; have s0 := h.s0; have s1 := h.s1
  try dsimp only at h0 h1 a0 a1 s0 s1
  have q0 : IntKind.u64.wrap shut = shut := by rw [IntKind.wrap_u64]; omega
  have HH := Lib.hid h
  clear h
  have hB := Blk.new w #[.bool false, .bool true, .bool ar, U shut, U all, L since, I 0] 40
  have hD := Lib.hid (hB.alloc (.cells wz 40))
  have hZ : Hid (Blk ((w.alloc (.cells #[.bool false, .bool true, .bool ar, U shut, U all, L since, I 0] 40)).alloc (.cells wz 40)) (w.heap.size + 1) wz 40) := Lib.hid (by simpa using Blk.new (w.alloc (.cells #[.bool false, .bool true, .bool ar, U shut, U all, L since, I 0] 40)) wz 40)
  have hb0 := Lib.hid (two_below w (.cells #[.bool false, .bool true, .bool ar, U shut, U all, L since, I 0] 40) (.cells wz 40))
  clear hB
  go_enter Try.func31, Try.ntmps31
  go_wp2_with ((go_at_call 30; fail))
  refine (loadR_of ⟨false, true, ar, shut, all, since, 0⟩ HH.out _ _ _ LB0.out.1 LB0.out.2 LB _).mono ?_
  rintro e w2 ⟨rfl, hb2⟩
  have D2 := hD.out.below hb2 hD.out.lt; have Z2 := hZ.out.below hb2 hZ.out.lt; have B2 := hb0.out.trans (hb2.mono hb0.out.size)
  have d20 := D2.cell 0 rfl; have d21 := D2.cell 1 rfl; have d22 := D2.cell 2 rfl; have d23 := D2.cell 3 rfl; have d24 := D2.cell 4 rfl; have d25 := D2.cell 5 rfl; have d26 := D2.cell 6 rfl
  have x20 := D2.free 0; have x21 := D2.free 1; have x22 := D2.free 2; have x23 := D2.free 3; have x24 := D2.free 4; have x25 := D2.free 5; have x26 := D2.free 6
  have z20 := Z2.cell 0 rfl; have y20 := Z2.free 0; have z21 := Z2.cell 1 rfl; have y21 := Z2.free 1; have z22 := Z2.cell 2 rfl; have y22 := Z2.free 2; have z23 := Z2.cell 3 rfl; have y23 := Z2.free 3; have z24 := Z2.cell 4 rfl; have y24 := Z2.free 4; have z25 := Z2.cell 5 rfl; have y25 := Z2.free 5; have z26 := Z2.cell 6 rfl; have y26 := Z2.free 6
  go_wp2_with fail
  all_goals
    refine bodyPost_ret (v := .tuple #[.agg #[.bool false, .bool true, .bool ar, U shut, U all, L since, I 0], I 0]) (by simp [results, Try.results31, go_sem, z20, z21, z22, z23, z24, z25, z26]) rfl ⟨rfl, ?_⟩
    iterate 7 (refine bset ?_ (Nat.le_succ _))
    iterate 0 (refine bset ?_ (Nat.le_refl _))
    exact B2
set_option maxHeartbeats 1000000 in
theorem store_ref_12_off (lk ar : Bool) (shut all since : Int) (v : Int) (v0 : 0 ≤ v) (v1 : v ≤ 4294967295) (h : WS.Ok ⟨false, lk, ar, shut, all, since, 0⟩) (w : World) :
    Calls Try.prog 31 #[.agg #[.bool false, .bool lk, .bool ar, U shut, U all, L since, I 0], U 12, U v] w fun e w' => e = .returned (.tuple #[.agg #[.bool false, .bool lk, .bool ar, U shut, U all, L since, I 0], I 0]) ∧ Below w.heap.size w w' := by
  have LB0 : Hid (0 ≤ (12 : Int) ∧ (12 : Int) ≤ 4294967295) := Lib.hid (by decide)
  obtain ⟨lv, LB⟩ : ∃ lv, Hid (WS.loadB ⟨false, lk, ar, shut, all, since, 0⟩ 12 = (lv, 0)) := ⟨_, Lib.hid rfl⟩
  have h0 := h.h0; have h1 := h.h1; have a0 := h.a0; have a1 := h.a1; have s0 := h.s0; have s1 := h.s1
  try dsimp only at h0 h1 a0 a1 s0 s1
  have q0 : IntKind.u64.wrap shut = shut := by rw [IntKind.wrap_u64]; omega
  have HH := Lib.hid h
  clear h
  have hB := Blk.new w #[.bool false, .bool lk, .bool ar, U shut, U all, L since, I 0] 40
  have hD := Lib.hid (hB.alloc (.cells wz 40))
  have hZ : Hid (Blk ((w.alloc (.cells #[.bool false, .bool lk, .bool ar, U shut, U all, L since, I 0] 40)).alloc (.cells wz 40)) (w.heap.size + 1) wz 40) := Lib.hid (by simpa using Blk.new (w.alloc (.cells #[.bool false, .bool lk, .bool ar, U shut, U all, L since, I 0] 40)) wz 40)
  have hb0 := Lib.hid (two_below w (.cells #[.bool false, .bool lk, .bool ar, U shut, U all, L since, I 0] 40) (.cells wz 40))
  clear hB
  go_enter Try.func31, Try.ntmps31
  go_wp2_with ((go_at_call 30; fail))
  refine (loadR_of ⟨false, lk, ar, shut, all, since, 0⟩ HH.out _ _ _ LB0.out.1 LB0.out.2 LB _).mono ?_
  rintro e w2 ⟨rfl, hb2⟩
  have D2 := hD.out.below hb2 hD.out.lt; have Z2 := hZ.out.below hb2 hZ.out.lt; have B2 := hb0.out.trans (hb2.mono hb0.out.size)
  have d20 := D2.cell 0 rfl; have d21 := D2.cell 1 rfl; have d22 := D2.cell 2 rfl; have d23 := D2.cell 3 rfl; have d24 := D2.cell 4 rfl; have d25 := D2.cell 5 rfl; have d26 := D2.cell 6 rfl
  have x20 := D2.free 0; have x21 := D2.free 1; have x22 := D2.free 2; have x23 := D2.free 3; have x24 := D2.free 4; have x25 := D2.free 5; have x26 := D2.free 6
  have z20 := Z2.cell 0 rfl; have y20 := Z2.free 0; have z21 := Z2.cell 1 rfl; have y21 := Z2.free 1; have z22 := Z2.cell 2 rfl; have y22 := Z2.free 2; have z23 := Z2.cell 3 rfl; have y23 := Z2.free 3; have z24 := Z2.cell 4 rfl; have y24 := Z2.free 4; have z25 := Z2.cell 5 rfl; have y25 := Z2.free 5; have z26 := Z2.cell 6 rfl; have y26 := Z2.free 6
  go_wp2_with fail
  all_goals
    refine bodyPost_ret (v := .tuple #[.agg #[.bool false, .bool lk, .bool ar, U shut, U all, L since, I 0], I 0]) (by simp [results, Try.results31, go_sem, z20, z21, z22, z23, z24, z25, z26]) rfl ⟨rfl, ?_⟩
    iterate 7 (refine bset ?_ (Nat.le_succ _))
    iterate 0 (refine bset ?_ (Nat.le_refl _))
    exact B2
set_option maxHeartbeats 1000000 in
theorem store_ref_12_first (lk ar : Bool) (shut all since : Int) (h : WS.Ok ⟨true, lk, ar, shut, all, since, 0⟩) (w : World) :
    Calls Try.prog 31 #[.agg #[.bool true, .bool lk, .bool ar, U shut, U all, L since, I 0], U 12, U 23130] w fun e w' => e = .returned (.tuple #[.agg #[.bool true, .bool lk, .bool true, U shut, U all, L since, I 0], I 0]) ∧ Below w.heap.size w w' := by
  have LB0 : Hid (0 ≤ (12 : Int) ∧ (12 : Int) ≤ 4294967295) := Lib.hid (by decide)
  obtain ⟨lv, LB⟩ : ∃ lv, Hid (WS.loadB ⟨true, lk, ar, shut, all, since, 0⟩ 12 = (lv, 0)) := ⟨_, Lib.hid rfl⟩
  have h0 := h.h0; have h1 := h.h1; have a0 := h.a0; have a1 := h.a1; have s0 := h.s0; have s1 := h.s1
  try dsimp only at h0 h1 a0 a1 s0 s1
  have q0 : IntKind.u64.wrap shut = shut := by rw [IntKind.wrap_u64]; omega
  have HH := Lib.hid h
  clear h
  have hB := Blk.new w #[.bool true, .bool lk, .bool ar, U shut, U all, L since, I 0] 40
  have hD := Lib.hid (hB.alloc (.cells wz 40))
  have hZ : Hid (Blk ((w.alloc (.cells #[.bool true, .bool lk, .bool ar, U shut, U all, L since, I 0] 40)).alloc (.cells wz 40)) (w.heap.size + 1) wz 40) := Lib.hid (by simpa using Blk.new (w.alloc (.cells #[.bool true, .bool lk, .bool ar, U shut, U all, L since, I 0] 40)) wz 40)
  have hb0 := Lib.hid (two_below w (.cells #[.bool true, .bool lk, .bool ar, U shut, U all, L since, I 0] 40) (.cells wz 40))
  clear hB
  go_enter Try.func31, Try.ntmps31
  go_wp2_with ((go_at_call 30; fail))
  refine (loadR_of ⟨true, lk, ar, shut, all, since, 0⟩ HH.out _ _ _ LB0.out.1 LB0.out.2 LB _).mono ?_
  rintro e w2 ⟨rfl, hb2⟩
  have D2 := hD.out.below hb2 hD.out.lt; have Z2 := hZ.out.below hb2 hZ.out.lt; have B2 := hb0.out.trans (hb2.mono hb0.out.size)
  have d20 := D2.cell 0 rfl; have d21 := D2.cell 1 rfl; have d22 := D2.cell 2 rfl; have d23 := D2.cell 3 rfl; have d24 := D2.cell 4 rfl; have d25 := D2.cell 5 rfl; have d26 := D2.cell 6 rfl
  have x20 := D2.free 0; have x21 := D2.free 1; have x22 := D2.free 2; have x23 := D2.free 3; have x24 := D2.free 4; have x25 := D2.free 5; have x26 := D2.free 6
  have z20 := Z2.cell 0 rfl; have y20 := Z2.free 0; have z21 := Z2.cell 1 rfl; have y21 := Z2.free 1; have z22 := Z2.cell 2 rfl; have y22 := Z2.free 2; have z23 := Z2.cell 3 rfl; have y23 := Z2.free 3; have z24 := Z2.cell 4 rfl; have y24 := Z2.free 4; have z25 := Z2.cell 5 rfl; have y25 := Z2.free 5; have z26 := Z2.cell 6 rfl; have y26 := Z2.free 6
  go_wp2_with fail
  all_goals
    refine bodyPost_ret (v := .tuple #[.agg #[.bool true, .bool lk, .bool true, U shut, U all, L since, I 0], I 0]) (by simp [results, Try.results31, go_sem, z20, z21, z22, z23, z24, z25, z26]) rfl ⟨rfl, ?_⟩
    iterate 7 (refine bset ?_ (Nat.le_succ _))
    iterate 1 (refine bset ?_ (Nat.le_refl _))
    exact B2
set_option maxHeartbeats 1000000 in
theorem store_ref_12_early (lk : Bool) (shut all since : Int) (hlt : since < shut) (h : WS.Ok ⟨true, lk, true, shut, all, since, 0⟩) (w : World) :
    Calls Try.prog 31 #[.agg #[.bool true, .bool lk, .bool true, U shut, U all, L since, I 0], U 12, U 42405] w fun e w' => e = .returned (.tuple #[.agg #[.bool true, .bool lk, .bool true, U shut, U all, L since, I 4], I 0]) ∧ Below w.heap.size w w' := by
  have LB0 : Hid (0 ≤ (12 : Int) ∧ (12 : Int) ≤ 4294967295) := Lib.hid (by decide)
  obtain ⟨lv, LB⟩ : ∃ lv, Hid (WS.loadB ⟨true, lk, true, shut, all, since, 0⟩ 12 = (lv, 0)) := ⟨_, Lib.hid rfl⟩
  have h0 := h.h0; have h1 := h.h1; have a0 := h.a0; have a1 := h.a1; have s0 := h.s0; have s1 := h.s1
  try dsimp only at h0 h1 a0 a1 s0 s1
  have q0 : IntKind.u64.wrap shut = shut := by rw [IntKind.wrap_u64]; omega
  have HH := Lib.hid h
  clear h
  have hB := Blk.new w #[.bool true, .bool lk, .bool true, U shut, U all, L since, I 0] 40
  have hD := Lib.hid (hB.alloc (.cells wz 40))
  have hZ : Hid (Blk ((w.alloc (.cells #[.bool true, .bool lk, .bool true, U shut, U all, L since, I 0] 40)).alloc (.cells wz 40)) (w.heap.size + 1) wz 40) := Lib.hid (by simpa using Blk.new (w.alloc (.cells #[.bool true, .bool lk, .bool true, U shut, U all, L since, I 0] 40)) wz 40)
  have hb0 := Lib.hid (two_below w (.cells #[.bool true, .bool lk, .bool true, U shut, U all, L since, I 0] 40) (.cells wz 40))
  clear hB
  have e1 : decide (since < shut) = true := by simpa using hlt
  clear hlt
  go_enter Try.func31, Try.ntmps31
  go_wp2_with ((go_at_call 30; fail))
  refine (loadR_of ⟨true, lk, true, shut, all, since, 0⟩ HH.out _ _ _ LB0.out.1 LB0.out.2 LB _).mono ?_
  rintro e w2 ⟨rfl, hb2⟩
  have D2 := hD.out.below hb2 hD.out.lt; have Z2 := hZ.out.below hb2 hZ.out.lt; have B2 := hb0.out.trans (hb2.mono hb0.out.size)
  have d20 := D2.cell 0 rfl; have d21 := D2.cell 1 rfl; have d22 := D2.cell 2 rfl; have d23 := D2.cell 3 rfl; have d24 := D2.cell 4 rfl; have d25 := D2.cell 5 rfl; have d26 := D2.cell 6 rfl
  have x20 := D2.free 0; have x21 := D2.free 1; have x22 := D2.free 2; have x23 := D2.free 3; have x24 := D2.free 4; have x25 := D2.free 5; have x26 := D2.free 6
  have z20 := Z2.cell 0 rfl; have y20 := Z2.free 0; have z21 := Z2.cell 1 rfl; have y21 := Z2.free 1; have z22 := Z2.cell 2 rfl; have y22 := Z2.free 2; have z23 := Z2.cell 3 rfl; have y23 := Z2.free 3; have z24 := Z2.cell 4 rfl; have y24 := Z2.free 4; have z25 := Z2.cell 5 rfl; have y25 := Z2.free 5; have z26 := Z2.cell 6 rfl; have y26 := Z2.free 6
  go_wp2_with fail
  all_goals
    refine bodyPost_ret (v := .tuple #[.agg #[.bool true, .bool lk, .bool true, U shut, U all, L since, I 4], I 0]) (by simp [results, Try.results31, go_sem, z20, z21, z22, z23, z24, z25, z26]) rfl ⟨rfl, ?_⟩
    iterate 7 (refine bset ?_ (Nat.le_succ _))
    iterate 1 (refine bset ?_ (Nat.le_refl _))
    exact B2
set_option maxHeartbeats 1000000 in
theorem store_ref_12_fed (lk : Bool) (shut all since : Int) (hlt : ¬ since < shut) (h : WS.Ok ⟨true, lk, true, shut, all, since, 0⟩) (w : World) :
    Calls Try.prog 31 #[.agg #[.bool true, .bool lk, .bool true, U shut, U all, L since, I 0], U 12, U 42405] w fun e w' => e = .returned (.tuple #[.agg #[.bool true, .bool lk, .bool false, U shut, U all, L 0, I 0], I 0]) ∧ Below w.heap.size w w' := by
  have LB0 : Hid (0 ≤ (12 : Int) ∧ (12 : Int) ≤ 4294967295) := Lib.hid (by decide)
  obtain ⟨lv, LB⟩ : ∃ lv, Hid (WS.loadB ⟨true, lk, true, shut, all, since, 0⟩ 12 = (lv, 0)) := ⟨_, Lib.hid rfl⟩
  have h0 := h.h0; have h1 := h.h1; have a0 := h.a0; have a1 := h.a1; have s0 := h.s0; have s1 := h.s1
  try dsimp only at h0 h1 a0 a1 s0 s1
  have q0 : IntKind.u64.wrap shut = shut := by rw [IntKind.wrap_u64]; omega
  have HH := Lib.hid h
  clear h
  have hB := Blk.new w #[.bool true, .bool lk, .bool true, U shut, U all, L since, I 0] 40
  have hD := Lib.hid (hB.alloc (.cells wz 40))
  have hZ : Hid (Blk ((w.alloc (.cells #[.bool true, .bool lk, .bool true, U shut, U all, L since, I 0] 40)).alloc (.cells wz 40)) (w.heap.size + 1) wz 40) := Lib.hid (by simpa using Blk.new (w.alloc (.cells #[.bool true, .bool lk, .bool true, U shut, U all, L since, I 0] 40)) wz 40)
  have hb0 := Lib.hid (two_below w (.cells #[.bool true, .bool lk, .bool true, U shut, U all, L since, I 0] 40) (.cells wz 40))
  clear hB
  have e1 : decide (since < shut) = false := by simpa using hlt
  clear hlt
  go_enter Try.func31, Try.ntmps31
  go_wp2_with ((go_at_call 30; fail))
  refine (loadR_of ⟨true, lk, true, shut, all, since, 0⟩ HH.out _ _ _ LB0.out.1 LB0.out.2 LB _).mono ?_
  rintro e w2 ⟨rfl, hb2⟩
  have D2 := hD.out.below hb2 hD.out.lt; have Z2 := hZ.out.below hb2 hZ.out.lt; have B2 := hb0.out.trans (hb2.mono hb0.out.size)
  have d20 := D2.cell 0 rfl; have d21 := D2.cell 1 rfl; have d22 := D2.cell 2 rfl; have d23 := D2.cell 3 rfl; have d24 := D2.cell 4 rfl; have d25 := D2.cell 5 rfl; have d26 := D2.cell 6 rfl
  have x20 := D2.free 0; have x21 := D2.free 1; have x22 := D2.free 2; have x23 := D2.free 3; have x24 := D2.free 4; have x25 := D2.free 5; have x26 := D2.free 6
  have z20 := Z2.cell 0 rfl; have y20 := Z2.free 0; have z21 := Z2.cell 1 rfl; have y21 := Z2.free 1; have z22 := Z2.cell 2 rfl; have y22 := Z2.free 2; have z23 := Z2.cell 3 rfl; have y23 := Z2.free 3; have z24 := Z2.cell 4 rfl; have y24 := Z2.free 4; have z25 := Z2.cell 5 rfl; have y25 := Z2.free 5; have z26 := Z2.cell 6 rfl; have y26 := Z2.free 6
  go_wp2_with fail
  all_goals
    refine bodyPost_ret (v := .tuple #[.agg #[.bool true, .bool lk, .bool false, U shut, U all, L 0, I 0], I 0]) (by simp [results, Try.results31, go_sem, z20, z21, z22, z23, z24, z25, z26]) rfl ⟨rfl, ?_⟩
    iterate 7 (refine bset ?_ (Nat.le_succ _))
    iterate 2 (refine bset ?_ (Nat.le_refl _))
    exact B2
set_option maxHeartbeats 1000000 in
theorem store_ref_12_un_early (lk : Bool) (shut all since : Int) (hlt : since < shut) (h : WS.Ok ⟨true, lk, false, shut, all, since, 0⟩) (w : World) :
    Calls Try.prog 31 #[.agg #[.bool true, .bool lk, .bool false, U shut, U all, L since, I 0], U 12, U 42405] w fun e w' => e = .returned (.tuple #[.agg #[.bool true, .bool lk, .bool false, U shut, U all, L since, I 8], I 0]) ∧ Below w.heap.size w w' := by
  have LB0 : Hid (0 ≤ (12 : Int) ∧ (12 : Int) ≤ 4294967295) := Lib.hid (by decide)
  obtain ⟨lv, LB⟩ : ∃ lv, Hid (WS.loadB ⟨true, lk, false, shut, all, since, 0⟩ 12 = (lv, 0)) := ⟨_, Lib.hid rfl⟩
  have h0 := h.h0; have h1 := h.h1; have a0 := h.a0; have a1 := h.a1; have s0 := h.s0; have s1 := h.s1
  try dsimp only at h0 h1 a0 a1 s0 s1
  have q0 : IntKind.u64.wrap shut = shut := by rw [IntKind.wrap_u64]; omega
  have HH := Lib.hid h
  clear h
  have hB := Blk.new w #[.bool true, .bool lk, .bool false, U shut, U all, L since, I 0] 40
  have hD := Lib.hid (hB.alloc (.cells wz 40))
  have hZ : Hid (Blk ((w.alloc (.cells #[.bool true, .bool lk, .bool false, U shut, U all, L since, I 0] 40)).alloc (.cells wz 40)) (w.heap.size + 1) wz 40) := Lib.hid (by simpa using Blk.new (w.alloc (.cells #[.bool true, .bool lk, .bool false, U shut, U all, L since, I 0] 40)) wz 40)
  have hb0 := Lib.hid (two_below w (.cells #[.bool true, .bool lk, .bool false, U shut, U all, L since, I 0] 40) (.cells wz 40))
  clear hB
  have e1 : decide (since < shut) = true := by simpa using hlt
  clear hlt
  go_enter Try.func31, Try.ntmps31
  go_wp2_with ((go_at_call 30; fail))
  refine (loadR_of ⟨true, lk, false, shut, all, since, 0⟩ HH.out _ _ _ LB0.out.1 LB0.out.2 LB _).mono ?_
  rintro e w2 ⟨rfl, hb2⟩
  have D2 := hD.out.below hb2 hD.out.lt; have Z2 := hZ.out.below hb2 hZ.out.lt; have B2 := hb0.out.trans (hb2.mono hb0.out.size)
  have d20 := D2.cell 0 rfl; have d21 := D2.cell 1 rfl; have d22 := D2.cell 2 rfl; have d23 := D2.cell 3 rfl; have d24 := D2.cell 4 rfl; have d25 := D2.cell 5 rfl; have d26 := D2.cell 6 rfl
  have x20 := D2.free 0; have x21 := D2.free 1; have x22 := D2.free 2; have x23 := D2.free 3; have x24 := D2.free 4; have x25 := D2.free 5; have x26 := D2.free 6
  have z20 := Z2.cell 0 rfl; have y20 := Z2.free 0; have z21 := Z2.cell 1 rfl; have y21 := Z2.free 1; have z22 := Z2.cell 2 rfl; have y22 := Z2.free 2; have z23 := Z2.cell 3 rfl; have y23 := Z2.free 3; have z24 := Z2.cell 4 rfl; have y24 := Z2.free 4; have z25 := Z2.cell 5 rfl; have y25 := Z2.free 5; have z26 := Z2.cell 6 rfl; have y26 := Z2.free 6
  go_wp2_with fail
  all_goals
    refine bodyPost_ret (v := .tuple #[.agg #[.bool true, .bool lk, .bool false, U shut, U all, L since, I 8], I 0]) (by simp [results, Try.results31, go_sem, z20, z21, z22, z23, z24, z25, z26]) rfl ⟨rfl, ?_⟩
    iterate 7 (refine bset ?_ (Nat.le_succ _))
    iterate 1 (refine bset ?_ (Nat.le_refl _))
    exact B2
set_option maxHeartbeats 1000000 in
theorem store_ref_12_un (lk : Bool) (shut all since : Int) (hlt : ¬ since < shut) (h : WS.Ok ⟨true, lk, false, shut, all, since, 0⟩) (w : World) :
    Calls Try.prog 31 #[.agg #[.bool true, .bool lk, .bool false, U shut, U all, L since, I 0], U 12, U 42405] w fun e w' => e = .returned (.tuple #[.agg #[.bool true, .bool lk, .bool false, U shut, U all, L since, I 0], I 0]) ∧ Below w.heap.size w w' := by
  have LB0 : Hid (0 ≤ (12 : Int) ∧ (12 : Int) ≤ 4294967295) := Lib.hid (by decide)
  obtain ⟨lv, LB⟩ : ∃ lv, Hid (WS.loadB ⟨true, lk, false, shut, all, since, 0⟩ 12 = (lv, 0)) := ⟨_, Lib.hid rfl⟩
  have h0 := h.h0; have h1 := h.h1; have a0 := h.a0; have a1 := h.a1; have s0 := h.s0; have s1 := h.s1
  try dsimp only at h0 h1 a0 a1 s0 s1
  have q0 : IntKind.u64.wrap shut = shut := by rw [IntKind.wrap_u64]; omega
  have HH := Lib.hid h
  clear h
  have hB := Blk.new w #[.bool true, .bool lk, .bool false, U shut, U all, L since, I 0] 40
  have hD := Lib.hid (hB.alloc (.cells wz 40))
  have hZ : Hid (Blk ((w.alloc (.cells #[.bool true, .bool lk, .bool false, U shut, U all, L since, I 0] 40)).alloc (.cells wz 40)) (w.heap.size + 1) wz 40) := Lib.hid (by simpa using Blk.new (w.alloc (.cells #[.bool true, .bool lk, .bool false, U shut, U all, L since, I 0] 40)) wz 40)
  have hb0 := Lib.hid (two_below w (.cells #[.bool true, .bool lk, .bool false, U shut, U all, L since, I 0] 40) (.cells wz 40))
  clear hB
  have e1 : decide (since < shut) = false := by simpa using hlt
  clear hlt
  go_enter Try.func31, Try.ntmps31
  go_wp2_with ((go_at_call 30; fail))
  refine (loadR_of ⟨true, lk, false, shut, all, since, 0⟩ HH.out _ _ _ LB0.out.1 LB0.out.2 LB _).mono ?_
  rintro e w2 ⟨rfl, hb2⟩
  have D2 := hD.out.below hb2 hD.out.lt; have Z2 := hZ.out.below hb2 hZ.out.lt; have B2 := hb0.out.trans (hb2.mono hb0.out.size)
  have d20 := D2.cell 0 rfl; have d21 := D2.cell 1 rfl; have d22 := D2.cell 2 rfl; have d23 := D2.cell 3 rfl; have d24 := D2.cell 4 rfl; have d25 := D2.cell 5 rfl; have d26 := D2.cell 6 rfl
  have x20 := D2.free 0; have x21 := D2.free 1; have x22 := D2.free 2; have x23 := D2.free 3; have x24 := D2.free 4; have x25 := D2.free 5; have x26 := D2.free 6
  have z20 := Z2.cell 0 rfl; have y20 := Z2.free 0; have z21 := Z2.cell 1 rfl; have y21 := Z2.free 1; have z22 := Z2.cell 2 rfl; have y22 := Z2.free 2; have z23 := Z2.cell 3 rfl; have y23 := Z2.free 3; have z24 := Z2.cell 4 rfl; have y24 := Z2.free 4; have z25 := Z2.cell 5 rfl; have y25 := Z2.free 5; have z26 := Z2.cell 6 rfl; have y26 := Z2.free 6
  go_wp2_with fail
  all_goals
    refine bodyPost_ret (v := .tuple #[.agg #[.bool true, .bool lk, .bool false, U shut, U all, L since, I 0], I 0]) (by simp [results, Try.results31, go_sem, z20, z21, z22, z23, z24, z25, z26]) rfl ⟨rfl, ?_⟩
    iterate 7 (refine bset ?_ (Nat.le_succ _))
    iterate 1 (refine bset ?_ (Nat.le_refl _))
    exact B2
set_option maxHeartbeats 1000000 in
theorem store_ref_12_wrong (lk ar : Bool) (shut all since : Int) (v : Int) (v0 : 0 ≤ v) (v1 : v ≤ 4294967295) (hk1 : v ≠ 23130) (hk2 : v ≠ 42405) (hlt : since < shut) (h : WS.Ok ⟨true, lk, ar, shut, all, since, 0⟩) (w : World) :
    Calls Try.prog 31 #[.agg #[.bool true, .bool lk, .bool ar, U shut, U all, L since, I 0], U 12, U v] w fun e w' => e = .returned (.tuple #[.agg #[.bool true, .bool lk, .bool ar, U shut, U all, L since, I 8], I 0]) ∧ Below w.heap.size w w' := by
  have LB0 : Hid (0 ≤ (12 : Int) ∧ (12 : Int) ≤ 4294967295) := Lib.hid (by decide)
  obtain ⟨lv, LB⟩ : ∃ lv, Hid (WS.loadB ⟨true, lk, ar, shut, all, since, 0⟩ 12 = (lv, 0)) := ⟨_, Lib.hid rfl⟩
  have h0 := h.h0; have h1 := h.h1; have a0 := h.a0; have a1 := h.a1; have s0 := h.s0; have s1 := h.s1
  try dsimp only at h0 h1 a0 a1 s0 s1
  have q0 : IntKind.u64.wrap shut = shut := by rw [IntKind.wrap_u64]; omega
  have HH := Lib.hid h
  clear h
  have hB := Blk.new w #[.bool true, .bool lk, .bool ar, U shut, U all, L since, I 0] 40
  have hD := Lib.hid (hB.alloc (.cells wz 40))
  have hZ : Hid (Blk ((w.alloc (.cells #[.bool true, .bool lk, .bool ar, U shut, U all, L since, I 0] 40)).alloc (.cells wz 40)) (w.heap.size + 1) wz 40) := Lib.hid (by simpa using Blk.new (w.alloc (.cells #[.bool true, .bool lk, .bool ar, U shut, U all, L since, I 0] 40)) wz 40)
  have hb0 := Lib.hid (two_below w (.cells #[.bool true, .bool lk, .bool ar, U shut, U all, L since, I 0] 40) (.cells wz 40))
  clear hB
  have e1 : decide (since < shut) = true := by simpa using hlt
  clear hlt
  have k1 : (v == 23130) = false := by simpa using hk1
  have k2 : (v == 42405) = false := by simpa using hk2
  clear hk1 hk2
  go_enter Try.func31, Try.ntmps31
  go_wp2_with ((go_at_call 30; fail))
  refine (loadR_of ⟨true, lk, ar, shut, all, since, 0⟩ HH.out _ _ _ LB0.out.1 LB0.out.2 LB _).mono ?_
  rintro e w2 ⟨rfl, hb2⟩
  have D2 := hD.out.below hb2 hD.out.lt; have Z2 := hZ.out.below hb2 hZ.out.lt; have B2 := hb0.out.trans (hb2.mono hb0.out.size)
  have d20 := D2.cell 0 rfl; have d21 := D2.cell 1 rfl; have d22 := D2.cell 2 rfl; have d23 := D2.cell 3 rfl; have d24 := D2.cell 4 rfl; have d25 := D2.cell 5 rfl; have d26 := D2.cell 6 rfl
  have x20 := D2.free 0; have x21 := D2.free 1; have x22 := D2.free 2; have x23 := D2.free 3; have x24 := D2.free 4; have x25 := D2.free 5; have x26 := D2.free 6
  have z20 := Z2.cell 0 rfl; have y20 := Z2.free 0; have z21 := Z2.cell 1 rfl; have y21 := Z2.free 1; have z22 := Z2.cell 2 rfl; have y22 := Z2.free 2; have z23 := Z2.cell 3 rfl; have y23 := Z2.free 3; have z24 := Z2.cell 4 rfl; have y24 := Z2.free 4; have z25 := Z2.cell 5 rfl; have y25 := Z2.free 5; have z26 := Z2.cell 6 rfl; have y26 := Z2.free 6
  go_wp2_with fail
  all_goals
    refine bodyPost_ret (v := .tuple #[.agg #[.bool true, .bool lk, .bool ar, U shut, U all, L since, I 8], I 0]) (by simp [results, Try.results31, go_sem, z20, z21, z22, z23, z24, z25, z26]) rfl ⟨rfl, ?_⟩
    iterate 7 (refine bset ?_ (Nat.le_succ _))
    iterate 1 (refine bset ?_ (Nat.le_refl _))
    exact B2
set_option maxHeartbeats 1000000 in
theorem store_ref_12_drop (lk ar : Bool) (shut all since : Int) (v : Int) (v0 : 0 ≤ v) (v1 : v ≤ 4294967295) (hk1 : v ≠ 23130) (hk2 : v ≠ 42405) (hlt : ¬ since < shut) (h : WS.Ok ⟨true, lk, ar, shut, all, since, 0⟩) (w : World) :
    Calls Try.prog 31 #[.agg #[.bool true, .bool lk, .bool ar, U shut, U all, L since, I 0], U 12, U v] w fun e w' => e = .returned (.tuple #[.agg #[.bool true, .bool lk, .bool false, U shut, U all, L since, I 0], I 0]) ∧ Below w.heap.size w w' := by
  have LB0 : Hid (0 ≤ (12 : Int) ∧ (12 : Int) ≤ 4294967295) := Lib.hid (by decide)
  obtain ⟨lv, LB⟩ : ∃ lv, Hid (WS.loadB ⟨true, lk, ar, shut, all, since, 0⟩ 12 = (lv, 0)) := ⟨_, Lib.hid rfl⟩
  have h0 := h.h0; have h1 := h.h1; have a0 := h.a0; have a1 := h.a1; have s0 := h.s0; have s1 := h.s1
  try dsimp only at h0 h1 a0 a1 s0 s1
  have q0 : IntKind.u64.wrap shut = shut := by rw [IntKind.wrap_u64]; omega
  have HH := Lib.hid h
  clear h
  have hB := Blk.new w #[.bool true, .bool lk, .bool ar, U shut, U all, L since, I 0] 40
  have hD := Lib.hid (hB.alloc (.cells wz 40))
  have hZ : Hid (Blk ((w.alloc (.cells #[.bool true, .bool lk, .bool ar, U shut, U all, L since, I 0] 40)).alloc (.cells wz 40)) (w.heap.size + 1) wz 40) := Lib.hid (by simpa using Blk.new (w.alloc (.cells #[.bool true, .bool lk, .bool ar, U shut, U all, L since, I 0] 40)) wz 40)
  have hb0 := Lib.hid (two_below w (.cells #[.bool true, .bool lk, .bool ar, U shut, U all, L since, I 0] 40) (.cells wz 40))
  clear hB
  have e1 : decide (since < shut) = false := by simpa using hlt
  clear hlt
  have k1 : (v == 23130) = false := by simpa using hk1
  have k2 : (v == 42405) = false := by simpa using hk2
  clear hk1 hk2
  go_enter Try.func31, Try.ntmps31
  go_wp2_with ((go_at_call 30; fail))
  refine (loadR_of ⟨true, lk, ar, shut, all, since, 0⟩ HH.out _ _ _ LB0.out.1 LB0.out.2 LB _).mono ?_
  rintro e w2 ⟨rfl, hb2⟩
  have D2 := hD.out.below hb2 hD.out.lt; have Z2 := hZ.out.below hb2 hZ.out.lt; have B2 := hb0.out.trans (hb2.mono hb0.out.size)
  have d20 := D2.cell 0 rfl; have d21 := D2.cell 1 rfl; have d22 := D2.cell 2 rfl; have d23 := D2.cell 3 rfl; have d24 := D2.cell 4 rfl; have d25 := D2.cell 5 rfl; have d26 := D2.cell 6 rfl
  have x20 := D2.free 0; have x21 := D2.free 1; have x22 := D2.free 2; have x23 := D2.free 3; have x24 := D2.free 4; have x25 := D2.free 5; have x26 := D2.free 6
  have z20 := Z2.cell 0 rfl; have y20 := Z2.free 0; have z21 := Z2.cell 1 rfl; have y21 := Z2.free 1; have z22 := Z2.cell 2 rfl; have y22 := Z2.free 2; have z23 := Z2.cell 3 rfl; have y23 := Z2.free 3; have z24 := Z2.cell 4 rfl; have y24 := Z2.free 4; have z25 := Z2.cell 5 rfl; have y25 := Z2.free 5; have z26 := Z2.cell 6 rfl; have y26 := Z2.free 6
  go_wp2_with fail
  all_goals
    refine bodyPost_ret (v := .tuple #[.agg #[.bool true, .bool lk, .bool false, U shut, U all, L since, I 0], I 0]) (by simp [results, Try.results31, go_sem, z20, z21, z22, z23, z24, z25, z26]) rfl ⟨rfl, ?_⟩
    iterate 7 (refine bset ?_ (Nat.le_succ _))
    iterate 1 (refine bset ?_ (Nat.le_refl _))
    exact B2
end Go.Proofs.Ytndndlegefhafaa
