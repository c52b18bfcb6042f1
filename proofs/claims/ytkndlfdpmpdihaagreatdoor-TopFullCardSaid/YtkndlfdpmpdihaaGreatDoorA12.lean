/- The greatest level in which two numbers part. Where a deadline belongs. Which slots are taken: one more, one less. Conditions: those that each statement shows. -/
import Derived.Test.YtkndlfdpmpdihaaGreatDoorA11
import Derived.Deep.RegionWith
namespace Go.Proofs.YtkndlfdpmpdihaaGreatDoor
open Go.RowKit Go.Ev Go.Mv
set_option linter.unusedVariables false
set_option linter.unusedSimpArgs false
set_option maxRecDepth 100000
set_option maxHeartbeats 2000000 in
theorem top_core {b d : Nat} {x0 x1 x2 x3 x4 x5 x6 x7 x8 y0 y1 y2 y3 y4 y5 y6 y7 y8 : Nat} (hx : ∀ w, Calls Tryz.prog 304 #[.int .u64 b] w fun e w' => e = .returned (.agg #[.int .u64 x0, .int .u64 x1, .int .u64 x2, .int .u64 x3, .int .u64 x4, .int .u64 x5, .int .u64 x6, .int .u64 x7, .int .u64 x8]) ∧ Below w.heap.size w w') (hy : ∀ w, Calls Tryz.prog 304 #[.int .u64 d] w fun e w' => e = .returned (.agg #[.int .u64 y0, .int .u64 y1, .int .u64 y2, .int .u64 y3, .int .u64 y4, .int .u64 y5, .int .u64 y6, .int .u64 y7, .int .u64 y8]) ∧ Below w.heap.size w w')
    (hne : ([(x0 : Int), (x1 : Int), (x2 : Int), (x3 : Int), (x4 : Int), (x5 : Int), (x6 : Int), (x7 : Int), (x8 : Int)] == [(y0 : Int), (y1 : Int), (y2 : Int), (y3 : Int), (y4 : Int), (y5 : Int), (y6 : Int), (y7 : Int), (y8 : Int)]) = false) (w : World) : Calls Tryz.prog 248 #[.int .u64 b, .int .u64 d] w fun e w' => e = .returned (.int .i64 ((if x8 ≠ y8 then 8 else if x7 ≠ y7 then 7 else if x6 ≠ y6 then 6 else if x5 ≠ y5 then 5 else if x4 ≠ y4 then 4 else if x3 ≠ y3 then 3 else if x2 ≠ y2 then 2 else if x1 ≠ y1 then 1 else 0 : Nat) : Int)) ∧ Below w.heap.size w w' := by
  have heq : ∀ w, (Op.equalIn 10000 435 (.agg #[.int .u64 x0, .int .u64 x1, .int .u64 x2, .int .u64 x3, .int .u64 x4, .int .u64 x5, .int .u64 x6, .int .u64 x7, .int .u64 x8]) (.agg #[.int .u64 y0, .int .u64 y1, .int .u64 y2, .int .u64 y3, .int .u64 y4, .int .u64 y5, .int .u64 y6, .int .u64 y7, .int .u64 y8])).run Tryz.prog w = .ok false w := fun w => by rw [eq_digs, hne]
  have HX := Lib.hid hx
  have HY := Lib.hid hy
  clear hx hy hne
  go_enter Tryz.func248, Tryz.ntmps248
  go_wp2
  go_step3
  go_wp2_with (first | first | (go_at_call_of 304 (Value.int .u64 (b : Int)); refine (HX.out _).mono ?_; rintro e w1 ⟨rfl, hb1⟩) | (go_at_call_of 304 (Value.int .u64 (d : Int)); refine (HY.out _).mono ?_; rintro e w2 ⟨rfl, hb2⟩))
  go_step3
  go_wp2
  have hB0 : Below w.heap.size w w2 := hb1.trans (hb2.mono hb1.size)
  have hX := (Blk.new w2 #[.int .u64 x0, .int .u64 x1, .int .u64 x2, .int .u64 x3, .int .u64 x4, .int .u64 x5, .int .u64 x6, .int .u64 x7, .int .u64 x8] 435).alloc (.cells #[.int .u64 y0, .int .u64 y1, .int .u64 y2, .int .u64 y3, .int .u64 y4, .int .u64 y5, .int .u64 y6, .int .u64 y7, .int .u64 y8] 435)
  have hY : Blk ((w2.alloc (.cells #[.int .u64 x0, .int .u64 x1, .int .u64 x2, .int .u64 x3, .int .u64 x4, .int .u64 x5, .int .u64 x6, .int .u64 x7, .int .u64 x8] 435)).alloc (.cells #[.int .u64 y0, .int .u64 y1, .int .u64 y2, .int .u64 y3, .int .u64 y4, .int .u64 y5, .int .u64 y6, .int .u64 y7, .int .u64 y8] 435)) (w2.heap.size + 1) #[.int .u64 y0, .int .u64 y1, .int .u64 y2, .int .u64 y3, .int .u64 y4, .int .u64 y5, .int .u64 y6, .int .u64 y7, .int .u64 y8] 435 := by
    have := Blk.new (w2.alloc (.cells #[.int .u64 x0, .int .u64 x1, .int .u64 x2, .int .u64 x3, .int .u64 x4, .int .u64 x5, .int .u64 x6, .int .u64 x7, .int .u64 x8] 435)) #[.int .u64 y0, .int .u64 y1, .int .u64 y2, .int .u64 y3, .int .u64 y4, .int .u64 y5, .int .u64 y6, .int .u64 y7, .int .u64 y8] 435
    simpa using this
  have hB1 : Below w.heap.size w ((w2.alloc (.cells #[.int .u64 x0, .int .u64 x1, .int .u64 x2, .int .u64 x3, .int .u64 x4, .int .u64 x5, .int .u64 x6, .int .u64 x7, .int .u64 x8] 435)).alloc (.cells #[.int .u64 y0, .int .u64 y1, .int .u64 y2, .int .u64 y3, .int .u64 y4, .int .u64 y5, .int .u64 y6, .int .u64 y7, .int .u64 y8] 435)) := (hB0.alloc hB0.size _).alloc (by have := hB0.size; simp; omega) _
  generalize (w2.alloc (.cells #[.int .u64 x0, .int .u64 x1, .int .u64 x2, .int .u64 x3, .int .u64 x4, .int .u64 x5, .int .u64 x6, .int .u64 x7, .int .u64 x8] 435)).alloc (.cells #[.int .u64 y0, .int .u64 y1, .int .u64 y2, .int .u64 y3, .int .u64 y4, .int .u64 y5, .int .u64 y6, .int .u64 y7, .int .u64 y8] 435) = w3 at *
  refine wp_loop_rounds 9 ?_
  rename Below w.heap.size w w3 => hB
  rw [rounds_succ]
  go_wp2
  have p8 : ∀ x : WX w3, x.w.cell? ⟨w2.heap.size, 8, none⟩ = some (.int .u64 x8) := hX.wx 8 rfl
  have q8 : ∀ x : WX w3, x.w.cell? ⟨w2.heap.size + 1, 8, none⟩ = some (.int .u64 y8) := hY.wx 8 rfl
  refine wp_region_grown (by kernel_rfl) (by kernel_rfl) ?_
  repeat (go_big_quiet_step (fail))
  refine wpQuiet_nil ?_
  intro v8 hv8
  have hB8' : Below w.heap.size w v8 := hB.trans (hv8.mono hB.size)
  replace hX := hX.below hv8 hX.lt
  replace hY := hY.below hv8 hY.lt
  clear hB p8 q8
  rename Below w.heap.size w v8 => hB
  by_cases h8 : x8 = y8
  rotate_left
  · have hn : ((x8 : Int) != (y8 : Int)) = true := by simp; omega
    have hn' : ¬ ((x8 : Int) = (y8 : Int)) := by omega
    go_wp2
    rw [Exit.noGoto_ret]
    refine bodyPost_ret (v := .int .i64 8) ?_ rfl ⟨by simp [*], hB⟩
    simp [results, Tryz.results248, go_sem]
  have hn : ((x8 : Int) != (y8 : Int)) = false := by simp; omega
  have hn' : ((x8 : Int) = (y8 : Int)) := by omega
  go_wp2
  clear hn hn'
  rw [rounds_succ]
  go_wp2
  have p7 : ∀ x : WX v8, x.w.cell? ⟨w2.heap.size, 7, none⟩ = some (.int .u64 x7) := hX.wx 7 rfl
  have q7 : ∀ x : WX v8, x.w.cell? ⟨w2.heap.size + 1, 7, none⟩ = some (.int .u64 y7) := hY.wx 7 rfl
  refine wp_region_grown (by kernel_rfl) (by kernel_rfl) ?_
  repeat (go_big_quiet_step (fail))
  refine wpQuiet_nil ?_
  intro v7 hv7
  have hB7' : Below w.heap.size w v7 := hB.trans (hv7.mono hB.size)
  replace hX := hX.below hv7 hX.lt
  replace hY := hY.below hv7 hY.lt
  clear hB p7 q7
  rename Below w.heap.size w v7 => hB
  by_cases h7 : x7 = y7
  rotate_left
  · have hn : ((x7 : Int) != (y7 : Int)) = true := by simp; omega
    have hn' : ¬ ((x7 : Int) = (y7 : Int)) := by omega
    go_wp2
    rw [Exit.noGoto_ret]
    refine bodyPost_ret (v := .int .i64 7) ?_ rfl ⟨by simp [*], hB⟩
    simp [results, Tryz.results248, go_sem]
  have hn : ((x7 : Int) != (y7 : Int)) = false := by simp; omega
  have hn' : ((x7 : Int) = (y7 : Int)) := by omega
  go_wp2
  clear hn hn'
  rw [rounds_succ]
  go_wp2
  have p6 : ∀ x : WX v7, x.w.cell? ⟨w2.heap.size, 6, none⟩ = some (.int .u64 x6) := hX.wx 6 rfl
  have q6 : ∀ x : WX v7, x.w.cell? ⟨w2.heap.size + 1, 6, none⟩ = some (.int .u64 y6) := hY.wx 6 rfl
  refine wp_region_grown (by kernel_rfl) (by kernel_rfl) ?_
  repeat (go_big_quiet_step (fail))
  refine wpQuiet_nil ?_
  intro v6 hv6
  have hB6' : Below w.heap.size w v6 := hB.trans (hv6.mono hB.size)
  replace hX := hX.below hv6 hX.lt
  replace hY := hY.below hv6 hY.lt
  clear hB p6 q6
  rename Below w.heap.size w v6 => hB
  by_cases h6 : x6 = y6
  rotate_left
  · have hn : ((x6 : Int) != (y6 : Int)) = true := by simp; omega
    have hn' : ¬ ((x6 : Int) = (y6 : Int)) := by omega
    go_wp2
    rw [Exit.noGoto_ret]
    refine bodyPost_ret (v := .int .i64 6) ?_ rfl ⟨by simp [*], hB⟩
    simp [results, Tryz.results248, go_sem]
  have hn : ((x6 : Int) != (y6 : Int)) = false := by simp; omega
  have hn' : ((x6 : Int) = (y6 : Int)) := by omega
  go_wp2
  clear hn hn'
  rw [rounds_succ]
  go_wp2
  have p5 : ∀ x : WX v6, x.w.cell? ⟨w2.heap.size, 5, none⟩ = some (.int .u64 x5) := hX.wx 5 rfl
  have q5 : ∀ x : WX v6, x.w.cell? ⟨w2.heap.size + 1, 5, none⟩ = some (.int .u64 y5) := hY.wx 5 rfl
  refine wp_region_grown (by kernel_rfl) (by kernel_rfl) ?_
  repeat (go_big_quiet_step (fail))
  refine wpQuiet_nil ?_
  intro v5 hv5
  have hB5' : Below w.heap.size w v5 := hB.trans (hv5.mono hB.size)
  replace hX := hX.below hv5 hX.lt
  replace hY := hY.below hv5 hY.lt
  clear hB p5 q5
  rename Below w.heap.size w v5 => hB
  by_cases h5 : x5 = y5
  rotate_left
  · have hn : ((x5 : Int) != (y5 : Int)) = true := by simp; omega
    have hn' : ¬ ((x5 : Int) = (y5 : Int)) := by omega
    go_wp2
    rw [Exit.noGoto_ret]
    refine bodyPost_ret (v := .int .i64 5) ?_ rfl ⟨by simp [*], hB⟩
    simp [results, Tryz.results248, go_sem]
  have hn : ((x5 : Int) != (y5 : Int)) = false := by simp; omega
  have hn' : ((x5 : Int) = (y5 : Int)) := by omega
  go_wp2
  clear hn hn'
  rw [rounds_succ]
  go_wp2
  have p4 : ∀ x : WX v5, x.w.cell? ⟨w2.heap.size, 4, none⟩ = some (.int .u64 x4) := hX.wx 4 rfl
  have q4 : ∀ x : WX v5, x.w.cell? ⟨w2.heap.size + 1, 4, none⟩ = some (.int .u64 y4) := hY.wx 4 rfl
  refine wp_region_grown (by kernel_rfl) (by kernel_rfl) ?_
  repeat (go_big_quiet_step (fail))
  refine wpQuiet_nil ?_
  intro v4 hv4
  have hB4' : Below w.heap.size w v4 := hB.trans (hv4.mono hB.size)
  replace hX := hX.below hv4 hX.lt
  replace hY := hY.below hv4 hY.lt
  clear hB p4 q4
  rename Below w.heap.size w v4 => hB
  by_cases h4 : x4 = y4
  rotate_left
  · have hn : ((x4 : Int) != (y4 : Int)) = true := by simp; omega
    have hn' : ¬ ((x4 : Int) = (y4 : Int)) := by omega
    go_wp2
    rw [Exit.noGoto_ret]
    refine bodyPost_ret (v := .int .i64 4) ?_ rfl ⟨by simp [*], hB⟩
    simp [results, Tryz.results248, go_sem]
  have hn : ((x4 : Int) != (y4 : Int)) = false := by simp; omega
  have hn' : ((x4 : Int) = (y4 : Int)) := by omega
  go_wp2
  clear hn hn'
  rw [rounds_succ]
  go_wp2
  have p3 : ∀ x : WX v4, x.w.cell? ⟨w2.heap.size, 3, none⟩ = some (.int .u64 x3) := hX.wx 3 rfl
  have q3 : ∀ x : WX v4, x.w.cell? ⟨w2.heap.size + 1, 3, none⟩ = some (.int .u64 y3) := hY.wx 3 rfl
  refine wp_region_grown (by kernel_rfl) (by kernel_rfl) ?_
  repeat (go_big_quiet_step (fail))
  refine wpQuiet_nil ?_
  intro v3 hv3
  have hB3' : Below w.heap.size w v3 := hB.trans (hv3.mono hB.size)
  replace hX := hX.below hv3 hX.lt
  replace hY := hY.below hv3 hY.lt
  clear hB p3 q3
  rename Below w.heap.size w v3 => hB
  by_cases h3 : x3 = y3
  rotate_left
  · have hn : ((x3 : Int) != (y3 : Int)) = true := by simp; omega
    have hn' : ¬ ((x3 : Int) = (y3 : Int)) := by omega
    go_wp2
    rw [Exit.noGoto_ret]
    refine bodyPost_ret (v := .int .i64 3) ?_ rfl ⟨by simp [*], hB⟩
    simp [results, Tryz.results248, go_sem]
  have hn : ((x3 : Int) != (y3 : Int)) = false := by simp; omega
  have hn' : ((x3 : Int) = (y3 : Int)) := by omega
  go_wp2
  clear hn hn'
  rw [rounds_succ]
  go_wp2
  have p2 : ∀ x : WX v3, x.w.cell? ⟨w2.heap.size, 2, none⟩ = some (.int .u64 x2) := hX.wx 2 rfl
  have q2 : ∀ x : WX v3, x.w.cell? ⟨w2.heap.size + 1, 2, none⟩ = some (.int .u64 y2) := hY.wx 2 rfl
  refine wp_region_grown (by kernel_rfl) (by kernel_rfl) ?_
  repeat (go_big_quiet_step (fail))
  refine wpQuiet_nil ?_
  intro v2 hv2
  have hB2' : Below w.heap.size w v2 := hB.trans (hv2.mono hB.size)
  replace hX := hX.below hv2 hX.lt
  replace hY := hY.below hv2 hY.lt
  clear hB p2 q2
  rename Below w.heap.size w v2 => hB
  by_cases h2 : x2 = y2
  rotate_left
  · have hn : ((x2 : Int) != (y2 : Int)) = true := by simp; omega
    have hn' : ¬ ((x2 : Int) = (y2 : Int)) := by omega
    go_wp2
    rw [Exit.noGoto_ret]
    refine bodyPost_ret (v := .int .i64 2) ?_ rfl ⟨by simp [*], hB⟩
    simp [results, Tryz.results248, go_sem]
  have hn : ((x2 : Int) != (y2 : Int)) = false := by simp; omega
  have hn' : ((x2 : Int) = (y2 : Int)) := by omega
  go_wp2
  clear hn hn'
  rw [rounds_succ]
  go_wp2
  have p1 : ∀ x : WX v2, x.w.cell? ⟨w2.heap.size, 1, none⟩ = some (.int .u64 x1) := hX.wx 1 rfl
  have q1 : ∀ x : WX v2, x.w.cell? ⟨w2.heap.size + 1, 1, none⟩ = some (.int .u64 y1) := hY.wx 1 rfl
  refine wp_region_grown (by kernel_rfl) (by kernel_rfl) ?_
  repeat (go_big_quiet_step (fail))
  refine wpQuiet_nil ?_
  intro v1 hv1
  have hB1' : Below w.heap.size w v1 := hB.trans (hv1.mono hB.size)
  replace hX := hX.below hv1 hX.lt
  replace hY := hY.below hv1 hY.lt
  clear hB p1 q1
  rename Below w.heap.size w v1 => hB
  by_cases h1 : x1 = y1
  rotate_left
  · have hn : ((x1 : Int) != (y1 : Int)) = true := by simp; omega
    have hn' : ¬ ((x1 : Int) = (y1 : Int)) := by omega
    go_wp2
    rw [Exit.noGoto_ret]
    refine bodyPost_ret (v := .int .i64 1) ?_ rfl ⟨by simp [*], hB⟩
    simp [results, Tryz.results248, go_sem]
  have hn : ((x1 : Int) != (y1 : Int)) = false := by simp; omega
  have hn' : ((x1 : Int) = (y1 : Int)) := by omega
  go_wp2
  clear hn hn'
  rw [rounds_succ]
  go_wp2
  rw [Exit.noGoto_ret]
  refine bodyPost_ret (v := .int .i64 0) ?_ rfl ⟨by simp [*], hB⟩
  simp [results, Tryz.results248, go_sem]
end Go.Proofs.YtkndlfdpmpdihaaGreatDoor
namespace Go.Proofs.YtkndlfdpmpdihaaGreatDoor
open Go.RowKit Go.Ev Go.Mv
set_option linter.unusedVariables false
set_option linter.unusedSimpArgs false
set_option maxRecDepth 100000
/-- The greatest level in which two numbers part; 0 if they part in none above. -/
def topN (b d : Nat) : Nat := if b / 281474976710656 ≠ d / 281474976710656 then 8 else if b / 4398046511104 % 64 ≠ d / 4398046511104 % 64 then 7 else if b / 68719476736 % 64 ≠ d / 68719476736 % 64 then 6 else if b / 1073741824 % 64 ≠ d / 1073741824 % 64 then 5 else if b / 16777216 % 64 ≠ d / 16777216 % 64 then 4 else if b / 262144 % 64 ≠ d / 262144 % 64 then 3 else if b / 4096 % 64 ≠ d / 4096 % 64 then 2 else if b / 64 % 64 ≠ d / 64 % 64 then 1 else 0
/-- A level's digit. -/
def digN (n : Nat) : Nat → Nat
  | 0 => n % 64
  | 1 => n / 64 % 64
  | 2 => n / 4096 % 64
  | 3 => n / 262144 % 64
  | 4 => n / 16777216 % 64
  | 5 => n / 1073741824 % 64
  | 6 => n / 68719476736 % 64
  | 7 => n / 4398046511104 % 64
  | _ => 0
/-- Where a deadline belongs. -/
def placeOf (b d : Nat) : Int × Int := if d ≤ b then (-1, 0) else if topN b d = 8 then (8, 0) else ((topN b d : Nat), (digN d (topN b d) : Nat))
theorem digs_inj (b d : Nat) (h : b % 64 = d % 64 ∧ b / 64 % 64 = d / 64 % 64 ∧ b / 4096 % 64 = d / 4096 % 64 ∧ b / 262144 % 64 = d / 262144 % 64 ∧ b / 16777216 % 64 = d / 16777216 % 64 ∧ b / 1073741824 % 64 = d / 1073741824 % 64 ∧ b / 68719476736 % 64 = d / 68719476736 % 64 ∧ b / 4398046511104 % 64 = d / 4398046511104 % 64 ∧ b / 281474976710656 = d / 281474976710656) : b = d := by
  omega
theorem topN_le (b d : Nat) : topN b d ≤ 8 := by
  unfold topN
  repeat' split
  all_goals omega
theorem top_at (b d : Nat) (hb : b < 18446744073709551616) (hd : d < 18446744073709551616) (hlt : b < d) (w : World) : Calls Tryz.prog 248 #[.int .u64 b, .int .u64 d] w fun e w' => e = .returned (.int .i64 (topN b d : Nat)) ∧ Below w.heap.size w w' := by
  refine top_core (digits_at b hb) (digits_at d hd) ?_ w
  rw [beq_eq_false_iff_ne]
  intro he
  simp only [List.cons.injEq, and_true] at he
  have := digs_inj b d (by obtain ⟨h0, h1, h2, h3, h4, h5, h6, h7, h8⟩ := he; exact ⟨by exact_mod_cast h0, by exact_mod_cast h1, by exact_mod_cast h2, by exact_mod_cast h3, by exact_mod_cast h4, by exact_mod_cast h5, by exact_mod_cast h6, by exact_mod_cast h7, by exact_mod_cast h8⟩)
  omega
theorem late_at (w : World) : Calls Tryz.prog 172 #[] w fun e w' => e = .returned (.agg #[.int .i64 (-1), .int .i64 0]) ∧ Below w.heap.size w w' := by
  go_enter Tryz.func172, Tryz.ntmps172
  go_wp2
  refine bodyPost_ret (v := .agg #[.int .i64 (-1), .int .i64 0]) ?_ rfl ⟨rfl, (Below.refl _ _).alloc (Nat.le_refl _) _⟩
  simp [results, Tryz.results172, go_sem]
theorem far_at (w : World) : Calls Tryz.prog 174 #[] w fun e w' => e = .returned (.agg #[.int .i64 8, .int .i64 0]) ∧ Below w.heap.size w w' := by
  go_enter Tryz.func174, Tryz.ntmps174
  go_wp2
  refine bodyPost_ret (v := .agg #[.int .i64 8, .int .i64 0]) ?_ rfl ⟨rfl, (Below.refl _ _).alloc (Nat.le_refl _) _⟩
  simp [results, Tryz.results174, go_sem]
theorem of_core {b d k : Nat} {v : Int} (hlt : b < d) (htop : ∀ w, Calls Tryz.prog 248 #[.int .u64 b, .int .u64 d] w fun e w' => e = .returned (.int .i64 (k : Nat)) ∧ Below w.heap.size w w') (hk : k < 8)
    (hdig : ∀ w, Calls Tryz.prog 241 #[.int .u64 d, .int .i64 k] w fun e w' => e = .returned (.int .i64 v) ∧ Below w.heap.size w w') (w : World) : Calls Tryz.prog 180 #[.int .u64 b, .int .u64 d] w fun e w' => e = .returned (.agg #[.int .i64 k, .int .i64 v]) ∧ Below w.heap.size w w' := by
  have hn : ¬ ((d : Int) ≤ (b : Int)) := by omega
  have hk' : ¬ ((8 : Int) ≤ (k : Int)) := by omega
  have hR := Blk.new w #[.int .i64 0, .int .i64 0] 219
  have hBa : Below w.heap.size w (w.alloc (.cells #[.int .i64 0, .int .i64 0] 219)) := (Below.refl _ w).alloc (Nat.le_refl _) _
  have HT := Lib.hid htop
  have HD := Lib.hid hdig
  clear htop hdig
  go_enter Tryz.func180, Tryz.ntmps180
  go_wp2_with (go_at_call 248; fail)
  refine (HT.out _).mono ?_
  rintro e w1 ⟨rfl, hb1⟩
  go_wp2_with (go_at_call 241; fail)
  refine (HD.out _).mono ?_
  rintro e w2 ⟨rfl, hb2⟩
  have hR2 := (hR.below hb1 hR.lt).below hb2 (Nat.lt_of_lt_of_le hR.lt hb1.size)
  have q0 := hR2.cell 0 rfl
  have q1 := hR2.cell 1 rfl
  have f0 := hR2.free 0
  have f1 := hR2.free 1
  go_wp2
  have e1 := (hR2.set 0 (.int .i64 k)).set 1 (.int .i64 v)
  have hB2 : Below w.heap.size w w2 := hBa.trans ((hb1.trans (hb2.mono hb1.size)).mono hBa.size)
  refine bodyPost_ret (v := .agg #[.int .i64 k, .int .i64 v]) ?_ rfl ⟨rfl, (hB2.setCell (Nat.le_refl _) _).setCell (Nat.le_refl _) _⟩
  simp [results, Tryz.results180, go_sem, e1.cell 0 rfl, e1.cell 1 rfl]
theorem of_far {b d : Nat} (hlt : b < d) (htop : ∀ w, Calls Tryz.prog 248 #[.int .u64 b, .int .u64 d] w fun e w' => e = .returned (.int .i64 8) ∧ Below w.heap.size w w') (w : World) : Calls Tryz.prog 180 #[.int .u64 b, .int .u64 d] w fun e w' => e = .returned (.agg #[.int .i64 8, .int .i64 0]) ∧ Below w.heap.size w w' := by
  have hn : ¬ ((d : Int) ≤ (b : Int)) := by omega
  have hR := Blk.new w #[.int .i64 0, .int .i64 0] 219
  have hBa : Below w.heap.size w (w.alloc (.cells #[.int .i64 0, .int .i64 0] 219)) := (Below.refl _ w).alloc (Nat.le_refl _) _
  have HT := Lib.hid htop
  clear htop
  go_enter Tryz.func180, Tryz.ntmps180
  go_wp2_with (go_at_call 248; fail)
  refine (HT.out _).mono ?_
  rintro e w1 ⟨rfl, hb1⟩
  go_wp2_with (go_at_call 174; fail)
  refine (far_at _).mono ?_
  rintro e w2 ⟨rfl, hb2⟩
  have hR2 := (hR.below hb1 hR.lt).below hb2 (Nat.lt_of_lt_of_le hR.lt hb1.size)
  have q0 := hR2.cell 0 rfl
  have q1 := hR2.cell 1 rfl
  have f0 := hR2.free 0
  have f1 := hR2.free 1
  go_wp2
  have e1 := (hR2.set 0 (.int .i64 8)).set 1 (.int .i64 0)
  have hB2 : Below w.heap.size w w2 := hBa.trans ((hb1.trans (hb2.mono hb1.size)).mono hBa.size)
  refine bodyPost_ret (v := .agg #[.int .i64 8, .int .i64 0]) ?_ rfl ⟨rfl, (hB2.setCell (Nat.le_refl _) _).setCell (Nat.le_refl _) _⟩
  simp [results, Tryz.results180, go_sem, e1.cell 0 rfl, e1.cell 1 rfl]
theorem of_late {b d : Nat} (hle : d ≤ b) (w : World) : Calls Tryz.prog 180 #[.int .u64 b, .int .u64 d] w fun e w' => e = .returned (.agg #[.int .i64 (-1), .int .i64 0]) ∧ Below w.heap.size w w' := by
  have hn : ((d : Int) ≤ (b : Int)) := by omega
  have hR := Blk.new w #[.int .i64 0, .int .i64 0] 219
  have hBa : Below w.heap.size w (w.alloc (.cells #[.int .i64 0, .int .i64 0] 219)) := (Below.refl _ w).alloc (Nat.le_refl _) _
  go_enter Tryz.func180, Tryz.ntmps180
  go_wp2_with (go_at_call 172; fail)
  refine (late_at _).mono ?_
  rintro e w2 ⟨rfl, hb2⟩
  have hR2 := hR.below hb2 hR.lt
  have q0 := hR2.cell 0 rfl
  have q1 := hR2.cell 1 rfl
  have f0 := hR2.free 0
  have f1 := hR2.free 1
  go_wp2
  have e1 := (hR2.set 0 (.int .i64 (-1))).set 1 (.int .i64 0)
  have hB2 : Below w.heap.size w w2 := hBa.trans (hb2.mono hBa.size)
  refine bodyPost_ret (v := .agg #[.int .i64 (-1), .int .i64 0]) ?_ rfl ⟨rfl, (hB2.setCell (Nat.le_refl _) _).setCell (Nat.le_refl _) _⟩
  simp [results, Tryz.results180, go_sem, e1.cell 0 rfl, e1.cell 1 rfl]
theorem of_at (b d : Nat) (hb : b < 18446744073709551616) (hd : d < 18446744073709551616) (w : World) : Calls Tryz.prog 180 #[.int .u64 b, .int .u64 d] w fun e w' => e = .returned (.agg #[.int .i64 (placeOf b d).1, .int .i64 (placeOf b d).2]) ∧ Below w.heap.size w w' := by
  by_cases hle : d ≤ b
  · have e : placeOf b d = (-1, 0) := if_pos hle
    rw [e]
    exact of_late hle w
  · have hlt : b < d := by omega
    have ht := top_at b d hb hd hlt
    have e : placeOf b d = (if topN b d = 8 then ((8 : Int), (0 : Int)) else (((topN b d : Nat) : Int), ((digN d (topN b d) : Nat) : Int))) := if_neg hle
    rw [e]
    have hk := topN_le b d
    generalize topN b d = k at *
    match k, hk with
    | 0, _ => exact of_core (k := 0) hlt ht (by omega) (digit_0 d hd) w
    | 1, _ => exact of_core (k := 1) hlt ht (by omega) (digit_1 d hd) w
    | 2, _ => exact of_core (k := 2) hlt ht (by omega) (digit_2 d hd) w
    | 3, _ => exact of_core (k := 3) hlt ht (by omega) (digit_3 d hd) w
    | 4, _ => exact of_core (k := 4) hlt ht (by omega) (digit_4 d hd) w
    | 5, _ => exact of_core (k := 5) hlt ht (by omega) (digit_5 d hd) w
    | 6, _ => exact of_core (k := 6) hlt ht (by omega) (digit_6 d hd) w
    | 7, _ => exact of_core (k := 7) hlt ht (by omega) (digit_7 d hd) w
    | 8, _ => exact of_far hlt ht w
end Go.Proofs.YtkndlfdpmpdihaaGreatDoor
namespace Go.Proofs.YtkndlfdpmpdihaaGreatDoor
open Go.RowKit Go.Ev Go.Mv
set_option linter.unusedVariables false
set_option linter.unusedSimpArgs false
set_option maxRecDepth 100000
/-- Eight words. -/
def arr8 (m : Nat → Nat) : Array Value := #[.int .u64 (m 0), .int .u64 (m 1), .int .u64 (m 2), .int .u64 (m 3), .int .u64 (m 4), .int .u64 (m 5), .int .u64 (m 6), .int .u64 (m 7)]
theorem arr8_at (m : Nat → Nat) (l : Nat) (hl : l < 8) : (arr8 m)[l]? = some (.int .u64 (m l)) := by
  match l, hl with
  | 0, _ => rfl
  | 1, _ => rfl
  | 2, _ => rfl
  | 3, _ => rfl
  | 4, _ => rfl
  | 5, _ => rfl
  | 6, _ => rfl
  | 7, _ => rfl
theorem arr8_set (m : Nat → Nat) (l v : Nat) (hl : l < 8) : (arr8 m).setIfInBounds l (.int .u64 v) = arr8 (fset m l v) := by
  apply Array.ext_getElem?
  intro i
  by_cases hi : i < 8
  · rw [arr8_at _ _ hi]
    by_cases h : l = i
    · subst h
      rw [Array.getElem?_setIfInBounds_self, fset_same]
      have : (arr8 m).size = 8 := rfl
      rw [if_pos (by omega)]
    · rw [Array.getElem?_setIfInBounds_ne h, arr8_at _ _ hi, fset_ne _ _ (Ne.symm h)]
  · rw [Array.getElem?_eq_none (by rw [Array.size_setIfInBounds]; exact Nat.le_of_not_lt hi), Array.getElem?_eq_none (by exact Nat.le_of_not_lt hi)]
theorem bit_at (l s : Nat) (hl : l < 8) (hs : s < 64) (w : World) : Calls Tryz.prog 247 #[.int .i64 l, .int .i64 s] w fun e w' => e = .returned (.int .u64 (2 ^ s : Nat)) ∧ w' = w := by
  obtain ⟨bit, hbit⟩ : ∃ bit : Nat, bit = 2 ^ s := ⟨_, rfl⟩
  have hb63 : bit ≤ 2 ^ 63 := by rw [hbit]; exact Nat.pow_le_pow_right (by omega) (by omega)
  have hp : IntKind.u64.wrap ((2 : Int) ^ s) = (bit : Int) := by
    have e : ((2 : Int) ^ s) = (bit : Int) := by rw [hbit]; simp
    rw [e]
    exact IntWalk.u64_in _ ⟨by omega, by omega⟩
  rw [← hbit]
  clear hbit
  have h1 : ¬ ((l : Int) < 0) := by omega
  have h2 : ¬ ((8 : Int) ≤ (l : Int)) := by omega
  have h3 : ¬ ((s : Int) < 0) := by omega
  have h4 : ¬ ((64 : Int) ≤ (s : Int)) := by omega
  go_enter Tryz.func247, Tryz.ntmps247
  go_wp2
  refine bodyPost_ret (v := .int .u64 (bit : Nat)) ?_ rfl ⟨rfl, rfl⟩
  simp [results, Tryz.results247, go_sem]
theorem bitNo_at {l : Int} (s : Int) (hl : l < 0 ∨ 8 ≤ l) (w : World) : Calls Tryz.prog 247 #[.int .i64 l, .int .i64 s] w fun e w' => e = .returned (.int .u64 0) ∧ w' = w := by
  rcases hl with hl | hl
  · go_enter Tryz.func247, Tryz.ntmps247
    go_wp2
    refine bodyPost_ret (v := .int .u64 0) ?_ rfl ⟨rfl, rfl⟩
    simp [results, Tryz.results247, go_sem]
  · have hn : ¬ (l < 0) := by omega
    go_enter Tryz.func247, Tryz.ntmps247
    go_wp2
    refine bodyPost_ret (v := .int .u64 0) ?_ rfl ⟨rfl, rfl⟩
    simp [results, Tryz.results247, go_sem]
end Go.Proofs.YtkndlfdpmpdihaaGreatDoor
