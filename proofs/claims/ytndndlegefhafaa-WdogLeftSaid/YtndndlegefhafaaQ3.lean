/- The law's own functions: a call, of both. Conditions: those that each statement shows. -/
import Derived.Test.YtndndlegefhafaaQ2
import Derived.Deep.RegionHeld3
import Derived.RegionTactic
import Derived.ChangeAlike
namespace Go.Proofs.Ytndndlegefhafaa
open Go.RowKit
set_option linter.unusedVariables false
set_option linter.unusedSimpArgs false

/-- What Do answers. -/
def DoP (w : World) (b : Nat) (s' : WS) (e : Ending) (w' : World) : Prop :=
  ∃ b' sb, e = .returned (.tuple #[.pointer (some ⟨b', 0, none⟩), .agg s'.cs, .bool true]) ∧ Stored w w' b sb ∧ HW w' b' s' ∧ (b' = b ∨ w.heap.size ≤ b')
theorem three_below (w : World) (o1 o2 o3 : Obj) : Below w.heap.size w (((w.alloc o1).alloc o2).alloc o3) :=
  (((Below.refl w.heap.size w).alloc (Nat.le_refl _) o1).alloc (by simp) o2).alloc (by simp; omega) o3
theorem DoP.same {w w' : World} {b : Nat} {s' : WS} (h : Stored w w' b s') : DoP w b s' (.returned (.tuple #[.pointer (some ⟨b, 0, none⟩), .agg s'.cs, .bool true])) w' := ⟨b, s', rfl, h, h.hc, Or.inl rfl⟩

section
variable {b : Nat} {s : WS} {w : World}

set_option maxHeartbeats 2000000 in
theorem do_else (h : s.Ok) (hc : HW w b s) (k n off v : Int) (k0 : k ≠ 0) (k1 : k ≠ 1) (k2 : k ≠ 2) (k3 : k ≠ 3) (k4 : k ≠ 4) :
    Calls Try.prog 19 #[.pointer (some ⟨b, 0, none⟩), .agg s.cs, .agg #[I k, L n, U off, U v]] w (DoP w b s) := by
  have blt := hc.lt
  have H := Lib.hid (show HW (((w.alloc (.cells s.cs 40)).alloc (.cells #[I k, L n, U off, U v] 44)).alloc (.cells wz 40)) b s from (((hc.alloc _).alloc _).alloc _))
  have B := Lib.hid (((((Below.refl w.heap.size w).alloc (Nat.le_refl _) (.cells s.cs 40)).alloc (by simp) (.cells #[I k, L n, U off, U v] 44)).alloc (by simp; omega) (.cells wz 40)))
  have S := Lib.hid (Stored.of_below B.out H.out)
  have M := Lib.hid (show Blk (((w.alloc (.cells s.cs 40)).alloc (.cells #[I k, L n, U off, U v] 44)).alloc (.cells wz 40)) w.heap.size s.cs 40 from ((Blk.new w s.cs 40).alloc _).alloc _)
  have A := Lib.hid (show Blk (((w.alloc (.cells s.cs 40)).alloc (.cells #[I k, L n, U off, U v] 44)).alloc (.cells wz 40)) (w.heap.size + 1) #[I k, L n, U off, U v] 44 from (show Blk ((w.alloc (.cells s.cs 40)).alloc (.cells #[I k, L n, U off, U v] 44)) (w.heap.size + 1) #[I k, L n, U off, U v] 44 by simpa using Blk.new (w.alloc (.cells s.cs 40)) #[I k, L n, U off, U v] 44).alloc _)
  have Z := Lib.hid (show Blk (((w.alloc (.cells s.cs 40)).alloc (.cells #[I k, L n, U off, U v] 44)).alloc (.cells wz 40)) (w.heap.size + 2) wz 40 by simpa using Blk.new ((w.alloc (.cells s.cs 40)).alloc (.cells #[I k, L n, U off, U v] 44)) wz 40)
  have q0 : (k == 0) = false := by simp [k0]
  have q1 : (k == 1) = false := by simp [k1]
  have q2 : (k == 2) = false := by simp [k2]
  have q3 : (k == 3) = false := by simp [k3]
  have q4 : (k == 4) = false := by simp [k4]
  go_enter Try.func19, Try.ntmps19
  go_wp2_with fail
  go_region
  go_wp2
  refine bodyPost_ret (v := .tuple #[.pointer (some ⟨b, 0, none⟩), .agg s.cs, .bool true]) (by simp [results, Try.results19, go_sem]) rfl ?_
  exact DoP.same (Stored.of_below (three_below w _ _ _) (((hc.alloc _).alloc _).alloc _)).drew
set_option maxHeartbeats 2000000 in
theorem do_3 (h : s.Ok) (hc : HW w b s) (n off v : Int)  :
    Calls Try.prog 19 #[.pointer (some ⟨b, 0, none⟩), .agg s.cs, .agg #[I 3, L n, U off, U v]] w (DoP w b WS.zero) := by
  have blt := hc.lt
  have H := Lib.hid (show HW (((w.alloc (.cells s.cs 40)).alloc (.cells #[I 3, L n, U off, U v] 44)).alloc (.cells wz 40)) b s from (((hc.alloc _).alloc _).alloc _))
  have B := Lib.hid (((((Below.refl w.heap.size w).alloc (Nat.le_refl _) (.cells s.cs 40)).alloc (by simp) (.cells #[I 3, L n, U off, U v] 44)).alloc (by simp; omega) (.cells wz 40)))
  have S := Lib.hid (Stored.of_below B.out H.out)
  have M := Lib.hid (show Blk (((w.alloc (.cells s.cs 40)).alloc (.cells #[I 3, L n, U off, U v] 44)).alloc (.cells wz 40)) w.heap.size s.cs 40 from ((Blk.new w s.cs 40).alloc _).alloc _)
  have A := Lib.hid (show Blk (((w.alloc (.cells s.cs 40)).alloc (.cells #[I 3, L n, U off, U v] 44)).alloc (.cells wz 40)) (w.heap.size + 1) #[I 3, L n, U off, U v] 44 from (show Blk ((w.alloc (.cells s.cs 40)).alloc (.cells #[I 3, L n, U off, U v] 44)) (w.heap.size + 1) #[I 3, L n, U off, U v] 44 by simpa using Blk.new (w.alloc (.cells s.cs 40)) #[I 3, L n, U off, U v] 44).alloc _)
  have Z := Lib.hid (show Blk (((w.alloc (.cells s.cs 40)).alloc (.cells #[I 3, L n, U off, U v] 44)).alloc (.cells wz 40)) (w.heap.size + 2) wz 40 by simpa using Blk.new ((w.alloc (.cells s.cs 40)).alloc (.cells #[I 3, L n, U off, U v] 44)) wz 40)
  go_enter Try.func19, Try.ntmps19
  have hne0 : w.heap.size ≠ b := by omega
  have hne1 : w.heap.size + 1 ≠ b := by omega
  have hne2 : w.heap.size + 2 ≠ b := by omega
  go_wp2_with ((go_at_call 22; fail))
  refine (reset_any H.out).mono ?_
  rintro e w2 ⟨rfl, T2⟩
  have M2 := M.out.stored T2 hne0; have A2 := A.out.stored T2 hne1; have Z2 := Z.out.stored T2 hne2; have S2 := S.out.trans T2
  have z20 := Z2.cell 0 rfl; have y20 := Z2.free 0; have z21 := Z2.cell 1 rfl; have y21 := Z2.free 1; have z22 := Z2.cell 2 rfl; have y22 := Z2.free 2; have z23 := Z2.cell 3 rfl; have y23 := Z2.free 3; have z24 := Z2.cell 4 rfl; have y24 := Z2.free 4; have z25 := Z2.cell 5 rfl; have y25 := Z2.free 5; have z26 := Z2.cell 6 rfl; have y26 := Z2.free 6
  go_wp2
  refine bodyPost_ret (v := .tuple #[.pointer (some ⟨b, 0, none⟩), .agg WS.zero.cs, .bool true]) (by simp [results, Try.results19, go_sem, WS.zero, z20, z21, z22, z23, z24, z25, z26]) rfl ?_
  refine DoP.same ?_
  iterate 7 (refine Stored.set_ne ?_ (Nat.le_add_right _ 2) blt _ _)
  exact S2
set_option maxHeartbeats 2000000 in
theorem do_1 (h : s.Ok) (hc : HW w b s) (n off v : Int) (o0 : 0 ≤ off) (o1 : off ≤ 4294967295) :
    Calls Try.prog 19 #[.pointer (some ⟨b, 0, none⟩), .agg s.cs, .agg #[I 1, L n, U off, U v]] w (DoP w b s) := by
  have blt := hc.lt
  have H := Lib.hid (show HW (((w.alloc (.cells s.cs 40)).alloc (.cells #[I 1, L n, U off, U v] 44)).alloc (.cells wz 40)) b s from (((hc.alloc _).alloc _).alloc _))
  have B := Lib.hid (((((Below.refl w.heap.size w).alloc (Nat.le_refl _) (.cells s.cs 40)).alloc (by simp) (.cells #[I 1, L n, U off, U v] 44)).alloc (by simp; omega) (.cells wz 40)))
  have S := Lib.hid (Stored.of_below B.out H.out)
  have M := Lib.hid (show Blk (((w.alloc (.cells s.cs 40)).alloc (.cells #[I 1, L n, U off, U v] 44)).alloc (.cells wz 40)) w.heap.size s.cs 40 from ((Blk.new w s.cs 40).alloc _).alloc _)
  have A := Lib.hid (show Blk (((w.alloc (.cells s.cs 40)).alloc (.cells #[I 1, L n, U off, U v] 44)).alloc (.cells wz 40)) (w.heap.size + 1) #[I 1, L n, U off, U v] 44 from (show Blk ((w.alloc (.cells s.cs 40)).alloc (.cells #[I 1, L n, U off, U v] 44)) (w.heap.size + 1) #[I 1, L n, U off, U v] 44 by simpa using Blk.new (w.alloc (.cells s.cs 40)) #[I 1, L n, U off, U v] 44).alloc _)
  have Z := Lib.hid (show Blk (((w.alloc (.cells s.cs 40)).alloc (.cells #[I 1, L n, U off, U v] 44)).alloc (.cells wz 40)) (w.heap.size + 2) wz 40 by simpa using Blk.new ((w.alloc (.cells s.cs 40)).alloc (.cells #[I 1, L n, U off, U v] 44)) wz 40)
  go_enter Try.func19, Try.ntmps19
  have hne0 : w.heap.size ≠ b := by omega
  have hne1 : w.heap.size + 1 ≠ b := by omega
  have hne2 : w.heap.size + 2 ≠ b := by omega
  obtain ⟨x, y, hxy⟩ : ∃ x y, Hid (s.loadB off = (x, y)) := ⟨_, _, Lib.hid rfl⟩
  go_wp2_with ((go_at_call 30; fail))
  refine (loadR_of s h _ _ _ o0 o1 hxy _).mono ?_
  rintro e w2 ⟨rfl, hb2⟩
  have M2 := M.out.below hb2 M.out.lt; have A2 := A.out.below hb2 A.out.lt; have Z2 := Z.out.below hb2 Z.out.lt; have S2 := S.out.then hb2
  have a20 := A2.cell 0 rfl; have a21 := A2.cell 1 rfl; have a22 := A2.cell 2 rfl; have a23 := A2.cell 3 rfl
  go_wp2_with ((go_at_call 18; fail))
  clear a20 a21 a22 a23
  refine (load_of h S2.hc _ _ _ o0 o1 hxy).mono ?_
  rintro e w3 ⟨rfl, hb3⟩
  have M3 := M2.below hb3 M2.lt; have Z3 := Z2.below hb3 Z2.lt; have S3 := S2.then hb3
  have d30 := M3.cell 0 rfl; have d31 := M3.cell 1 rfl; have d32 := M3.cell 2 rfl; have d33 := M3.cell 3 rfl; have d34 := M3.cell 4 rfl; have d35 := M3.cell 5 rfl; have d36 := M3.cell 6 rfl; have z30 := Z3.cell 0 rfl; have y30 := Z3.free 0; have z31 := Z3.cell 1 rfl; have y31 := Z3.free 1; have z32 := Z3.cell 2 rfl; have y32 := Z3.free 2; have z33 := Z3.cell 3 rfl; have y33 := Z3.free 3; have z34 := Z3.cell 4 rfl; have y34 := Z3.free 4; have z35 := Z3.cell 5 rfl; have y35 := Z3.free 5; have z36 := Z3.cell 6 rfl; have y36 := Z3.free 6
  have hx : (x == x) = true := by simp
  have hy : (y == y) = true := by simp
  go_wp2_with fail
  go_region
  go_wp2
  refine bodyPost_ret (v := .tuple #[.pointer (some ⟨b, 0, none⟩), .agg s.cs, .bool true]) (by simp [results, Try.results19, go_sem, z30, z31, z32, z33, z34, z35, z36]) rfl ?_
  refine DoP.same ?_
  refine Stored.drew ?_
  iterate 7 (refine Stored.set_ne ?_ (Nat.le_add_right _ 2) blt _ _)
  exact S3
set_option maxHeartbeats 2000000 in
theorem do_4 (h : s.Ok) (hc : HW w b s) (n off v : Int)  :
    Calls Try.prog 19 #[.pointer (some ⟨b, 0, none⟩), .agg s.cs, .agg #[I 4, L n, U off, U v]] w (DoP w b s) := by
  have blt := hc.lt
  have H := Lib.hid (show HW (((w.alloc (.cells s.cs 40)).alloc (.cells #[I 4, L n, U off, U v] 44)).alloc (.cells wz 40)) b s from (((hc.alloc _).alloc _).alloc _))
  have B := Lib.hid (((((Below.refl w.heap.size w).alloc (Nat.le_refl _) (.cells s.cs 40)).alloc (by simp) (.cells #[I 4, L n, U off, U v] 44)).alloc (by simp; omega) (.cells wz 40)))
  have S := Lib.hid (Stored.of_below B.out H.out)
  have M := Lib.hid (show Blk (((w.alloc (.cells s.cs 40)).alloc (.cells #[I 4, L n, U off, U v] 44)).alloc (.cells wz 40)) w.heap.size s.cs 40 from ((Blk.new w s.cs 40).alloc _).alloc _)
  have A := Lib.hid (show Blk (((w.alloc (.cells s.cs 40)).alloc (.cells #[I 4, L n, U off, U v] 44)).alloc (.cells wz 40)) (w.heap.size + 1) #[I 4, L n, U off, U v] 44 from (show Blk ((w.alloc (.cells s.cs 40)).alloc (.cells #[I 4, L n, U off, U v] 44)) (w.heap.size + 1) #[I 4, L n, U off, U v] 44 by simpa using Blk.new (w.alloc (.cells s.cs 40)) #[I 4, L n, U off, U v] 44).alloc _)
  have Z := Lib.hid (show Blk (((w.alloc (.cells s.cs 40)).alloc (.cells #[I 4, L n, U off, U v] 44)).alloc (.cells wz 40)) (w.heap.size + 2) wz 40 by simpa using Blk.new ((w.alloc (.cells s.cs 40)).alloc (.cells #[I 4, L n, U off, U v] 44)) wz 40)
  go_enter Try.func19, Try.ntmps19
  have hne0 : w.heap.size ≠ b := by omega
  have hne1 : w.heap.size + 1 ≠ b := by omega
  have hne2 : w.heap.size + 2 ≠ b := by omega
  obtain ⟨s3, r3, h3⟩ : ∃ s' r, Hid (s.tickB 3 = (s', r)) := ⟨_, _, Lib.hid rfl⟩
  have o3 := ok_tick h (by decide) h3
  obtain ⟨s4, r4, h4⟩ : ∃ s' r, Hid (s3.storeB 12 1 = (s', r)) := ⟨_, _, Lib.hid rfl⟩
  go_wp2_with ((go_at_call 21; fail))
  refine (copy_any H.out).mono ?_
  rintro e w2 ⟨rfl, hw2⟩
  have hb2 := ((Below.refl (((w.alloc (.cells s.cs 40)).alloc (.cells #[I 4, L n, U off, U v] 44)).alloc (.cells wz 40)).heap.size (((w.alloc (.cells s.cs 40)).alloc (.cells #[I 4, L n, U off, U v] 44)).alloc (.cells wz 40))).alloc (Nat.le_refl _) (.cells s.cs 52))
  have X2 : HW ((((w.alloc (.cells s.cs 40)).alloc (.cells #[I 4, L n, U off, U v] 44)).alloc (.cells wz 40)).alloc (.cells s.cs 52)) (w.heap.size + 3) s := by
    have := Blk.new (((w.alloc (.cells s.cs 40)).alloc (.cells #[I 4, L n, U off, U v] 44)).alloc (.cells wz 40)) s.cs 52
    simpa [HW] using this
  rw [hw2] at hb2 X2
  have M2 := M.out.below hb2 M.out.lt; have Z2 := Z.out.below hb2 Z.out.lt; have S2 := S.out.then hb2
  clear hw2 hb2
  have d20 := M2.cell 0 rfl; have d21 := M2.cell 1 rfl; have d22 := M2.cell 2 rfl; have d23 := M2.cell 3 rfl; have d24 := M2.cell 4 rfl; have d25 := M2.cell 5 rfl; have d26 := M2.cell 6 rfl
  go_wp2_with ((go_at_call 20; fail))
  clear d20 d21 d22 d23 d24 d25 d26
  refine (alike_any h X2).mono ?_
  rintro e w3 ⟨rfl, hb3⟩
  have M3 := M2.below hb3 M2.lt; have Z3 := Z2.below hb3 Z2.lt; have S3 := S2.then hb3
  have X3 := X2.below hb3 X2.lt
  clear hb3
  go_wp2_with ((go_at_call 10; fail))
  refine (tick_of h S3.hc 3 r3 s3 (by decide) (by decide) h3).mono ?_
  rintro e w4 ⟨rfl, T4⟩
  have M4 := M3.stored T4 hne0; have Z4 := Z3.stored T4 hne2; have S4 := S3.trans T4
  have X4 : HW w4 (w.heap.size + 3) s := Blk.stored X3 T4 (by omega : w.heap.size + 3 ≠ b)
  go_wp2_with ((go_at_call 9; fail))
  refine (store_of o3 S4.hc 12 1 r4 s4 (by decide) (by decide) (by decide) (by decide) h4).mono ?_
  rintro e w5 ⟨rfl, T5⟩
  have M5 := M4.stored T5 hne0; have Z5 := Z4.stored T5 hne2; have S5 := S4.trans T5
  have X5 : HW w5 (w.heap.size + 3) s := Blk.stored X4 T5 (by omega : w.heap.size + 3 ≠ b)
  go_wp2_with ((go_at_call 22; fail))
  refine (reset_any S5.hc).mono ?_
  rintro e w6 ⟨rfl, T6⟩
  have M6 := M5.stored T6 hne0; have Z6 := Z5.stored T6 hne2; have S6 := S5.trans T6
  have X6 : HW w6 (w.heap.size + 3) s := Blk.stored X5 T6 (by omega : w.heap.size + 3 ≠ b)
  have d60 := M6.cell 0 rfl; have d61 := M6.cell 1 rfl; have d62 := M6.cell 2 rfl; have d63 := M6.cell 3 rfl; have d64 := M6.cell 4 rfl; have d65 := M6.cell 5 rfl; have d66 := M6.cell 6 rfl; have z60 := Z6.cell 0 rfl; have y60 := Z6.free 0; have z61 := Z6.cell 1 rfl; have y61 := Z6.free 1; have z62 := Z6.cell 2 rfl; have y62 := Z6.free 2; have z63 := Z6.cell 3 rfl; have y63 := Z6.free 3; have z64 := Z6.cell 4 rfl; have y64 := Z6.free 4; have z65 := Z6.cell 5 rfl; have y65 := Z6.free 5; have z66 := Z6.cell 6 rfl; have y66 := Z6.free 6
  go_wp2_with fail
  go_region
  go_wp2
  refine bodyPost_ret (v := .tuple #[.pointer (some ⟨w.heap.size + 3, 0, none⟩), .agg s.cs, .bool true]) (by simp [results, Try.results19, go_sem, z60, z61, z62, z63, z64, z65, z66]) rfl ?_
  refine ⟨w.heap.size + 3, WS.zero, rfl, ?_, ?_, Or.inr (Nat.le_add_right _ 3)⟩
  · refine Stored.drew ?_
    iterate 7 (refine Stored.set_ne ?_ (Nat.le_add_right _ 2) blt _ _)
    exact S6
  · refine HW.drew ?_
    iterate 7 (refine HW.set_ne ?_ (by omega : w.heap.size + 2 ≠ w.heap.size + 3) _ _)
    exact X6
end
end Go.Proofs.Ytndndlegefhafaa
