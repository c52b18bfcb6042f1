/- The law's own functions: a call, of both, continued. Conditions: those that each statement shows. -/
import Derived.Test.YtndndlegefhafaaQ3
import Derived.Deep.RegionHeld3
import Derived.RegionTactic
import Derived.ChangeAlike
namespace Go.Proofs.Ytndndlegefhafaa
open Go.RowKit
set_option linter.unusedVariables false
set_option linter.unusedSimpArgs false

section
variable {b : Nat} {s : WS} {w : World}

set_option maxHeartbeats 4000000 in
theorem do_2 (h : s.Ok) (hc : HW w b s) (n off v : Int) (o0 : 0 ≤ off) (o1 : off ≤ 4294967295) (v0 : 0 ≤ v) (v1 : v ≤ 4294967295) :
    Calls Try.prog 19 #[.pointer (some ⟨b, 0, none⟩), .agg s.cs, .agg #[I 2, L n, U off, U v]] w (DoP w b (s.storeB off v).1) := by
  have blt := hc.lt
  have H := Lib.hid (show HW (((w.alloc (.cells s.cs 40)).alloc (.cells #[I 2, L n, U off, U v] 44)).alloc (.cells wz 40)) b s from (((hc.alloc _).alloc _).alloc _))
  have B := Lib.hid (((((Below.refl w.heap.size w).alloc (Nat.le_refl _) (.cells s.cs 40)).alloc (by simp) (.cells #[I 2, L n, U off, U v] 44)).alloc (by simp; omega) (.cells wz 40)))
  have S := Lib.hid (Stored.of_below B.out H.out)
  have M := Lib.hid (show Blk (((w.alloc (.cells s.cs 40)).alloc (.cells #[I 2, L n, U off, U v] 44)).alloc (.cells wz 40)) w.heap.size s.cs 40 from ((Blk.new w s.cs 40).alloc _).alloc _)
  have A := Lib.hid (show Blk (((w.alloc (.cells s.cs 40)).alloc (.cells #[I 2, L n, U off, U v] 44)).alloc (.cells wz 40)) (w.heap.size + 1) #[I 2, L n, U off, U v] 44 from (show Blk ((w.alloc (.cells s.cs 40)).alloc (.cells #[I 2, L n, U off, U v] 44)) (w.heap.size + 1) #[I 2, L n, U off, U v] 44 by simpa using Blk.new (w.alloc (.cells s.cs 40)) #[I 2, L n, U off, U v] 44).alloc _)
  have Z := Lib.hid (show Blk (((w.alloc (.cells s.cs 40)).alloc (.cells #[I 2, L n, U off, U v] 44)).alloc (.cells wz 40)) (w.heap.size + 2) wz 40 by simpa using Blk.new ((w.alloc (.cells s.cs 40)).alloc (.cells #[I 2, L n, U off, U v] 44)) wz 40)
  go_enter Try.func19, Try.ntmps19
  have hne0 : w.heap.size ≠ b := by omega
  have hne1 : w.heap.size + 1 ≠ b := by omega
  have hne2 : w.heap.size + 2 ≠ b := by omega
  obtain ⟨s', r, hxy⟩ : ∃ s' r, Hid (s.storeB off v = (s', r)) := ⟨_, _, Lib.hid rfl⟩
  rw [hxy.out]
  show Code.wp _ _ _ _ _
  go_wp2_with ((go_at_call 31; fail))
  refine (storeR_of s h _ _ _ _ o0 o1 v0 v1 hxy _).mono ?_
  rintro e w2 ⟨rfl, hb2⟩
  have A2 := A.out.below hb2 A.out.lt; have Z2 := Z.out.below hb2 Z.out.lt; have S2 := S.out.then hb2
  go_wp2_with fail
  have hb3 := (Below.refl w2.heap.size w2).alloc (Nat.le_refl _) (.cells s'.cs 40)
  have N3 := Blk.new w2 s'.cs 40
  have A3 := A2.below hb3 A2.lt; have Z3 := Z2.below hb3 Z2.lt; have S3 := S2.then hb3
  clear hb3 A2 Z2
  have hne3 : w2.heap.size ≠ b := by have := S2.size; omega
  have w2g : w.heap.size ≤ w2.heap.size := S2.size
  generalize w2.alloc (.cells s'.cs 40) = w3 at *
  generalize w2.heap.size = g at *
  have a30 := A3.cell 0 rfl; have a31 := A3.cell 1 rfl; have a32 := A3.cell 2 rfl; have a33 := A3.cell 3 rfl; have z30 := Z3.cell 0 rfl; have y30 := Z3.free 0; have z31 := Z3.cell 1 rfl; have y31 := Z3.free 1; have z32 := Z3.cell 2 rfl; have y32 := Z3.free 2; have z33 := Z3.cell 3 rfl; have y33 := Z3.free 3; have z34 := Z3.cell 4 rfl; have y34 := Z3.free 4; have z35 := Z3.cell 5 rfl; have y35 := Z3.free 5; have z36 := Z3.cell 6 rfl; have y36 := Z3.free 6
  have n30 := N3.cell 0 rfl; have n31 := N3.cell 1 rfl; have n32 := N3.cell 2 rfl; have n33 := N3.cell 3 rfl; have n34 := N3.cell 4 rfl; have n35 := N3.cell 5 rfl; have n36 := N3.cell 6 rfl
  have hrr : (r == r) = true := by simp
  go_region_with (go_at_call 9; refine (store_of h (HW.drew S3.hc) _ _ _ _ o0 o1 v0 v1 hxy).mono ?_; rintro e w4 ⟨rfl, T4⟩; have Z4 := Blk.stored Z3.drew T4 hne2; have N4 := Blk.stored N3.drew T4 hne3; have z40 := Z4.cell 0 rfl; have y40 := Z4.free 0; have z41 := Z4.cell 1 rfl; have y41 := Z4.free 1; have z42 := Z4.cell 2 rfl; have y42 := Z4.free 2; have z43 := Z4.cell 3 rfl; have y43 := Z4.free 3; have z44 := Z4.cell 4 rfl; have y44 := Z4.free 4; have z45 := Z4.cell 5 rfl; have y45 := Z4.free 5; have z46 := Z4.cell 6 rfl; have y46 := Z4.free 6; have n40 := N4.cell 0 rfl; have n41 := N4.cell 1 rfl; have n42 := N4.cell 2 rfl; have n43 := N4.cell 3 rfl; have n44 := N4.cell 4 rfl; have n45 := N4.cell 5 rfl; have n46 := N4.cell 6 rfl)
  all_goals go_simp
  all_goals go_wp2
  all_goals
    refine bodyPost_ret (v := .tuple #[.pointer (some ⟨b, 0, none⟩), .agg s'.cs, .bool true]) (by simp [results, Try.results19, go_sem, z40, z41, z42, z43, z44, z45, z46]) rfl ?_
    refine DoP.same ?_
    iterate 7 (refine Stored.set_ne ?_ (Nat.le_add_right _ 2) blt _ _)
    exact S3.drew.trans T4
set_option maxHeartbeats 4000000 in
theorem do_0 (h : s.Ok) (hc : HW w b s) (n off v : Int) (n0 : 0 ≤ n) (n1 : n ≤ 18446744073709551615) :
    Calls Try.prog 19 #[.pointer (some ⟨b, 0, none⟩), .agg s.cs, .agg #[I 0, L n, U off, U v]] w (DoP w b (s.tickB n).1) := by
  have blt := hc.lt
  have H := Lib.hid (show HW (((w.alloc (.cells s.cs 40)).alloc (.cells #[I 0, L n, U off, U v] 44)).alloc (.cells wz 40)) b s from (((hc.alloc _).alloc _).alloc _))
  have B := Lib.hid (((((Below.refl w.heap.size w).alloc (Nat.le_refl _) (.cells s.cs 40)).alloc (by simp) (.cells #[I 0, L n, U off, U v] 44)).alloc (by simp; omega) (.cells wz 40)))
  have S := Lib.hid (Stored.of_below B.out H.out)
  have M := Lib.hid (show Blk (((w.alloc (.cells s.cs 40)).alloc (.cells #[I 0, L n, U off, U v] 44)).alloc (.cells wz 40)) w.heap.size s.cs 40 from ((Blk.new w s.cs 40).alloc _).alloc _)
  have A := Lib.hid (show Blk (((w.alloc (.cells s.cs 40)).alloc (.cells #[I 0, L n, U off, U v] 44)).alloc (.cells wz 40)) (w.heap.size + 1) #[I 0, L n, U off, U v] 44 from (show Blk ((w.alloc (.cells s.cs 40)).alloc (.cells #[I 0, L n, U off, U v] 44)) (w.heap.size + 1) #[I 0, L n, U off, U v] 44 by simpa using Blk.new (w.alloc (.cells s.cs 40)) #[I 0, L n, U off, U v] 44).alloc _)
  have Z := Lib.hid (show Blk (((w.alloc (.cells s.cs 40)).alloc (.cells #[I 0, L n, U off, U v] 44)).alloc (.cells wz 40)) (w.heap.size + 2) wz 40 by simpa using Blk.new ((w.alloc (.cells s.cs 40)).alloc (.cells #[I 0, L n, U off, U v] 44)) wz 40)
  go_enter Try.func19, Try.ntmps19
  have hne0 : w.heap.size ≠ b := by omega
  have hne1 : w.heap.size + 1 ≠ b := by omega
  have hne2 : w.heap.size + 2 ≠ b := by omega
  obtain ⟨s', r, hxy⟩ : ∃ s' r, Hid (s.tickB n = (s', r)) := ⟨_, _, Lib.hid rfl⟩
  rw [hxy.out]
  show Code.wp _ _ _ _ _
  go_wp2_with ((go_at_call 29; fail))
  refine (tickR_of s h _ _ _ n0 n1 hxy _).mono ?_
  rintro e w2 ⟨rfl, hb2⟩
  have A2 := A.out.below hb2 A.out.lt; have Z2 := Z.out.below hb2 Z.out.lt; have S2 := S.out.then hb2
  go_wp2_with fail
  have hb3 := (Below.refl w2.heap.size w2).alloc (Nat.le_refl _) (.cells s'.cs 40)
  have N3 := Blk.new w2 s'.cs 40
  have A3 := A2.below hb3 A2.lt; have Z3 := Z2.below hb3 Z2.lt; have S3 := S2.then hb3
  clear hb3 A2 Z2
  have hne3 : w2.heap.size ≠ b := by have := S2.size; omega
  have w2g : w.heap.size ≤ w2.heap.size := S2.size
  generalize w2.alloc (.cells s'.cs 40) = w3 at *
  generalize w2.heap.size = g at *
  have a30 := A3.cell 0 rfl; have a31 := A3.cell 1 rfl; have a32 := A3.cell 2 rfl; have a33 := A3.cell 3 rfl; have z30 := Z3.cell 0 rfl; have y30 := Z3.free 0; have z31 := Z3.cell 1 rfl; have y31 := Z3.free 1; have z32 := Z3.cell 2 rfl; have y32 := Z3.free 2; have z33 := Z3.cell 3 rfl; have y33 := Z3.free 3; have z34 := Z3.cell 4 rfl; have y34 := Z3.free 4; have z35 := Z3.cell 5 rfl; have y35 := Z3.free 5; have z36 := Z3.cell 6 rfl; have y36 := Z3.free 6
  have n30 := N3.cell 0 rfl; have n31 := N3.cell 1 rfl; have n32 := N3.cell 2 rfl; have n33 := N3.cell 3 rfl; have n34 := N3.cell 4 rfl; have n35 := N3.cell 5 rfl; have n36 := N3.cell 6 rfl
  have hrr : (r == r) = true := by simp
  go_region_with (go_at_call 10; refine (tick_of h (HW.drew S3.hc) _ _ _ n0 n1 hxy).mono ?_; rintro e w4 ⟨rfl, T4⟩; have Z4 := Blk.stored Z3.drew T4 hne2; have N4 := Blk.stored N3.drew T4 hne3; have z40 := Z4.cell 0 rfl; have y40 := Z4.free 0; have z41 := Z4.cell 1 rfl; have y41 := Z4.free 1; have z42 := Z4.cell 2 rfl; have y42 := Z4.free 2; have z43 := Z4.cell 3 rfl; have y43 := Z4.free 3; have z44 := Z4.cell 4 rfl; have y44 := Z4.free 4; have z45 := Z4.cell 5 rfl; have y45 := Z4.free 5; have z46 := Z4.cell 6 rfl; have y46 := Z4.free 6; have n40 := N4.cell 0 rfl; have n41 := N4.cell 1 rfl; have n42 := N4.cell 2 rfl; have n43 := N4.cell 3 rfl; have n44 := N4.cell 4 rfl; have n45 := N4.cell 5 rfl; have n46 := N4.cell 6 rfl)
  all_goals go_simp
  all_goals go_wp2
  all_goals
    refine bodyPost_ret (v := .tuple #[.pointer (some ⟨b, 0, none⟩), .agg s'.cs, .bool true]) (by simp [results, Try.results19, go_sem, z40, z41, z42, z43, z44, z45, z46]) rfl ?_
    refine DoP.same ?_
    iterate 7 (refine Stored.set_ne ?_ (Nat.le_add_right _ 2) blt _ _)
    exact S3.drew.trans T4
end
end Go.Proofs.Ytndndlegefhafaa
