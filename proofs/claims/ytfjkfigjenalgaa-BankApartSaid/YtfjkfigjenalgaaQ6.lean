/- The law's own functions: a call, of both, continued. Its conditions: those that its statement shows. -/
import Derived.Test.YtfjkfigjenalgaaQ5
import Derived.Deep.RegionHeld3
namespace Go.Proofs.Ytfjkfigjenalgaa
open Go.RowKit
set_option linter.unusedVariables false

section
variable {b : Nat} {s : CS} {w : World}

set_option maxHeartbeats 4000000 in
theorem do_2 (h : s.Ok) (hc : HC w b s) (n off v : Int) (o0 : 0 ≤ off) (o1 : off ≤ 4294967295) (v0 : 0 ≤ v) (v1 : v ≤ 4294967295) :
    Calls Try.prog 12 #[.pointer (some ⟨b, 0, none⟩), .agg s.rc, .agg #[I 2, L n, U off, U v]] w (DoP w b (s.storeB off v).1) := by
  have blt := hc.lt
  have H := Lib.hid (show HC (((w.alloc (.cells s.rc 27)).alloc (.cells #[I 2, L n, U off, U v] 32)).alloc (.cells rz 27)) b s from (((hc.alloc _).alloc _).alloc _))
  have B := Lib.hid (((((Below.refl w.heap.size w).alloc (Nat.le_refl _) (.cells s.rc 27)).alloc (by simp) (.cells #[I 2, L n, U off, U v] 32)).alloc (by simp; omega) (.cells rz 27)))
  have S := Lib.hid (Stored.of_below B.out H.out)
  have M := Lib.hid (show Blk (((w.alloc (.cells s.rc 27)).alloc (.cells #[I 2, L n, U off, U v] 32)).alloc (.cells rz 27)) w.heap.size s.rc 27 from ((Blk.new w s.rc 27).alloc _).alloc _)
  have A := Lib.hid (show Blk (((w.alloc (.cells s.rc 27)).alloc (.cells #[I 2, L n, U off, U v] 32)).alloc (.cells rz 27)) (w.heap.size + 1) #[I 2, L n, U off, U v] 32 from (show Blk ((w.alloc (.cells s.rc 27)).alloc (.cells #[I 2, L n, U off, U v] 32)) (w.heap.size + 1) #[I 2, L n, U off, U v] 32 by simpa using Blk.new (w.alloc (.cells s.rc 27)) #[I 2, L n, U off, U v] 32).alloc _)
  have Z := Lib.hid (show Blk (((w.alloc (.cells s.rc 27)).alloc (.cells #[I 2, L n, U off, U v] 32)).alloc (.cells rz 27)) (w.heap.size + 2) rz 27 by simpa using Blk.new ((w.alloc (.cells s.rc 27)).alloc (.cells #[I 2, L n, U off, U v] 32)) rz 27)
  go_enter Try.func12, Try.ntmps12
  have hne0 : w.heap.size ≠ b := by omega
  have hne1 : w.heap.size + 1 ≠ b := by omega
  have hne2 : w.heap.size + 2 ≠ b := by omega
  obtain ⟨s', r, hxy⟩ : ∃ s' r, Hid (s.storeB off v = (s', r)) := ⟨_, _, Lib.hid rfl⟩
  rw [hxy.out]
  show Code.wp _ _ _ _ _
  go_wp2_with ((go_at_call 40; fail))
  refine (storeR_of s h _ _ _ _ o0 o1 v0 v1 hxy _).mono ?_
  rintro e w2 ⟨rfl, hb2⟩
  have M2 := M.out.below hb2 M.out.lt; have A2 := A.out.below hb2 A.out.lt; have Z2 := Z.out.below hb2 Z.out.lt; have S2 := S.out.then hb2
  have d20 := M2.cell 0 rfl; have d21 := M2.cell 1 rfl; have d22 := M2.cell 2 rfl; have d23 := M2.cell 3 rfl; have d24 := M2.cell 4 rfl; have d25 := M2.cell 5 rfl; have d26 := M2.cell 6 rfl; have d27 := M2.cell 7 rfl; have a20 := A2.cell 0 rfl; have a21 := A2.cell 1 rfl; have a22 := A2.cell 2 rfl; have a23 := A2.cell 3 rfl; have z20 := Z2.cell 0 rfl; have y20 := Z2.free 0; have z21 := Z2.cell 1 rfl; have y21 := Z2.free 1; have z22 := Z2.cell 2 rfl; have y22 := Z2.free 2; have z23 := Z2.cell 3 rfl; have y23 := Z2.free 3; have z24 := Z2.cell 4 rfl; have y24 := Z2.free 4; have z25 := Z2.cell 5 rfl; have y25 := Z2.free 5; have z26 := Z2.cell 6 rfl; have y26 := Z2.free 6; have z27 := Z2.cell 7 rfl; have y27 := Z2.free 7
  go_wp2_with fail
  have hb3 := (Below.refl w2.heap.size w2).alloc (Nat.le_refl _) (.cells s'.rc 27)
  have N3 := Blk.new w2 s'.rc 27
  have M3 := M2.below hb3 M2.lt; have A3 := A2.below hb3 A2.lt; have Z3 := Z2.below hb3 Z2.lt; have S3 := S2.then hb3
  clear d20 d21 d22 d23 d24 d25 d26 d27 a20 a21 a22 a23 z20 y20 z21 y21 z22 y22 z23 y23 z24 y24 z25 y25 z26 y26 z27 y27
  clear hb3 M2 A2 Z2
  have hne3 : w2.heap.size ≠ b := by have := S2.size; omega
  have w2g : w.heap.size ≤ w2.heap.size := S2.size
  generalize w2.alloc (.cells s'.rc 27) = w3 at *
  generalize w2.heap.size = g at *
  have a30 := A3.cell 0 rfl; have a31 := A3.cell 1 rfl; have a32 := A3.cell 2 rfl; have a33 := A3.cell 3 rfl; have z30 := Z3.cell 0 rfl; have y30 := Z3.free 0; have z31 := Z3.cell 1 rfl; have y31 := Z3.free 1; have z32 := Z3.cell 2 rfl; have y32 := Z3.free 2; have z33 := Z3.cell 3 rfl; have y33 := Z3.free 3; have z34 := Z3.cell 4 rfl; have y34 := Z3.free 4; have z35 := Z3.cell 5 rfl; have y35 := Z3.free 5; have z36 := Z3.cell 6 rfl; have y36 := Z3.free 6; have z37 := Z3.cell 7 rfl; have y37 := Z3.free 7
  have n30 := N3.cell 0 rfl; have n31 := N3.cell 1 rfl; have n32 := N3.cell 2 rfl; have n33 := N3.cell 3 rfl; have n34 := N3.cell 4 rfl; have n35 := N3.cell 5 rfl; have n36 := N3.cell 6 rfl; have n37 := N3.cell 7 rfl
  go_region_with (go_at_call 20; refine (store_of h (HC.drew S3.hc) _ _ _ _ o0 o1 v0 v1 hxy).mono ?_; rintro e w4 ⟨rfl, T4⟩; have Z4 := Blk.stored Z3.drew T4 hne2; have N4 := Blk.stored N3.drew T4 hne3; have z40 := Z4.cell 0 rfl; have y40 := Z4.free 0; have z41 := Z4.cell 1 rfl; have y41 := Z4.free 1; have z42 := Z4.cell 2 rfl; have y42 := Z4.free 2; have z43 := Z4.cell 3 rfl; have y43 := Z4.free 3; have z44 := Z4.cell 4 rfl; have y44 := Z4.free 4; have z45 := Z4.cell 5 rfl; have y45 := Z4.free 5; have z46 := Z4.cell 6 rfl; have y46 := Z4.free 6; have z47 := Z4.cell 7 rfl; have y47 := Z4.free 7; have n40 := N4.cell 0 rfl; have n41 := N4.cell 1 rfl; have n42 := N4.cell 2 rfl; have n43 := N4.cell 3 rfl; have n44 := N4.cell 4 rfl; have n45 := N4.cell 5 rfl; have n46 := N4.cell 6 rfl; have n47 := N4.cell 7 rfl)
  all_goals go_simp
  all_goals go_wp2
  all_goals
    refine bodyPost_ret (v := .tuple #[.pointer (some ⟨b, 0, none⟩), .agg s'.rc, .bool true]) (by simp [results, Try.results12, go_sem, z40, z41, z42, z43, z44, z45, z46, z47]) rfl ?_
    refine DoP.same ?_
    iterate 8 (refine Stored.set_ne ?_ (Nat.le_add_right _ 2) blt _ _)
    exact S3.drew.trans T4

end
end Go.Proofs.Ytfjkfigjenalgaa
