/- The law's own functions: a call, of both, continued. Its conditions: those that its statement shows. -/
import Derived.Test.YtfjkfigjenalgaaQ4
import Derived.Deep.RegionHeld3
namespace Go.Proofs.Ytfjkfigjenalgaa
open Go.RowKit
set_option linter.unusedVariables false

theorem HC.drew {w1 : World} {b : Nat} {s' : CS} (h : HC w1 b s') : HC w1.drew b s' := h
theorem storeR_of (s : CS) (h : s.Ok) (off v e : Int) (s' : CS) (h0 : 0 ≤ off) (h1 : off ≤ 4294967295) (v0 : 0 ≤ v) (v1 : v ≤ 4294967295) (hv : Hid (s.storeB off v = (s', e))) (w : World) :
    Calls Try.prog 40 #[.agg s.rc, U off, U v] w fun x w' => x = .returned (.tuple #[.agg s'.rc, I e]) ∧ Below w.heap.size w w' := by
  have := store_ref s h w off v h0 h1 v0 v1
  rw [hv.out] at this; exact this

section
variable {b : Nat} {s : CS} {w : World}

set_option maxHeartbeats 400000 in
theorem do_4 (h : s.Ok) (hc : HC w b s) (n off v : Int)  :
    Calls Try.prog 12 #[.pointer (some ⟨b, 0, none⟩), .agg s.rc, .agg #[I 4, L n, U off, U v]] w (DoP w b s) := by
  have blt := hc.lt
  have H := Lib.hid (show HC (((w.alloc (.cells s.rc 27)).alloc (.cells #[I 4, L n, U off, U v] 32)).alloc (.cells rz 27)) b s from (((hc.alloc _).alloc _).alloc _))
  have B := Lib.hid (((((Below.refl w.heap.size w).alloc (Nat.le_refl _) (.cells s.rc 27)).alloc (by simp) (.cells #[I 4, L n, U off, U v] 32)).alloc (by simp; omega) (.cells rz 27)))
  have S := Lib.hid (Stored.of_below B.out H.out)
  have M := Lib.hid (show Blk (((w.alloc (.cells s.rc 27)).alloc (.cells #[I 4, L n, U off, U v] 32)).alloc (.cells rz 27)) w.heap.size s.rc 27 from ((Blk.new w s.rc 27).alloc _).alloc _)
  have A := Lib.hid (show Blk (((w.alloc (.cells s.rc 27)).alloc (.cells #[I 4, L n, U off, U v] 32)).alloc (.cells rz 27)) (w.heap.size + 1) #[I 4, L n, U off, U v] 32 from (show Blk ((w.alloc (.cells s.rc 27)).alloc (.cells #[I 4, L n, U off, U v] 32)) (w.heap.size + 1) #[I 4, L n, U off, U v] 32 by simpa using Blk.new (w.alloc (.cells s.rc 27)) #[I 4, L n, U off, U v] 32).alloc _)
  have Z := Lib.hid (show Blk (((w.alloc (.cells s.rc 27)).alloc (.cells #[I 4, L n, U off, U v] 32)).alloc (.cells rz 27)) (w.heap.size + 2) rz 27 by simpa using Blk.new ((w.alloc (.cells s.rc 27)).alloc (.cells #[I 4, L n, U off, U v] 32)) rz 27)
  go_enter Try.func12, Try.ntmps12
  have hne0 : w.heap.size ≠ b := by omega
  have hne1 : w.heap.size + 1 ≠ b := by omega
  have hne2 : w.heap.size + 2 ≠ b := by omega
  go_wp2_with ((go_at_call 15; fail))
  refine (copy_any H.out).mono ?_
  rintro e w2 ⟨rfl, hw2⟩
  have hb2 := ((Below.refl (((w.alloc (.cells s.rc 27)).alloc (.cells #[I 4, L n, U off, U v] 32)).alloc (.cells rz 27)).heap.size (((w.alloc (.cells s.rc 27)).alloc (.cells #[I 4, L n, U off, U v] 32)).alloc (.cells rz 27))).alloc (Nat.le_refl _) (.cells s.cells 67))
  have X2 : HC ((((w.alloc (.cells s.rc 27)).alloc (.cells #[I 4, L n, U off, U v] 32)).alloc (.cells rz 27)).alloc (.cells s.cells 67)) (w.heap.size + 3) s := by
    have := Blk.new (((w.alloc (.cells s.rc 27)).alloc (.cells #[I 4, L n, U off, U v] 32)).alloc (.cells rz 27)) s.cells 67
    simpa [HC] using this
  rw [hw2] at hb2 X2
  have M2 := M.out.below hb2 M.out.lt; have A2 := A.out.below hb2 A.out.lt; have Z2 := Z.out.below hb2 Z.out.lt; have S2 := S.out.then hb2
  clear hw2 hb2
  have d20 := M2.cell 0 rfl; have d21 := M2.cell 1 rfl; have d22 := M2.cell 2 rfl; have d23 := M2.cell 3 rfl; have d24 := M2.cell 4 rfl; have d25 := M2.cell 5 rfl; have d26 := M2.cell 6 rfl; have d27 := M2.cell 7 rfl; have a20 := A2.cell 0 rfl; have a21 := A2.cell 1 rfl; have a22 := A2.cell 2 rfl; have a23 := A2.cell 3 rfl; have z20 := Z2.cell 0 rfl; have y20 := Z2.free 0; have z21 := Z2.cell 1 rfl; have y21 := Z2.free 1; have z22 := Z2.cell 2 rfl; have y22 := Z2.free 2; have z23 := Z2.cell 3 rfl; have y23 := Z2.free 3; have z24 := Z2.cell 4 rfl; have y24 := Z2.free 4; have z25 := Z2.cell 5 rfl; have y25 := Z2.free 5; have z26 := Z2.cell 6 rfl; have y26 := Z2.free 6; have z27 := Z2.cell 7 rfl; have y27 := Z2.free 7
  go_wp2_with ((go_at_call 13; fail))
  refine (alike_any h X2).mono ?_
  rintro e w3 ⟨rfl, hb3⟩
  have M3 := M2.below hb3 M2.lt; have A3 := A2.below hb3 A2.lt; have Z3 := Z2.below hb3 Z2.lt; have S3 := S2.then hb3
  have X3 := X2.below hb3 X2.lt
  clear d20 d21 d22 d23 d24 d25 d26 d27 a20 a21 a22 a23 z20 y20 z21 y21 z22 y22 z23 y23 z24 y24 z25 y25 z26 y26 z27 y27
  clear hb3
  go_wp2_with ((go_at_call 16; fail))
  obtain ⟨s7, h7⟩ : ∃ s', Hid (s.tick 7 = s') := ⟨_, Lib.hid rfl⟩
  refine (tick_of h S3.hc 7 s7 (by decide) (by decide) h7).mono ?_
  rintro e w4 ⟨rfl, T4⟩
  have M4 := M3.stored T4 hne0; have A4 := A3.stored T4 hne1; have Z4 := Z3.stored T4 hne2; have S4 := S3.trans T4
  have X4 := Blk.stored X3 T4 (by omega : w.heap.size + 3 ≠ b)
  go_wp2_with ((go_at_call 22; fail))
  refine (reset_any S4.hc).mono ?_
  rintro e w5 ⟨rfl, T5⟩
  have M5 := M4.stored T5 hne0; have A5 := A4.stored T5 hne1; have Z5 := Z4.stored T5 hne2; have S5 := S4.trans T5
  have X5 : HC w5 (w.heap.size + 3) s := Blk.stored X4 T5 (by omega : w.heap.size + 3 ≠ b)
  have d50 := M5.cell 0 rfl; have d51 := M5.cell 1 rfl; have d52 := M5.cell 2 rfl; have d53 := M5.cell 3 rfl; have d54 := M5.cell 4 rfl; have d55 := M5.cell 5 rfl; have d56 := M5.cell 6 rfl; have d57 := M5.cell 7 rfl; have z50 := Z5.cell 0 rfl; have y50 := Z5.free 0; have z51 := Z5.cell 1 rfl; have y51 := Z5.free 1; have z52 := Z5.cell 2 rfl; have y52 := Z5.free 2; have z53 := Z5.cell 3 rfl; have y53 := Z5.free 3; have z54 := Z5.cell 4 rfl; have y54 := Z5.free 4; have z55 := Z5.cell 5 rfl; have y55 := Z5.free 5; have z56 := Z5.cell 6 rfl; have y56 := Z5.free 6; have z57 := Z5.cell 7 rfl; have y57 := Z5.free 7
  go_wp2_with fail
  go_region
  go_wp2
  refine bodyPost_ret (v := .tuple #[.pointer (some ⟨w.heap.size + 3, 0, none⟩), .agg s.rc, .bool true]) (by simp [results, Try.results12, go_sem, z50, z51, z52, z53, z54, z55, z56, z57]) rfl ?_
  refine ⟨w.heap.size + 3, CS.zero, rfl, ?_, ?_, Or.inr (Nat.le_add_right _ 3)⟩
  · refine Stored.drew ?_
    iterate 8 (refine Stored.set_ne ?_ (Nat.le_add_right _ 2) blt _ _)
    exact S5
  · refine HC.drew ?_
    iterate 8 (refine HC.set_ne ?_ (by omega : w.heap.size + 2 ≠ w.heap.size + 3) _ _)
    exact X5

end
end Go.Proofs.Ytfjkfigjenalgaa
