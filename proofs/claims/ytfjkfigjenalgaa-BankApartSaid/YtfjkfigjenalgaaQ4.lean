/- The law's own functions: a call, of both, continued. Its conditions: those that its statement shows. -/
import Derived.Test.YtfjkfigjenalgaaQ3
import Derived.StillTailTactics
namespace Go.Proofs.Ytfjkfigjenalgaa
open Go.RowKit
set_option linter.unusedVariables false

theorem Blk.stored {w0 w1 : World} {b c : Nat} {s' : CS} {vs : Array Value} {T : TypeId} (h : Blk w0 c vs T) (hs : Stored w0 w1 b s') (hne : c ≠ b) : Blk w1 c vs T := (hs.other c h.lt hne).trans h
theorem tickR_of (s : CS) (h : s.Ok) (n : Int) (s' : CS) (n0 : 0 ≤ n) (n1 : n ≤ 18446744073709551615) (hv : Hid (s.tick n = s')) (w : World) :
    Calls Try.prog 38 #[.agg s.rc, L n] w fun e w' => e = .returned (.agg s'.rc) ∧ Below w.heap.size w w' := by
  have := tick_ref s h n n0 n1 w
  rw [hv.out] at this; exact this

section
variable {b : Nat} {s : CS} {w : World}

set_option maxHeartbeats 400000 in
theorem do_3 (h : s.Ok) (hc : HC w b s) (n off v : Int)  :
    Calls Try.prog 12 #[.pointer (some ⟨b, 0, none⟩), .agg s.rc, .agg #[I 3, L n, U off, U v]] w (DoP w b CS.zero) := by
  have blt := hc.lt
  have H := Lib.hid (show HC (((w.alloc (.cells s.rc 27)).alloc (.cells #[I 3, L n, U off, U v] 32)).alloc (.cells rz 27)) b s from (((hc.alloc _).alloc _).alloc _))
  have B := Lib.hid (((((Below.refl w.heap.size w).alloc (Nat.le_refl _) (.cells s.rc 27)).alloc (by simp) (.cells #[I 3, L n, U off, U v] 32)).alloc (by simp; omega) (.cells rz 27)))
  have S := Lib.hid (Stored.of_below B.out H.out)
  have M := Lib.hid (show Blk (((w.alloc (.cells s.rc 27)).alloc (.cells #[I 3, L n, U off, U v] 32)).alloc (.cells rz 27)) w.heap.size s.rc 27 from ((Blk.new w s.rc 27).alloc _).alloc _)
  have A := Lib.hid (show Blk (((w.alloc (.cells s.rc 27)).alloc (.cells #[I 3, L n, U off, U v] 32)).alloc (.cells rz 27)) (w.heap.size + 1) #[I 3, L n, U off, U v] 32 from (show Blk ((w.alloc (.cells s.rc 27)).alloc (.cells #[I 3, L n, U off, U v] 32)) (w.heap.size + 1) #[I 3, L n, U off, U v] 32 by simpa using Blk.new (w.alloc (.cells s.rc 27)) #[I 3, L n, U off, U v] 32).alloc _)
  have Z := Lib.hid (show Blk (((w.alloc (.cells s.rc 27)).alloc (.cells #[I 3, L n, U off, U v] 32)).alloc (.cells rz 27)) (w.heap.size + 2) rz 27 by simpa using Blk.new ((w.alloc (.cells s.rc 27)).alloc (.cells #[I 3, L n, U off, U v] 32)) rz 27)
  go_enter Try.func12, Try.ntmps12
  have hne0 : w.heap.size ≠ b := by omega
  have hne1 : w.heap.size + 1 ≠ b := by omega
  have hne2 : w.heap.size + 2 ≠ b := by omega
  go_wp2_with ((go_at_call 22; fail))
  refine (reset_any H.out).mono ?_
  rintro e w2 ⟨rfl, T2⟩
  have M2 := M.out.stored T2 hne0; have A2 := A.out.stored T2 hne1; have Z2 := Z.out.stored T2 hne2; have S2 := S.out.trans T2
  have z20 := Z2.cell 0 rfl; have y20 := Z2.free 0; have z21 := Z2.cell 1 rfl; have y21 := Z2.free 1; have z22 := Z2.cell 2 rfl; have y22 := Z2.free 2; have z23 := Z2.cell 3 rfl; have y23 := Z2.free 3; have z24 := Z2.cell 4 rfl; have y24 := Z2.free 4; have z25 := Z2.cell 5 rfl; have y25 := Z2.free 5; have z26 := Z2.cell 6 rfl; have y26 := Z2.free 6; have z27 := Z2.cell 7 rfl; have y27 := Z2.free 7
  go_wp2
  refine bodyPost_ret (v := .tuple #[.pointer (some ⟨b, 0, none⟩), .agg CS.zero.rc, .bool true]) (by simp [results, Try.results12, go_sem, CS.zero, z20, z21, z22, z23, z24, z25, z26, z27]) rfl ?_
  refine DoP.same ?_
  iterate 8 (refine Stored.set_ne ?_ (Nat.le_add_right _ 2) blt _ _)
  exact S2

set_option maxHeartbeats 400000 in
theorem do_1 (h : s.Ok) (hc : HC w b s) (n off v : Int) (o0 : 0 ≤ off) (o1 : off ≤ 4294967295) :
    Calls Try.prog 12 #[.pointer (some ⟨b, 0, none⟩), .agg s.rc, .agg #[I 1, L n, U off, U v]] w (DoP w b s) := by
  have blt := hc.lt
  have H := Lib.hid (show HC (((w.alloc (.cells s.rc 27)).alloc (.cells #[I 1, L n, U off, U v] 32)).alloc (.cells rz 27)) b s from (((hc.alloc _).alloc _).alloc _))
  have B := Lib.hid (((((Below.refl w.heap.size w).alloc (Nat.le_refl _) (.cells s.rc 27)).alloc (by simp) (.cells #[I 1, L n, U off, U v] 32)).alloc (by simp; omega) (.cells rz 27)))
  have S := Lib.hid (Stored.of_below B.out H.out)
  have M := Lib.hid (show Blk (((w.alloc (.cells s.rc 27)).alloc (.cells #[I 1, L n, U off, U v] 32)).alloc (.cells rz 27)) w.heap.size s.rc 27 from ((Blk.new w s.rc 27).alloc _).alloc _)
  have A := Lib.hid (show Blk (((w.alloc (.cells s.rc 27)).alloc (.cells #[I 1, L n, U off, U v] 32)).alloc (.cells rz 27)) (w.heap.size + 1) #[I 1, L n, U off, U v] 32 from (show Blk ((w.alloc (.cells s.rc 27)).alloc (.cells #[I 1, L n, U off, U v] 32)) (w.heap.size + 1) #[I 1, L n, U off, U v] 32 by simpa using Blk.new (w.alloc (.cells s.rc 27)) #[I 1, L n, U off, U v] 32).alloc _)
  have Z := Lib.hid (show Blk (((w.alloc (.cells s.rc 27)).alloc (.cells #[I 1, L n, U off, U v] 32)).alloc (.cells rz 27)) (w.heap.size + 2) rz 27 by simpa using Blk.new ((w.alloc (.cells s.rc 27)).alloc (.cells #[I 1, L n, U off, U v] 32)) rz 27)
  go_enter Try.func12, Try.ntmps12
  have hne0 : w.heap.size ≠ b := by omega
  have hne1 : w.heap.size + 1 ≠ b := by omega
  have hne2 : w.heap.size + 2 ≠ b := by omega
  obtain ⟨x, y, hxy⟩ : ∃ x y, Hid (s.loadB off = (x, y)) := ⟨_, _, Lib.hid rfl⟩
  go_wp2_with ((go_at_call 39; fail))
  refine (loadR_of s h _ _ _ o0 o1 hxy _).mono ?_
  rintro e w2 ⟨rfl, hb2⟩
  have M2 := M.out.below hb2 M.out.lt; have A2 := A.out.below hb2 A.out.lt; have Z2 := Z.out.below hb2 Z.out.lt; have S2 := S.out.then hb2
  have d20 := M2.cell 0 rfl; have d21 := M2.cell 1 rfl; have d22 := M2.cell 2 rfl; have d23 := M2.cell 3 rfl; have d24 := M2.cell 4 rfl; have d25 := M2.cell 5 rfl; have d26 := M2.cell 6 rfl; have d27 := M2.cell 7 rfl; have a20 := A2.cell 0 rfl; have a21 := A2.cell 1 rfl; have a22 := A2.cell 2 rfl; have a23 := A2.cell 3 rfl; have z20 := Z2.cell 0 rfl; have y20 := Z2.free 0; have z21 := Z2.cell 1 rfl; have y21 := Z2.free 1; have z22 := Z2.cell 2 rfl; have y22 := Z2.free 2; have z23 := Z2.cell 3 rfl; have y23 := Z2.free 3; have z24 := Z2.cell 4 rfl; have y24 := Z2.free 4; have z25 := Z2.cell 5 rfl; have y25 := Z2.free 5; have z26 := Z2.cell 6 rfl; have y26 := Z2.free 6; have z27 := Z2.cell 7 rfl; have y27 := Z2.free 7
  go_wp2_with ((go_at_call 18; fail))
  refine (load_of S2.hc _ _ _ o0 o1 hxy).mono ?_
  rintro e w3 ⟨rfl, rfl⟩
  have hx : (x == x) = true := by simp
  have hy : (y == y) = true := by simp
  go_wp2_with fail
  go_region
  go_wp2
  refine bodyPost_ret (v := .tuple #[.pointer (some ⟨b, 0, none⟩), .agg s.rc, .bool true]) (by simp [results, Try.results12, go_sem, z20, z21, z22, z23, z24, z25, z26, z27]) rfl ?_
  refine DoP.same ?_
  refine Stored.drew ?_
  iterate 8 (refine Stored.set_ne ?_ (Nat.le_add_right _ 2) blt _ _)
  exact S2

set_option maxHeartbeats 400000 in
theorem do_0 (h : s.Ok) (hc : HC w b s) (n off v : Int) (n0 : 0 ≤ n) (n1 : n ≤ 18446744073709551615) :
    Calls Try.prog 12 #[.pointer (some ⟨b, 0, none⟩), .agg s.rc, .agg #[I 0, L n, U off, U v]] w (DoP w b (s.tick n)) := by
  have blt := hc.lt
  have H := Lib.hid (show HC (((w.alloc (.cells s.rc 27)).alloc (.cells #[I 0, L n, U off, U v] 32)).alloc (.cells rz 27)) b s from (((hc.alloc _).alloc _).alloc _))
  have B := Lib.hid (((((Below.refl w.heap.size w).alloc (Nat.le_refl _) (.cells s.rc 27)).alloc (by simp) (.cells #[I 0, L n, U off, U v] 32)).alloc (by simp; omega) (.cells rz 27)))
  have S := Lib.hid (Stored.of_below B.out H.out)
  have M := Lib.hid (show Blk (((w.alloc (.cells s.rc 27)).alloc (.cells #[I 0, L n, U off, U v] 32)).alloc (.cells rz 27)) w.heap.size s.rc 27 from ((Blk.new w s.rc 27).alloc _).alloc _)
  have A := Lib.hid (show Blk (((w.alloc (.cells s.rc 27)).alloc (.cells #[I 0, L n, U off, U v] 32)).alloc (.cells rz 27)) (w.heap.size + 1) #[I 0, L n, U off, U v] 32 from (show Blk ((w.alloc (.cells s.rc 27)).alloc (.cells #[I 0, L n, U off, U v] 32)) (w.heap.size + 1) #[I 0, L n, U off, U v] 32 by simpa using Blk.new (w.alloc (.cells s.rc 27)) #[I 0, L n, U off, U v] 32).alloc _)
  have Z := Lib.hid (show Blk (((w.alloc (.cells s.rc 27)).alloc (.cells #[I 0, L n, U off, U v] 32)).alloc (.cells rz 27)) (w.heap.size + 2) rz 27 by simpa using Blk.new ((w.alloc (.cells s.rc 27)).alloc (.cells #[I 0, L n, U off, U v] 32)) rz 27)
  go_enter Try.func12, Try.ntmps12
  have hne0 : w.heap.size ≠ b := by omega
  have hne1 : w.heap.size + 1 ≠ b := by omega
  have hne2 : w.heap.size + 2 ≠ b := by omega
  obtain ⟨s', hs'⟩ : ∃ s', Hid (s.tick n = s') := ⟨_, Lib.hid rfl⟩
  rw [hs'.out]
  go_wp2_with ((go_at_call 16; fail))
  refine (tick_of h H.out n s' n0 n1 hs').mono ?_
  rintro e w2 ⟨rfl, T2⟩
  have M2 := M.out.stored T2 hne0; have A2 := A.out.stored T2 hne1; have Z2 := Z.out.stored T2 hne2; have S2 := S.out.trans T2
  have d20 := M2.cell 0 rfl; have d21 := M2.cell 1 rfl; have d22 := M2.cell 2 rfl; have d23 := M2.cell 3 rfl; have d24 := M2.cell 4 rfl; have d25 := M2.cell 5 rfl; have d26 := M2.cell 6 rfl; have d27 := M2.cell 7 rfl; have a20 := A2.cell 0 rfl; have a21 := A2.cell 1 rfl; have a22 := A2.cell 2 rfl; have a23 := A2.cell 3 rfl
  go_wp2_with ((go_at_call 38; fail))
  refine (tickR_of s h n s' n0 n1 hs' _).mono ?_
  rintro e w3 ⟨rfl, hb3⟩
  have M3 := M2.below hb3 M2.lt; have A3 := A2.below hb3 A2.lt; have Z3 := Z2.below hb3 Z2.lt; have S3 := S2.then hb3
  clear d20 d21 d22 d23 d24 d25 d26 d27 a20 a21 a22 a23
  have z30 := Z3.cell 0 rfl; have y30 := Z3.free 0; have z31 := Z3.cell 1 rfl; have y31 := Z3.free 1; have z32 := Z3.cell 2 rfl; have y32 := Z3.free 2; have z33 := Z3.cell 3 rfl; have y33 := Z3.free 3; have z34 := Z3.cell 4 rfl; have y34 := Z3.free 4; have z35 := Z3.cell 5 rfl; have y35 := Z3.free 5; have z36 := Z3.cell 6 rfl; have y36 := Z3.free 6; have z37 := Z3.cell 7 rfl; have y37 := Z3.free 7
  go_wp2
  refine bodyPost_ret (v := .tuple #[.pointer (some ⟨b, 0, none⟩), .agg s'.rc, .bool true]) (by simp [results, Try.results12, go_sem, z30, z31, z32, z33, z34, z35, z36, z37]) rfl ?_
  refine DoP.same ?_
  iterate 8 (refine Stored.set_ne ?_ (Nat.le_add_right _ 2) blt _ _)
  exact S3

end
end Go.Proofs.Ytfjkfigjenalgaa
