/- The law's own functions: a timer and the document's are alike. Its conditions: those that its statement shows. -/
import Derived.Test.YtfjkfigjenalgaaN7
import Derived.Test.YtfjkfigjenalgaaR9
namespace Go.Proofs.Ytfjkfigjenalgaa
open Go.RowKit
set_option linter.unusedVariables false

theorem load_of {b : Nat} {s : CS} {w : World} (hc : HC w b s) (off v e : Int) (h0 : 0 ≤ off) (h1 : off ≤ 4294967295) (hv : Hid (s.loadB off = (v, e))) :
    Calls Try.prog 18 #[.pointer (some ⟨b, 0, none⟩), U off] w fun x w' => x = .returned (.tuple #[U v, I e]) ∧ w = w' := by
  have := load_any hc off h0 h1
  rw [hv.out] at this; exact this
theorem loadR_of (s : CS) (h : s.Ok) (off v e : Int) (h0 : 0 ≤ off) (h1 : off ≤ 4294967295) (hv : Hid (s.loadB off = (v, e))) (w : World) :
    Calls Try.prog 39 #[.agg s.rc, U off] w fun x w' => x = .returned (.tuple #[U v, I e]) ∧ Below w.heap.size w w' := by
  have := load_ref s h off h0 h1 w
  rw [show s.loadB' off = s.loadB off from rfl, hv.out] at this; exact this

set_option maxHeartbeats 800000 in
theorem alike_yes {b : Nat} {w : World} (l v sc ph : Int) (en re ir : Bool) (h : CS.Ok ⟨l, v, en, re, ir, sc, ph, true⟩) (hc : HC w b ⟨l, v, en, re, ir, sc, ph, true⟩) :
    Calls Try.prog 13 #[.pointer (some ⟨b, 0, none⟩), .agg (CS.rc ⟨l, v, en, re, ir, sc, ph, true⟩)] w fun e w' => e = .returned (.bool true) ∧ Below w.heap.size w w' := by
  have l0 : Hid (CS.loadB ⟨l, v, en, re, ir, sc, ph, true⟩ 0 = (l, 0)) := Lib.hid rfl
  have l4 : Hid (CS.loadB ⟨l, v, en, re, ir, sc, ph, true⟩ 4 = (v, 0)) := Lib.hid rfl
  have l8 : Hid (CS.loadB ⟨l, v, en, re, ir, sc, ph, true⟩ 8 = (CS.ctl ⟨l, v, en, re, ir, sc, ph, true⟩, 0)) := Lib.hid rfl
  have l12 : Hid (CS.loadB ⟨l, v, en, re, ir, sc, ph, true⟩ 12 = (bI true, 0)) := Lib.hid rfl
  have hR := Lib.hid (Blk.new w (CS.rc ⟨l, v, en, re, ir, sc, ph, true⟩) 27)
  have H := Lib.hid (hc.alloc (.cells (CS.rc ⟨l, v, en, re, ir, sc, ph, true⟩) 27))
  have hB := Lib.hid ((Below.refl w.heap.size w).alloc (Nat.le_refl _) (.cells (CS.rc ⟨l, v, en, re, ir, sc, ph, true⟩) 27))
  go_enter Try.func13, Try.ntmps13
  go_wp2_with fail
  refine wp_loop_rounds 5 ?_
  rw [rounds_succ]
  go_wp2_with (first | (go_at_call 18; refine (load_of H.out _ _ _ (by decide) (by decide) l0).mono ?_; rintro e v0 ⟨rfl, rfl⟩) | (go_at_call 39; refine (loadR_of ⟨l, v, en, re, ir, sc, ph, true⟩ h _ _ _ (by decide) (by decide) l0 _).mono ?_; rintro e w1 ⟨rfl, hb0⟩; have R0 := hR.out.below hb0 hR.out.lt; have H0 := H.out.below hb0 H.out.lt; have B0 := hB.out.trans (hb0.mono hB.out.size); have c00 := R0.cell 0 rfl; have c01 := R0.cell 1 rfl; have c02 := R0.cell 2 rfl; have c03 := R0.cell 3 rfl; have c04 := R0.cell 4 rfl; have c05 := R0.cell 5 rfl; have c06 := R0.cell 6 rfl; have c07 := R0.cell 7 rfl))
  rw [rounds_succ]
  go_wp2_with (first | (go_at_call 18; refine (load_of H0 _ _ _ (by decide) (by decide) l4).mono ?_; rintro e v1 ⟨rfl, rfl⟩) | (go_at_call 39; refine (loadR_of ⟨l, v, en, re, ir, sc, ph, true⟩ h _ _ _ (by decide) (by decide) l4 _).mono ?_; rintro e w2 ⟨rfl, hb1⟩; have R1 := R0.below hb1 R0.lt; have H1 := H0.below hb1 H0.lt; have B1 := B0.trans (hb1.mono B0.size); have c10 := R1.cell 0 rfl; have c11 := R1.cell 1 rfl; have c12 := R1.cell 2 rfl; have c13 := R1.cell 3 rfl; have c14 := R1.cell 4 rfl; have c15 := R1.cell 5 rfl; have c16 := R1.cell 6 rfl; have c17 := R1.cell 7 rfl))
  rw [rounds_succ]
  go_wp2_with (first | (go_at_call 18; refine (load_of H1 _ _ _ (by decide) (by decide) l8).mono ?_; rintro e v2 ⟨rfl, rfl⟩) | (go_at_call 39; refine (loadR_of ⟨l, v, en, re, ir, sc, ph, true⟩ h _ _ _ (by decide) (by decide) l8 _).mono ?_; rintro e w3 ⟨rfl, hb2⟩; have R2 := R1.below hb2 R1.lt; have H2 := H1.below hb2 H1.lt; have B2 := B1.trans (hb2.mono B1.size); have c20 := R2.cell 0 rfl; have c21 := R2.cell 1 rfl; have c22 := R2.cell 2 rfl; have c23 := R2.cell 3 rfl; have c24 := R2.cell 4 rfl; have c25 := R2.cell 5 rfl; have c26 := R2.cell 6 rfl; have c27 := R2.cell 7 rfl))
  rw [rounds_succ]
  go_wp2_with (first | (go_at_call 18; refine (load_of H2 _ _ _ (by decide) (by decide) l12).mono ?_; rintro e v3 ⟨rfl, rfl⟩) | (go_at_call 39; refine (loadR_of ⟨l, v, en, re, ir, sc, ph, true⟩ h _ _ _ (by decide) (by decide) l12 _).mono ?_; rintro e w4 ⟨rfl, hb3⟩; have R3 := R2.below hb3 R2.lt; have H3 := H2.below hb3 H2.lt; have B3 := B2.trans (hb3.mono B2.size); have c30 := R3.cell 0 rfl; have c31 := R3.cell 1 rfl; have c32 := R3.cell 2 rfl; have c33 := R3.cell 3 rfl; have c34 := R3.cell 4 rfl; have c35 := R3.cell 5 rfl; have c36 := R3.cell 6 rfl; have c37 := R3.cell 7 rfl))
  rw [rounds_succ]
  go_wp2_with fail
  clear c00 c01 c02 c03 c04 c05 c06 c07 c10 c11 c12 c13 c14 c15 c16 c17 c20 c21 c22 c23 c24 c25 c26 c27
  have q0 := R3.wx 0 rfl
  have q1 := R3.wx 1 rfl
  have q2 := R3.wx 2 rfl
  have q3 := R3.wx 3 rfl
  have q4 := R3.wx 4 rfl
  have q5 := R3.wx 5 rfl
  have q6 := R3.wx 6 rfl
  have q7 := R3.wx 7 rfl
  have hW : ∀ x : WX w4, HC x.w b ⟨l, v, en, re, ir, sc, ph, true⟩ := fun x => H3.below x.h H3.lt
  refine wp_region_grown (by kernel_rfl) (by kernel_rfl) ?_
  repeat (go_big_quiet_step (first | (go_at_call 21; exact WX.of (runs_any h (hW _))) | (go_at_call 23; exact WX.of (line_any h (hW _))) | (go_at_call 19; exact WX.of (left_any h (hW _))) | (go_at_call 41; exact WX.of (left_ref ⟨l, v, en, re, ir, sc, ph, true⟩ h _))))
  trace "C"
  go_outline
  refine wpQuiet_nil ?_
  intro w5 hb5
  clear q0 q1 q2 q3 q4 q5 q6 q7
  go_wp2
  go_ret
  exact ⟨ret_bool (by simp), B3.trans (hb5.mono B3.size)⟩

set_option maxHeartbeats 800000 in
theorem alike_no {b : Nat} {w : World} (l v sc ph : Int) (en re ir : Bool) (h : CS.Ok ⟨l, v, en, re, ir, sc, ph, false⟩) (hc : HC w b ⟨l, v, en, re, ir, sc, ph, false⟩) :
    Calls Try.prog 13 #[.pointer (some ⟨b, 0, none⟩), .agg (CS.rc ⟨l, v, en, re, ir, sc, ph, false⟩)] w fun e w' => e = .returned (.bool true) ∧ Below w.heap.size w w' := by
  have l0 : Hid (CS.loadB ⟨l, v, en, re, ir, sc, ph, false⟩ 0 = (l, 0)) := Lib.hid rfl
  have l4 : Hid (CS.loadB ⟨l, v, en, re, ir, sc, ph, false⟩ 4 = (v, 0)) := Lib.hid rfl
  have l8 : Hid (CS.loadB ⟨l, v, en, re, ir, sc, ph, false⟩ 8 = (CS.ctl ⟨l, v, en, re, ir, sc, ph, false⟩, 0)) := Lib.hid rfl
  have l12 : Hid (CS.loadB ⟨l, v, en, re, ir, sc, ph, false⟩ 12 = (bI false, 0)) := Lib.hid rfl
  have hR := Lib.hid (Blk.new w (CS.rc ⟨l, v, en, re, ir, sc, ph, false⟩) 27)
  have H := Lib.hid (hc.alloc (.cells (CS.rc ⟨l, v, en, re, ir, sc, ph, false⟩) 27))
  have hB := Lib.hid ((Below.refl w.heap.size w).alloc (Nat.le_refl _) (.cells (CS.rc ⟨l, v, en, re, ir, sc, ph, false⟩) 27))
  go_enter Try.func13, Try.ntmps13
  go_wp2_with fail
  refine wp_loop_rounds 5 ?_
  rw [rounds_succ]
  go_wp2_with (first | (go_at_call 18; refine (load_of H.out _ _ _ (by decide) (by decide) l0).mono ?_; rintro e v0 ⟨rfl, rfl⟩) | (go_at_call 39; refine (loadR_of ⟨l, v, en, re, ir, sc, ph, false⟩ h _ _ _ (by decide) (by decide) l0 _).mono ?_; rintro e w1 ⟨rfl, hb0⟩; have R0 := hR.out.below hb0 hR.out.lt; have H0 := H.out.below hb0 H.out.lt; have B0 := hB.out.trans (hb0.mono hB.out.size); have c00 := R0.cell 0 rfl; have c01 := R0.cell 1 rfl; have c02 := R0.cell 2 rfl; have c03 := R0.cell 3 rfl; have c04 := R0.cell 4 rfl; have c05 := R0.cell 5 rfl; have c06 := R0.cell 6 rfl; have c07 := R0.cell 7 rfl))
  rw [rounds_succ]
  go_wp2_with (first | (go_at_call 18; refine (load_of H0 _ _ _ (by decide) (by decide) l4).mono ?_; rintro e v1 ⟨rfl, rfl⟩) | (go_at_call 39; refine (loadR_of ⟨l, v, en, re, ir, sc, ph, false⟩ h _ _ _ (by decide) (by decide) l4 _).mono ?_; rintro e w2 ⟨rfl, hb1⟩; have R1 := R0.below hb1 R0.lt; have H1 := H0.below hb1 H0.lt; have B1 := B0.trans (hb1.mono B0.size); have c10 := R1.cell 0 rfl; have c11 := R1.cell 1 rfl; have c12 := R1.cell 2 rfl; have c13 := R1.cell 3 rfl; have c14 := R1.cell 4 rfl; have c15 := R1.cell 5 rfl; have c16 := R1.cell 6 rfl; have c17 := R1.cell 7 rfl))
  rw [rounds_succ]
  go_wp2_with (first | (go_at_call 18; refine (load_of H1 _ _ _ (by decide) (by decide) l8).mono ?_; rintro e v2 ⟨rfl, rfl⟩) | (go_at_call 39; refine (loadR_of ⟨l, v, en, re, ir, sc, ph, false⟩ h _ _ _ (by decide) (by decide) l8 _).mono ?_; rintro e w3 ⟨rfl, hb2⟩; have R2 := R1.below hb2 R1.lt; have H2 := H1.below hb2 H1.lt; have B2 := B1.trans (hb2.mono B1.size); have c20 := R2.cell 0 rfl; have c21 := R2.cell 1 rfl; have c22 := R2.cell 2 rfl; have c23 := R2.cell 3 rfl; have c24 := R2.cell 4 rfl; have c25 := R2.cell 5 rfl; have c26 := R2.cell 6 rfl; have c27 := R2.cell 7 rfl))
  rw [rounds_succ]
  go_wp2_with (first | (go_at_call 18; refine (load_of H2 _ _ _ (by decide) (by decide) l12).mono ?_; rintro e v3 ⟨rfl, rfl⟩) | (go_at_call 39; refine (loadR_of ⟨l, v, en, re, ir, sc, ph, false⟩ h _ _ _ (by decide) (by decide) l12 _).mono ?_; rintro e w4 ⟨rfl, hb3⟩; have R3 := R2.below hb3 R2.lt; have H3 := H2.below hb3 H2.lt; have B3 := B2.trans (hb3.mono B2.size); have c30 := R3.cell 0 rfl; have c31 := R3.cell 1 rfl; have c32 := R3.cell 2 rfl; have c33 := R3.cell 3 rfl; have c34 := R3.cell 4 rfl; have c35 := R3.cell 5 rfl; have c36 := R3.cell 6 rfl; have c37 := R3.cell 7 rfl))
  rw [rounds_succ]
  go_wp2_with fail
  clear c00 c01 c02 c03 c04 c05 c06 c07 c10 c11 c12 c13 c14 c15 c16 c17 c20 c21 c22 c23 c24 c25 c26 c27
  have q0 := R3.wx 0 rfl
  have q1 := R3.wx 1 rfl
  have q2 := R3.wx 2 rfl
  have q3 := R3.wx 3 rfl
  have q4 := R3.wx 4 rfl
  have q5 := R3.wx 5 rfl
  have q6 := R3.wx 6 rfl
  have q7 := R3.wx 7 rfl
  have hW : ∀ x : WX w4, HC x.w b ⟨l, v, en, re, ir, sc, ph, false⟩ := fun x => H3.below x.h H3.lt
  refine wp_region_grown (by kernel_rfl) (by kernel_rfl) ?_
  repeat (go_big_quiet_step (first | (go_at_call 21; exact WX.of (runs_any h (hW _))) | (go_at_call 23; exact WX.of (line_any h (hW _))) | (go_at_call 19; exact WX.of (left_any h (hW _))) | (go_at_call 41; exact WX.of (left_ref ⟨l, v, en, re, ir, sc, ph, false⟩ h _))))
  trace "C"
  go_outline
  refine wpQuiet_nil ?_
  intro w5 hb5
  clear q0 q1 q2 q3 q4 q5 q6 q7
  go_wp2
  go_ret
  exact ⟨ret_bool (by simp), B3.trans (hb5.mono B3.size)⟩

theorem alike_any {b : Nat} {s : CS} {w : World} (h : s.Ok) (hc : HC w b s) :
    Calls Try.prog 13 #[.pointer (some ⟨b, 0, none⟩), .agg s.rc] w fun e w' => e = .returned (.bool true) ∧ Below w.heap.size w w' := by
  obtain ⟨l, v, en, re, ir, sc, ph, st⟩ := s
  cases st
  · exact alike_no l v sc ph en re ir h hc
  · exact alike_yes l v sc ph en re ir h hc
end Go.Proofs.Ytfjkfigjenalgaa
