/- The watchdog of the program: bits, keys and the control word. Conditions: those that each statement shows. -/
import Derived.Test.YtndndlegefhafaaN2
import Derived.Test.YtndndlegefhafaaM2
import Derived.Deep.CutRange
namespace Go.Proofs.Ytndndlegefhafaa
open Go.RowKit
set_option linter.unusedVariables false
set_option linter.unusedSimpArgs false

theorem mask_1 (w : World) : Calls Try.prog 38 #[.int .i64 1] w fun e w' => e = .returned (L 1) ∧ w = w' := by
  go_enter Try.func38, Try.ntmps38
  go_wp2
  go_ret
  exact ⟨rfl, rfl⟩
theorem field_01 (w : World) : Calls Try.prog 36 #[.int .i64 0, .int .i64 1] w fun e w' => e = .returned (U 1) ∧ w = w' := by
  go_enter Try.func36, Try.ntmps36
  go_wp2_with (go_at_call 38; refine (mask_1 _).mono ?_; rintro e w' ⟨rfl, rfl⟩)
  go_ret
  exact ⟨rfl, rfl⟩
theorem field_11 (w : World) : Calls Try.prog 36 #[.int .i64 1, .int .i64 1] w fun e w' => e = .returned (U 2) ∧ w = w' := by
  go_enter Try.func36, Try.ntmps36
  go_wp2_with (go_at_call 38; refine (mask_1 _).mono ?_; rintro e w' ⟨rfl, rfl⟩)
  go_ret
  exact ⟨rfl, rfl⟩
theorem Field_01 (n : Int) (h0 : 0 ≤ n) (h1 : n ≤ 4294967295) (w : World) : Calls Try.prog 33 #[U n, .int .i64 0, .int .i64 1] w fun e w' => e = .returned (U (n % 2)) ∧ w = w' := by
  go_enter Try.func33, Try.ntmps33
  go_wp2_with (go_at_call 36; refine (field_01 _).mono ?_; rintro e w' ⟨rfl, rfl⟩)
  go_ret
  exact ⟨ret_int (by rw [and_1 n h0 h1]; first | done | omega | simp), rfl⟩
theorem Field_11 (n : Int) (h0 : 0 ≤ n) (h1 : n ≤ 4294967295) (w : World) : Calls Try.prog 33 #[U n, .int .i64 1, .int .i64 1] w fun e w' => e = .returned (U (n / 2 % 2)) ∧ w = w' := by
  go_enter Try.func33, Try.ntmps33
  go_wp2_with (go_at_call 36; refine (field_11 _).mono ?_; rintro e w' ⟨rfl, rfl⟩)
  go_ret
  exact ⟨ret_int (by rw [and_2 n h0 h1]; omega), rfl⟩
theorem Put_0 (w : World) : Calls Try.prog 27 #[U 0, .int .i64 0, .int .i64 1, U 1] w fun e w' => e = .returned (U 1) ∧ w = w' := by
  go_enter Try.func27, Try.ntmps27
  go_wp2_with (go_at_call 36; refine (field_01 _).mono ?_; rintro e w' ⟨rfl, rfl⟩)
  go_ret
  exact ⟨rfl, rfl⟩
theorem Put_10 (w : World) : Calls Try.prog 27 #[U 0, .int .i64 1, .int .i64 1, U 1] w fun e w' => e = .returned (U 2) ∧ w = w' := by
  go_enter Try.func27, Try.ntmps27
  go_wp2_with (go_at_call 36; refine (field_11 _).mono ?_; rintro e w' ⟨rfl, rfl⟩)
  go_ret
  exact ⟨rfl, rfl⟩
theorem Put_11 (w : World) : Calls Try.prog 27 #[U 1, .int .i64 1, .int .i64 1, U 1] w fun e w' => e = .returned (U 3) ∧ w = w' := by
  go_enter Try.func27, Try.ntmps27
  go_wp2_with (go_at_call 36; refine (field_11 _).mono ?_; rintro e w' ⟨rfl, rfl⟩)
  go_ret
  exact ⟨rfl, rfl⟩

section
variable {b : Nat} {w : World}

theorem begin_any {s : WS} (hc : HW w b s) (e0 : Bool) : Calls Try.prog 34 #[.pointer (some ⟨b, 0, none⟩), .bool e0] w fun e w' => e = .returned (.tuple #[]) ∧ Stored w w' b ⟨e0, s.lk, false, s.shut, s.all, 0, s.fault⟩ := by
  obtain ⟨en, lk, ar, shut, all, since, fault⟩ := s
  have K := Stored.of_below (Below.refl w.heap.size w) hc
  have f0 := hc.free 0; have f2 := hc.free 2; have f5 := hc.free 5
  have c0 := hc.cell 0 rfl; have c2 := hc.cell 2 rfl; have c5 := hc.cell 5 rfl
  go_enter Try.func34, Try.ntmps34
  go_wp2
  have K3 := ((K.set (s' := ⟨e0, lk, ar, shut, all, since, fault⟩) 0 (.bool e0) rfl).set (s' := ⟨e0, lk, false, shut, all, since, fault⟩) 2 (.bool false) rfl).set (s' := ⟨e0, lk, false, shut, all, 0, fault⟩) 5 (L 0) rfl
  first
    | exact bodyPost_ret (v := .tuple #[]) (by simp [results, go_sem]) rfl ⟨rfl, K3⟩
    | (go_end0; exact ⟨rfl, K3⟩)

theorem early_any {s : WS} (h : s.Ok) (hc : HW w b s) (q : Bool) (hq : decide (s.since < s.shut) = q) : Calls Try.prog 35 #[.pointer (some ⟨b, 0, none⟩)] w fun e w' => e = .returned (.bool q) ∧ Below w.heap.size w w' := by
  obtain ⟨en, lk, ar, shut, all, since, fault⟩ := s
  have h0 := h.h0; have h1 := h.h1
  try dsimp only at h0 h1 hq
  have q0 : IntKind.u64.wrap shut = shut := by rw [IntKind.wrap_u64]; omega
  have c5 := (show Blk w b _ 52 from hc).wx 5 rfl
  have c3 := (show Blk w b _ 52 from hc).wx 3 rfl
  try dsimp only at c5 c3
  go_enter Try.func35, Try.ntmps35
  go_upto_region 1 with fail
  refine wp_region_grown (by kernel_rfl) (by kernel_rfl) ?_
  repeat (go_big_quiet_step (fail))
  refine wpQuiet_nil ?_
  intro w2 hb
  go_wp2
  go_ret
  exact ⟨rfl, hb⟩


theorem void_end {P : Prop} (h : P) : P := h

theorem keyed_any {s : WS} (h : s.Ok) (hc : HW w b s) (v : Int) : Calls Try.prog 25 #[.pointer (some ⟨b, 0, none⟩), U v] w fun e w' => e = .returned (.tuple #[]) ∧ Stored w w' b (s.keyB v) := by
  obtain ⟨q, hq⟩ : ∃ q, decide (s.since < s.shut) = q := ⟨_, rfl⟩
  have EA := Lib.hid (fun (w2 : World) (h2 : HW w2 b s) => early_any (w := w2) h h2 q hq)
  have HQ := Lib.hid hq
  have K := Stored.of_below (Below.refl w.heap.size w) hc
  have KK := Lib.hid K
  clear hq
  obtain ⟨en, lk, ar, shut, all, since, fault⟩ := s
  have f2 := hc.free 2; have f6 := hc.free 6
  have c0 := hc.cell 0 rfl; have c2 := hc.cell 2 rfl; have c6 := hc.cell 6 rfl
  cases en
  · have HV : Hid (WS.keyB ⟨false, lk, ar, shut, all, since, fault⟩ v = ⟨false, lk, ar, shut, all, since, fault⟩) := Lib.hid (by simp [WS.keyB])
    clear K
    go_enter Try.func25, Try.ntmps25
    go_wp2
    rw [HV.out]
    first
      | exact bodyPost_ret (v := .tuple #[]) (by simp [results, go_sem]) rfl ⟨rfl, KK.out⟩
      | (go_end0; exact ⟨rfl, KK.out⟩)
  by_cases h1 : v = 23130
  · subst h1
    have HV : Hid (WS.keyB ⟨true, lk, ar, shut, all, since, fault⟩ 23130 = ⟨true, lk, true, shut, all, since, fault⟩) := Lib.hid (by simp [WS.keyB])
    clear K
    go_enter Try.func25, Try.ntmps25
    go_wp2
    rw [HV.out]
    first
      | exact bodyPost_ret (v := .tuple #[]) (by simp [results, go_sem]) rfl ⟨rfl, (KK.out.set (s' := ⟨true, lk, true, shut, all, since, fault⟩) 2 (.bool true) rfl)⟩
      | (go_end0; exact ⟨rfl, (KK.out.set (s' := ⟨true, lk, true, shut, all, since, fault⟩) 2 (.bool true) rfl)⟩)
  have n1 : (v == 23130) = false := by simpa using h1
  by_cases h2 : v = 42405 ∧ ar = true
  · obtain ⟨rfl, rfl⟩ := h2
    cases q
    · have HV : Hid (WS.keyB ⟨true, lk, true, shut, all, since, fault⟩ 42405 = ⟨true, lk, false, shut, all, 0, fault⟩) := Lib.hid (by
        have := HQ.out; simp at this
        simp [WS.keyB]; omega)
      clear K h1
      go_enter Try.func25, Try.ntmps25
      go_wp2_with ((go_at_call 35; fail))
      refine (EA.out _ hc).mono ?_
      rintro e w2 ⟨rfl, hb2⟩
      have K2 := KK.out.then hb2
      go_wp2_with (go_at_call 34; refine (begin_any K2.hc _).mono ?_; rintro e w3 ⟨rfl, K3⟩)
      rw [HV.out]
      first
        | exact bodyPost_ret (v := .tuple #[]) (by simp [results, go_sem]) rfl ⟨rfl, (K2.trans K3)⟩
        | (go_end0; exact ⟨rfl, (K2.trans K3)⟩)
    · have HV : Hid (WS.keyB ⟨true, lk, true, shut, all, since, fault⟩ 42405 = ⟨true, lk, true, shut, all, since, 4⟩) := Lib.hid (by
        have := HQ.out; simp at this
        simp [WS.keyB, this])
      clear K h1
      go_enter Try.func25, Try.ntmps25
      go_wp2_with ((go_at_call 35; fail))
      refine (EA.out _ hc).mono ?_
      rintro e w2 ⟨rfl, hb2⟩
      have K2 := KK.out.then hb2
      have f26 := K2.hc.free 6; have c26 := K2.hc.cell 6 rfl
      go_wp2_with fail
      rw [HV.out]
      first
        | exact bodyPost_ret (v := .tuple #[]) (by simp [results, go_sem]) rfl ⟨rfl, (K2.set (s' := ⟨true, lk, true, shut, all, since, 4⟩) 6 (I 4) rfl)⟩
        | (go_end0; exact ⟨rfl, (K2.set (s' := ⟨true, lk, true, shut, all, since, 4⟩) 6 (I 4) rfl)⟩)
  · have hv : WS.keyB ⟨true, lk, ar, shut, all, since, fault⟩ v = if q = true then ⟨true, lk, ar, shut, all, since, 8⟩ else ⟨true, lk, false, shut, all, since, fault⟩ := by
      have := HQ.out
      try dsimp only at this
      subst this
      simp [WS.keyB, h1, h2]
    have HV := Lib.hid hv
    clear hv K
    have rest : ∀ (w2 : World), Below w.heap.size w w2 → Stored w w2 b ⟨true, lk, ar, shut, all, since, fault⟩ := fun w2 hb => KK.out.then hb
    have HR := Lib.hid rest
    clear rest
    by_cases h3 : v = 42405
    · obtain rfl : ar = false := by cases ar; rfl; exact absurd ⟨h3, rfl⟩ h2
      subst h3
      clear h1 h2
      cases q
      · go_enter Try.func25, Try.ntmps25
        go_wp2_with ((go_at_call 35; fail))
        refine (EA.out _ hc).mono ?_
        rintro e w2 ⟨rfl, hb2⟩
        have K2 := KK.out.then hb2
        have f22 := K2.hc.free 2; have c22 := K2.hc.cell 2 rfl
        go_wp2_with fail
        rw [HV.out]
        first
          | exact bodyPost_ret (v := .tuple #[]) (by simp [results, go_sem]) rfl ⟨rfl, (K2.set (s' := ⟨true, lk, false, shut, all, since, fault⟩) 2 (.bool false) rfl)⟩
          | (go_end0; exact ⟨rfl, (K2.set (s' := ⟨true, lk, false, shut, all, since, fault⟩) 2 (.bool false) rfl)⟩)
      · go_enter Try.func25, Try.ntmps25
        go_wp2_with ((go_at_call 35; fail))
        refine (EA.out _ hc).mono ?_
        rintro e w2 ⟨rfl, hb2⟩
        have K2 := KK.out.then hb2
        have f26 := K2.hc.free 6; have c26 := K2.hc.cell 6 rfl
        go_wp2_with fail
        rw [HV.out]
        first
          | exact bodyPost_ret (v := .tuple #[]) (by simp [results, go_sem]) rfl ⟨rfl, (K2.set (s' := ⟨true, lk, false, shut, all, since, 8⟩) 6 (I 8) rfl)⟩
          | (go_end0; exact ⟨rfl, (K2.set (s' := ⟨true, lk, false, shut, all, since, 8⟩) 6 (I 8) rfl)⟩)
    · have n3 : (v == 42405) = false := by simpa using h3
      clear h1 h2 h3
      cases q
      · go_enter Try.func25, Try.ntmps25
        go_wp2_with ((go_at_call 35; fail))
        refine (EA.out _ hc).mono ?_
        rintro e w2 ⟨rfl, hb2⟩
        have K2 := KK.out.then hb2
        have f22 := K2.hc.free 2; have c22 := K2.hc.cell 2 rfl
        go_wp2_with fail
        rw [HV.out]
        first
          | exact bodyPost_ret (v := .tuple #[]) (by simp [results, go_sem]) rfl ⟨rfl, (K2.set (s' := ⟨true, lk, false, shut, all, since, fault⟩) 2 (.bool false) rfl)⟩
          | (go_end0; exact ⟨rfl, (K2.set (s' := ⟨true, lk, false, shut, all, since, fault⟩) 2 (.bool false) rfl)⟩)
      · go_enter Try.func25, Try.ntmps25
        go_wp2_with ((go_at_call 35; fail))
        refine (EA.out _ hc).mono ?_
        rintro e w2 ⟨rfl, hb2⟩
        have K2 := KK.out.then hb2
        have f26 := K2.hc.free 6; have c26 := K2.hc.cell 6 rfl
        go_wp2_with fail
        rw [HV.out]
        first
          | exact bodyPost_ret (v := .tuple #[]) (by simp [results, go_sem]) rfl ⟨rfl, (K2.set (s' := ⟨true, lk, ar, shut, all, since, 8⟩) 6 (I 8) rfl)⟩
          | (go_end0; exact ⟨rfl, (K2.set (s' := ⟨true, lk, ar, shut, all, since, 8⟩) 6 (I 8) rfl)⟩)

set_option maxHeartbeats 1000000 in
theorem reset_any {s : WS} (hc : HW w b s) : Calls Try.prog 22 #[.pointer (some ⟨b, 0, none⟩)] w fun e w' => e = .returned (.tuple #[]) ∧ Stored w w' b WS.zero := by
  have K := Stored.of_below (Below.refl w.heap.size w) hc
  obtain ⟨en, lk, ar, shut, all, since, fault⟩ := s
  have K1 := K.set (s' := ⟨false, lk, ar, shut, all, since, fault⟩) 0 (.bool false) rfl
  have K2 := K1.set (s' := ⟨false, false, ar, shut, all, since, fault⟩) 1 (.bool false) rfl
  have K3 := K2.set (s' := ⟨false, false, false, shut, all, since, fault⟩) 2 (.bool false) rfl
  have K4 := K3.set (s' := ⟨false, false, false, 0, all, since, fault⟩) 3 (U 0) rfl
  have K5 := K4.set (s' := ⟨false, false, false, 0, 0, since, fault⟩) 4 (U 0) rfl
  have K6 := K5.set (s' := ⟨false, false, false, 0, 0, 0, fault⟩) 5 (L 0) rfl
  have K7 := K6.set (s' := WS.zero) 6 (I 0) rfl
  have KK := Lib.hid K7
  clear K K1 K2 K3 K4 K5 K6 K7
  have f0 := hc.free 0; have c0 := hc.cell 0 rfl; have f1 := hc.free 1; have c1 := hc.cell 1 rfl; have f2 := hc.free 2; have c2 := hc.cell 2 rfl; have f3 := hc.free 3; have c3 := hc.cell 3 rfl; have f4 := hc.free 4; have c4 := hc.cell 4 rfl; have f5 := hc.free 5; have c5 := hc.cell 5 rfl; have f6 := hc.free 6; have c6 := hc.cell 6 rfl
  go_enter Try.func22, Try.ntmps22
  go_wp2
  first
    | exact bodyPost_ret (v := .tuple #[]) (by simp [results, go_sem]) rfl ⟨rfl, KK.out⟩
    | (go_end0; exact ⟨rfl, KK.out⟩)
end
end Go.Proofs.Ytndndlegefhafaa
