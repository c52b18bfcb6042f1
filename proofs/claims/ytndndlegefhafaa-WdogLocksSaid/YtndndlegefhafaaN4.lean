/- The watchdog of the program: the control word, loads and stores. Conditions: those that each statement shows. -/
import Derived.Test.YtndndlegefhafaaN3
namespace Go.Proofs.Ytndndlegefhafaa
open Go.RowKit
set_option linter.unusedVariables false
set_option linter.unusedSimpArgs false

section
variable {b : Nat} {w : World}

theorem Field_of0 (v f : Int) (h0 : 0 ≤ v) (h1 : v ≤ 4294967295) (hf : v % 2 = f) (w : World) : Calls Try.prog 33 #[U v, .int .i64 0, .int .i64 1] w fun e w' => e = .returned (U f) ∧ w = w' := by
  rw [← hf]; exact Field_01 v h0 h1 w
theorem Field_of1 (v f : Int) (h0 : 0 ≤ v) (h1 : v ≤ 4294967295) (hf : v / 2 % 2 = f) (w : World) : Calls Try.prog 33 #[U v, .int .i64 1, .int .i64 1] w fun e w' => e = .returned (U f) ∧ w = w' := by
  rw [← hf]; exact Field_11 v h0 h1 w

set_option maxHeartbeats 2000000 in
theorem ctl_walk {s : WS} (hc : HW w b s) (v f g : Int) (h0 : 0 ≤ v) (h1 : v ≤ 4294967295) (hf : v % 2 = f) (hg : v / 2 % 2 = g) (hl : s.lk = false) (r : WS) (hr : Hid (s.ctlB v = r)) :
    Calls Try.prog 24 #[.pointer (some ⟨b, 0, none⟩), U v] w fun e w' => e = .returned (.tuple #[]) ∧ Stored w w' b r := by
  have F0 := Lib.hid (Field_of0 v f h0 h1 hf)
  have F1 := Lib.hid (Field_of1 v g h0 h1 hg)
  have K := Stored.of_below (Below.refl w.heap.size w) hc
  have KK := Lib.hid K
  have fb : f = 0 ∨ f = 1 := by omega
  have HF := Lib.hid hf
  have HG := Lib.hid hg
  clear hf hg K
  obtain ⟨en, lk, ar, shut, all, since, fault⟩ := s
  dsimp only at hl
  subst hl
  have x0 := (show Blk w b _ 52 from hc).wx 0 rfl
  have x3 := (show Blk w b _ 52 from hc).wx 3 rfl
  have x4 := (show Blk w b _ 52 from hc).wx 4 rfl
  try dsimp only at x0 x3 x4
  have c1 := hc.cell 1 rfl
  try dsimp only at c1
  rcases fb with rfl | rfl
  · cases en
    · obtain rfl : r = ⟨false, g == 1, ar, shut, all, since, fault⟩ := by rw [← hr.out]; have q1 := HF.out; have q2 := HG.out; simp [WS.ctlB, q1, q2]
      clear hr HF HG
      go_enter Try.func24, Try.ntmps24
      go_wp2_with (go_at_call 33; refine (F0.out _).mono ?_; rintro e wa ⟨rfl, rfl⟩)
      refine wp_region_grown (by kernel_rfl) (by kernel_rfl) ?_
      repeat (go_big_quiet_step (fail))
      refine wpQuiet_nil ?_
      intro w2 hb2
      have K2 := KK.out.then hb2
      clear x0 x3 x4 c1
      have k20 := K2.hc.cell 0 rfl; have k21 := K2.hc.cell 1 rfl; have f21 := K2.hc.free 1
      try dsimp only at k20 k21
      go_wp2_with (go_at_call 33; refine (F1.out _).mono ?_; rintro e wb ⟨rfl, rfl⟩)
      first
        | exact bodyPost_ret (v := .tuple #[]) (by simp [results, go_sem]) rfl ⟨rfl, (K2.set (s' := ⟨false, g == 1, ar, shut, all, since, fault⟩) 1 (.bool (g == 1)) rfl)⟩
        | (go_end0; exact ⟨rfl, (K2.set (s' := ⟨false, g == 1, ar, shut, all, since, fault⟩) 1 (.bool (g == 1)) rfl)⟩)
    · obtain rfl : r = ⟨false, g == 1, false, shut, all, 0, fault⟩ := by rw [← hr.out]; have q1 := HF.out; have q2 := HG.out; simp [WS.ctlB, q1, q2]
      clear hr HF HG
      go_enter Try.func24, Try.ntmps24
      go_wp2_with (go_at_call 33; refine (F0.out _).mono ?_; rintro e wa ⟨rfl, rfl⟩)
      refine wp_region_grown (by kernel_rfl) (by kernel_rfl) ?_
      repeat (go_big_quiet_step (fail))
      refine wpQuiet_nil ?_
      intro w2 hb2
      have K2 := KK.out.then hb2
      clear x0 x3 x4 c1
      have k20 := K2.hc.cell 0 rfl; have k21 := K2.hc.cell 1 rfl; have f21 := K2.hc.free 1
      try dsimp only at k20 k21
      go_wp2_with ((go_at_call 34; fail))
      refine (begin_any K2.hc false).mono ?_
      rintro e w3 ⟨rfl, K3⟩
      clear k20 k21 f21
      have k31 := K3.hc.cell 1 rfl; have f31 := K3.hc.free 1; have k30 := K3.hc.cell 0 rfl
      try dsimp only at k30 k31
      go_wp2_with (go_at_call 33; refine (F1.out _).mono ?_; rintro e wb ⟨rfl, rfl⟩)
      first
        | exact bodyPost_ret (v := .tuple #[]) (by simp [results, go_sem]) rfl ⟨rfl, ((K2.trans K3).set (s' := ⟨false, g == 1, false, shut, all, 0, fault⟩) 1 (.bool (g == 1)) rfl)⟩
        | (go_end0; exact ⟨rfl, ((K2.trans K3).set (s' := ⟨false, g == 1, false, shut, all, 0, fault⟩) 1 (.bool (g == 1)) rfl)⟩)
  · cases en
    · by_cases hlt : shut < all
      · have hd : decide (shut < all) = true := by simpa using hlt
        obtain rfl : r = ⟨true, g == 1, false, shut, all, 0, fault⟩ := by rw [← hr.out]; have q1 := HF.out; have q2 := HG.out; simp [WS.ctlB, hlt, q1, q2]
        clear hr HF HG
        clear hlt
        go_enter Try.func24, Try.ntmps24
        go_wp2_with (go_at_call 33; refine (F0.out _).mono ?_; rintro e wa ⟨rfl, rfl⟩)
        refine wp_region_grown (by kernel_rfl) (by kernel_rfl) ?_
        repeat (go_big_quiet_step (fail))
        refine wpQuiet_nil ?_
        intro w2 hb2
        have K2 := KK.out.then hb2
        clear x0 x3 x4 c1
        have k20 := K2.hc.cell 0 rfl; have k21 := K2.hc.cell 1 rfl; have f21 := K2.hc.free 1
        try dsimp only at k20 k21
        go_wp2_with ((go_at_call 34; fail))
        refine (begin_any K2.hc true).mono ?_
        rintro e w3 ⟨rfl, K3⟩
        clear k20 k21 f21
        have k31 := K3.hc.cell 1 rfl; have f31 := K3.hc.free 1; have k30 := K3.hc.cell 0 rfl
        try dsimp only at k30 k31
        go_wp2_with (go_at_call 33; refine (F1.out _).mono ?_; rintro e wb ⟨rfl, rfl⟩)
        first
          | exact bodyPost_ret (v := .tuple #[]) (by simp [results, go_sem]) rfl ⟨rfl, ((K2.trans K3).set (s' := ⟨true, g == 1, false, shut, all, 0, fault⟩) 1 (.bool (g == 1)) rfl)⟩
          | (go_end0; exact ⟨rfl, ((K2.trans K3).set (s' := ⟨true, g == 1, false, shut, all, 0, fault⟩) 1 (.bool (g == 1)) rfl)⟩)
      · have hd : decide (shut < all) = false := by simpa using hlt
        obtain rfl : r = ⟨false, g == 1, ar, shut, all, since, fault⟩ := by rw [← hr.out]; have q1 := HF.out; have q2 := HG.out; simp [WS.ctlB, hlt, q1, q2]
        clear hr HF HG
        clear hlt
        go_enter Try.func24, Try.ntmps24
        go_wp2_with (go_at_call 33; refine (F0.out _).mono ?_; rintro e wa ⟨rfl, rfl⟩)
        refine wp_region_grown (by kernel_rfl) (by kernel_rfl) ?_
        repeat (go_big_quiet_step (fail))
        refine wpQuiet_nil ?_
        intro w2 hb2
        have K2 := KK.out.then hb2
        clear x0 x3 x4 c1
        have k20 := K2.hc.cell 0 rfl; have k21 := K2.hc.cell 1 rfl; have f21 := K2.hc.free 1
        try dsimp only at k20 k21
        go_wp2_with (go_at_call 33; refine (F1.out _).mono ?_; rintro e wb ⟨rfl, rfl⟩)
        first
          | exact bodyPost_ret (v := .tuple #[]) (by simp [results, go_sem]) rfl ⟨rfl, (K2.set (s' := ⟨false, g == 1, ar, shut, all, since, fault⟩) 1 (.bool (g == 1)) rfl)⟩
          | (go_end0; exact ⟨rfl, (K2.set (s' := ⟨false, g == 1, ar, shut, all, since, fault⟩) 1 (.bool (g == 1)) rfl)⟩)
    · obtain rfl : r = ⟨true, g == 1, ar, shut, all, since, fault⟩ := by rw [← hr.out]; have q1 := HF.out; have q2 := HG.out; simp [WS.ctlB, q1, q2]
      clear hr HF HG
      go_enter Try.func24, Try.ntmps24
      go_wp2_with (go_at_call 33; refine (F0.out _).mono ?_; rintro e wa ⟨rfl, rfl⟩)
      refine wp_region_grown (by kernel_rfl) (by kernel_rfl) ?_
      repeat (go_big_quiet_step (fail))
      refine wpQuiet_nil ?_
      intro w2 hb2
      have K2 := KK.out.then hb2
      clear x0 x3 x4 c1
      have k20 := K2.hc.cell 0 rfl; have k21 := K2.hc.cell 1 rfl; have f21 := K2.hc.free 1
      try dsimp only at k20 k21
      go_wp2_with (go_at_call 33; refine (F1.out _).mono ?_; rintro e wb ⟨rfl, rfl⟩)
      first
        | exact bodyPost_ret (v := .tuple #[]) (by simp [results, go_sem]) rfl ⟨rfl, (K2.set (s' := ⟨true, g == 1, ar, shut, all, since, fault⟩) 1 (.bool (g == 1)) rfl)⟩
        | (go_end0; exact ⟨rfl, (K2.set (s' := ⟨true, g == 1, ar, shut, all, since, fault⟩) 1 (.bool (g == 1)) rfl)⟩)

theorem controlled_any {s : WS} (hc : HW w b s) (v : Int) (h0 : 0 ≤ v) (h1 : v ≤ 4294967295) :
    Calls Try.prog 24 #[.pointer (some ⟨b, 0, none⟩), U v] w fun e w' => e = .returned (.tuple #[]) ∧ Stored w w' b (s.ctlB v) := by
  obtain ⟨en, lk, ar, shut, all, since, fault⟩ := s
  cases lk
  · exact ctl_walk hc v _ _ h0 h1 rfl rfl rfl _ (Lib.hid rfl)
  · have K := Lib.hid (Stored.of_below (Below.refl w.heap.size w) hc)
    have hv : WS.ctlB ⟨en, true, ar, shut, all, since, fault⟩ v = ⟨en, true, ar, shut, all, since, fault⟩ := by simp [WS.ctlB]
    rw [hv]
    have c1 := hc.cell 1 rfl
    try dsimp only at c1
    clear hv
    go_enter Try.func24, Try.ntmps24
    go_wp2
    first
      | exact bodyPost_ret (v := .tuple #[]) (by simp [results, go_sem]) rfl ⟨rfl, K.out⟩
      | (go_end0; exact ⟨rfl, K.out⟩)

theorem load_align (off : Int) (h0 : 0 ≤ off) (h1 : off ≤ 4294967295) (h4 : off % 4 ≠ 0) :
    Calls Try.prog 18 #[.pointer (some ⟨b, 0, none⟩), U off] w fun e w' => e = .returned (.tuple #[U 0, I 11]) ∧ Below w.heap.size w w' := by
  have PL := Lib.hid (place_align b off h0 h1 h4)
  clear h4
  go_enter Try.func18, Try.ntmps18
  go_wp2_with (go_at_call 23; refine (PL.out _).mono ?_; rintro e wa ⟨rfl, rfl⟩)
  go_ret2
  exact ⟨rfl, Below.refl _ _⟩
theorem load_bus (off : Int) (h0 : 0 ≤ off) (h1 : off ≤ 4294967295) (h4 : off % 4 = 0) (h20 : 20 ≤ off) :
    Calls Try.prog 18 #[.pointer (some ⟨b, 0, none⟩), U off] w fun e w' => e = .returned (.tuple #[U 0, I 10]) ∧ Below w.heap.size w w' := by
  have PL := Lib.hid (place_bus b off h0 h1 h4 h20)
  clear h4 h20
  go_enter Try.func18, Try.ntmps18
  go_wp2_with (go_at_call 23; refine (PL.out _).mono ?_; rintro e wa ⟨rfl, rfl⟩)
  go_ret2
  exact ⟨rfl, Below.refl _ _⟩
theorem load_nil (off : Int) (w : World) :
    Calls Try.prog 18 #[.pointer none, U off] w fun e w' => e = .returned (.tuple #[U 0, I 10]) ∧ w = w' := by
  go_enter Try.func18, Try.ntmps18
  go_wp2_with (go_at_call 23; refine (place_nil _ _).mono ?_; rintro e wa ⟨rfl, rfl⟩)
  go_ret2
  exact ⟨rfl, rfl⟩

end
end Go.Proofs.Ytndndlegefhafaa
