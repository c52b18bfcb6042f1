/- The watchdog of the program: stores. Conditions: those that each statement shows. -/
import Derived.Test.YtndndlegefhafaaN4
namespace Go.Proofs.Ytndndlegefhafaa
open Go.RowKit
set_option linter.unusedVariables false
set_option linter.unusedSimpArgs false

section
variable {b : Nat} {s : WS} {w : World}

theorem store_align (hc : HW w b s) (off v : Int) (h0 : 0 ≤ off) (h1 : off ≤ 4294967295) (h4 : off % 4 ≠ 0) :
    Calls Try.prog 9 #[.pointer (some ⟨b, 0, none⟩), U off, U v] w fun e w' => e = .returned (I 11) ∧ Stored w w' b s := by
  have PL := Lib.hid (place_align b off h0 h1 h4)
  have K := Lib.hid (Stored.of_below (Below.refl w.heap.size w) hc)
  clear h4
  go_enter Try.func9, Try.ntmps9
  go_wp2_with (go_at_call 23; refine (PL.out _).mono ?_; rintro e wa ⟨rfl, rfl⟩)
  go_ret
  exact ⟨rfl, K.out⟩
theorem store_bus (hc : HW w b s) (off v : Int) (h0 : 0 ≤ off) (h1 : off ≤ 4294967295) (h4 : off % 4 = 0) (h20 : 20 ≤ off) :
    Calls Try.prog 9 #[.pointer (some ⟨b, 0, none⟩), U off, U v] w fun e w' => e = .returned (I 10) ∧ Stored w w' b s := by
  have PL := Lib.hid (place_bus b off h0 h1 h4 h20)
  have K := Lib.hid (Stored.of_below (Below.refl w.heap.size w) hc)
  clear h4 h20
  go_enter Try.func9, Try.ntmps9
  go_wp2_with (go_at_call 23; refine (PL.out _).mono ?_; rintro e wa ⟨rfl, rfl⟩)
  go_ret
  exact ⟨rfl, K.out⟩
theorem store_nil (off v : Int) (w : World) :
    Calls Try.prog 9 #[.pointer none, U off, U v] w fun e w' => e = .returned (I 10) ∧ w = w' := by
  go_enter Try.func9, Try.ntmps9
  go_wp2_with (go_at_call 23; refine (place_nil _ _).mono ?_; rintro e wa ⟨rfl, rfl⟩)
  go_ret
  exact ⟨rfl, rfl⟩
theorem store_16 (hc : HW w b s) (v : Int) :
    Calls Try.prog 9 #[.pointer (some ⟨b, 0, none⟩), U 16, U v] w fun e w' => e = .returned (I 12) ∧ Stored w w' b s := by
  have PL := Lib.hid (place_ok b 16 4 (by decide) (by decide) (by decide))
  have K := Lib.hid (Stored.of_below (Below.refl w.heap.size w) hc)
  go_enter Try.func9, Try.ntmps9
  go_wp2_with (go_at_call 23; refine (PL.out _).mono ?_; rintro e wa ⟨rfl, rfl⟩)
  go_ret
  exact ⟨rfl, K.out⟩
theorem store_fault (hc : HW w b s) (hf : s.fault ≠ 0) (off k v : Int) (hk : off = 4 * k) (k0 : 0 ≤ k) (k1 : k ≤ 3) :
    Calls Try.prog 9 #[.pointer (some ⟨b, 0, none⟩), U off, U v] w fun e w' => e = .returned (I 0) ∧ Stored w w' b s := by
  have PL := Lib.hid (place_ok b off k hk k0 (by omega))
  have K := Lib.hid (Stored.of_below (Below.refl w.heap.size w) hc)
  have q : (k == 4) = false := by simp; omega
  have fb : (s.fault == 0) = false := by simpa using hf
  have fb' : (s.fault != 0) = true := by simpa using hf
  have c6 := hc.cell 6 rfl
  obtain ⟨en, lk, ar, shut, all, since, fault⟩ := s
  try dsimp only at c6 fb fb' hf
  clear hk k0 k1 hc
  go_enter Try.func9, Try.ntmps9
  go_wp2_with (go_at_call 23; refine (PL.out _).mono ?_; rintro e wa ⟨rfl, rfl⟩)
  all_goals (go_ret; exact ⟨rfl, K.out⟩)
theorem store_0 (hc : HW w b s) (hf : s.fault = 0) (v : Int) (v0 : 0 ≤ v) (v1 : v ≤ 4294967295) :
    Calls Try.prog 9 #[.pointer (some ⟨b, 0, none⟩), U 0, U v] w fun e w' => e = .returned (I 0) ∧ Stored w w' b (s.ctlB v) := by
  have PL := Lib.hid (place_ok b 0 0 (by decide) (by decide) (by decide))
  have CT := Lib.hid (controlled_any hc v v0 v1)
  obtain ⟨en, lk, ar, shut, all, since, fault⟩ := s
  dsimp only at hf
  subst hf
  have c6 := hc.cell 6 rfl; have c0 := hc.cell 0 rfl; have c1 := hc.cell 1 rfl
  try dsimp only at c6 c0 c1
  clear hc
  cases en
  all_goals
    cases lk
    all_goals
      go_enter Try.func9, Try.ntmps9
      go_wp2_with (first | (go_at_call 23; refine (PL.out _).mono ?_; rintro e wa ⟨rfl, rfl⟩) | (go_at_call 24; refine CT.out.mono ?_; rintro e wb ⟨rfl, K⟩))
      go_ret
      exact ⟨rfl, K⟩
theorem store_12 (h : s.Ok) (hc : HW w b s) (hf : s.fault = 0) (v : Int) :
    Calls Try.prog 9 #[.pointer (some ⟨b, 0, none⟩), U 12, U v] w fun e w' => e = .returned (I 0) ∧ Stored w w' b (s.keyB v) := by
  have PL := Lib.hid (place_ok b 12 3 (by decide) (by decide) (by decide))
  have CT := Lib.hid (keyed_any h hc v)
  clear h
  obtain ⟨en, lk, ar, shut, all, since, fault⟩ := s
  dsimp only at hf
  subst hf
  have c6 := hc.cell 6 rfl; have c0 := hc.cell 0 rfl; have c1 := hc.cell 1 rfl
  try dsimp only at c6 c0 c1
  clear hc
  cases en
  all_goals
    cases lk
    all_goals
      go_enter Try.func9, Try.ntmps9
      go_wp2_with (first | (go_at_call 23; refine (PL.out _).mono ?_; rintro e wa ⟨rfl, rfl⟩) | (go_at_call 25; refine CT.out.mono ?_; rintro e wb ⟨rfl, K⟩))
      go_ret
      exact ⟨rfl, K⟩
theorem store_4_open (ar : Bool) (shut all since : Int) (hc : HW w b ⟨false, false, ar, shut, all, since, 0⟩) (v : Int) :
    Calls Try.prog 9 #[.pointer (some ⟨b, 0, none⟩), U 4, U v] w fun e w' => e = .returned (I 0) ∧ Stored w w' b ⟨false, false, ar, v, all, since, 0⟩ := by
  have PL := Lib.hid (place_ok b 4 1 (by decide) (by decide) (by decide))
  have K := Lib.hid (Stored.of_below (Below.refl w.heap.size w) hc)
  have c6 := hc.cell 6 rfl; have c0 := hc.cell 0 rfl; have c1 := hc.cell 1 rfl; have f3 := hc.free 3; have c3 := hc.cell 3 rfl
  try dsimp only at c6 c0 c1 c3
  clear hc
  go_enter Try.func9, Try.ntmps9
  go_wp2_with (go_at_call 23; refine (PL.out _).mono ?_; rintro e wa ⟨rfl, rfl⟩)
  go_ret
  exact ⟨rfl, K.out.set (s' := ⟨false, false, ar, v, all, since, 0⟩) 3 (U v) rfl⟩
theorem store_4_shut (en lk ar : Bool) (ho : (en || lk) = true) (shut all since : Int) (hc : HW w b ⟨en, lk, ar, shut, all, since, 0⟩) (v : Int) :
    Calls Try.prog 9 #[.pointer (some ⟨b, 0, none⟩), U 4, U v] w fun e w' => e = .returned (I 0) ∧ Stored w w' b ⟨en, lk, ar, shut, all, since, 0⟩ := by
  have PL := Lib.hid (place_ok b 4 1 (by decide) (by decide) (by decide))
  have K := Lib.hid (Stored.of_below (Below.refl w.heap.size w) hc)
  have c6 := hc.cell 6 rfl; have c0 := hc.cell 0 rfl; have c1 := hc.cell 1 rfl
  try dsimp only at c6 c0 c1
  clear hc
  cases en
  · cases lk
    · cases ho
    · clear ho
      go_enter Try.func9, Try.ntmps9
      go_wp2_with (go_at_call 23; refine (PL.out _).mono ?_; rintro e wa ⟨rfl, rfl⟩)
      go_ret
      exact ⟨rfl, K.out⟩
  · clear ho
    cases lk
    all_goals
      go_enter Try.func9, Try.ntmps9
      go_wp2_with (go_at_call 23; refine (PL.out _).mono ?_; rintro e wa ⟨rfl, rfl⟩)
      go_ret
      exact ⟨rfl, K.out⟩
theorem store_8_open (ar : Bool) (shut all since : Int) (hc : HW w b ⟨false, false, ar, shut, all, since, 0⟩) (v : Int) :
    Calls Try.prog 9 #[.pointer (some ⟨b, 0, none⟩), U 8, U v] w fun e w' => e = .returned (I 0) ∧ Stored w w' b ⟨false, false, ar, shut, v, since, 0⟩ := by
  have PL := Lib.hid (place_ok b 8 2 (by decide) (by decide) (by decide))
  have K := Lib.hid (Stored.of_below (Below.refl w.heap.size w) hc)
  have c6 := hc.cell 6 rfl; have c0 := hc.cell 0 rfl; have c1 := hc.cell 1 rfl; have f4 := hc.free 4; have c4 := hc.cell 4 rfl
  try dsimp only at c6 c0 c1 c4
  clear hc
  go_enter Try.func9, Try.ntmps9
  go_wp2_with (go_at_call 23; refine (PL.out _).mono ?_; rintro e wa ⟨rfl, rfl⟩)
  go_ret
  exact ⟨rfl, K.out.set (s' := ⟨false, false, ar, shut, v, since, 0⟩) 4 (U v) rfl⟩
theorem store_8_shut (en lk ar : Bool) (ho : (en || lk) = true) (shut all since : Int) (hc : HW w b ⟨en, lk, ar, shut, all, since, 0⟩) (v : Int) :
    Calls Try.prog 9 #[.pointer (some ⟨b, 0, none⟩), U 8, U v] w fun e w' => e = .returned (I 0) ∧ Stored w w' b ⟨en, lk, ar, shut, all, since, 0⟩ := by
  have PL := Lib.hid (place_ok b 8 2 (by decide) (by decide) (by decide))
  have K := Lib.hid (Stored.of_below (Below.refl w.heap.size w) hc)
  have c6 := hc.cell 6 rfl; have c0 := hc.cell 0 rfl; have c1 := hc.cell 1 rfl
  try dsimp only at c6 c0 c1
  clear hc
  cases en
  · cases lk
    · cases ho
    · clear ho
      go_enter Try.func9, Try.ntmps9
      go_wp2_with (go_at_call 23; refine (PL.out _).mono ?_; rintro e wa ⟨rfl, rfl⟩)
      go_ret
      exact ⟨rfl, K.out⟩
  · clear ho
    cases lk
    all_goals
      go_enter Try.func9, Try.ntmps9
      go_wp2_with (go_at_call 23; refine (PL.out _).mono ?_; rintro e wa ⟨rfl, rfl⟩)
      go_ret
      exact ⟨rfl, K.out⟩

theorem store_any (h : s.Ok) (hc : HW w b s) (off v : Int) (h0 : 0 ≤ off) (h1 : off ≤ 4294967295) (v0 : 0 ≤ v) (v1 : v ≤ 4294967295) :
    Calls Try.prog 9 #[.pointer (some ⟨b, 0, none⟩), U off, U v] w fun e w' => e = .returned (I (s.storeB off v).2) ∧ Stored w w' b (s.storeB off v).1 := by
  unfold WS.storeB
  by_cases h4 : off % 4 ≠ 0
  · rw [if_pos h4]; exact store_align hc off v h0 h1 h4
  rw [if_neg h4]
  by_cases h20 : 20 ≤ off
  · rw [if_pos h20]; exact store_bus hc off v h0 h1 (by omega) h20
  rw [if_neg h20]
  by_cases h16 : off = 16
  · rw [if_pos h16]; subst h16; exact store_16 hc v
  rw [if_neg h16]
  by_cases hf : s.fault ≠ 0
  · rw [if_pos hf]; exact store_fault hc hf off (off / 4) v (by omega) (by omega) (by omega)
  rw [if_neg hf]
  replace hf : s.fault = 0 := by simpa using hf
  obtain rfl | rfl | rfl | rfl : off = 0 ∨ off = 4 ∨ off = 8 ∨ off = 12 := by omega
  · rw [if_pos rfl]; exact store_0 hc hf v v0 v1
  · rw [if_neg (by decide), if_pos rfl]
    obtain ⟨en, lk, ar, shut, all, since, fault⟩ := s
    dsimp only at hf
    subst hf
    cases en
    · cases lk
      · exact store_4_open ar shut all since hc v
      · exact store_4_shut false true ar rfl shut all since hc v
    · cases lk
      · exact store_4_shut true false ar rfl shut all since hc v
      · exact store_4_shut true true ar rfl shut all since hc v
  · rw [if_neg (by decide), if_neg (by decide), if_pos rfl]
    obtain ⟨en, lk, ar, shut, all, since, fault⟩ := s
    dsimp only at hf
    subst hf
    cases en
    · cases lk
      · exact store_8_open ar shut all since hc v
      · exact store_8_shut false true ar rfl shut all since hc v
    · cases lk
      · exact store_8_shut true false ar rfl shut all since hc v
      · exact store_8_shut true true ar rfl shut all since hc v
  · rw [if_neg (by decide), if_neg (by decide), if_neg (by decide)]
    exact store_12 h hc hf v
end
end Go.Proofs.Ytndndlegefhafaa
