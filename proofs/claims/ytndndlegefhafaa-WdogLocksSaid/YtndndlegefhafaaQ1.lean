/- The law's own functions: a watchdog and the document's are alike; the chapter's example. Conditions: those that each statement shows. -/
import Derived.Test.YtndndlegefhafaaN5
import Derived.Test.YtndndlegefhafaaN6
import Derived.Test.YtndndlegefhafaaR2
import Derived.Test.YtndndlegefhafaaR4
namespace Go.Proofs.Ytndndlegefhafaa
open Go.RowKit
set_option linter.unusedVariables false
set_option linter.unusedSimpArgs false

theorem load_of {b : Nat} {s : WS} {w : World} (h : s.Ok) (hc : HW w b s) (off v e : Int) (h0 : 0 ≤ off) (h1 : off ≤ 4294967295) (hv : Hid (s.loadB off = (v, e))) :
    Calls Try.prog 18 #[.pointer (some ⟨b, 0, none⟩), U off] w fun x w' => x = .returned (.tuple #[U v, I e]) ∧ Below w.heap.size w w' := by
  have := load_any h hc off h0 h1
  rw [hv.out] at this; exact this
theorem store_of {b : Nat} {s : WS} {w : World} (h : s.Ok) (hc : HW w b s) (off v e : Int) (s' : WS) (h0 : 0 ≤ off) (h1 : off ≤ 4294967295) (v0 : 0 ≤ v) (v1 : v ≤ 4294967295) (hv : Hid (s.storeB off v = (s', e))) :
    Calls Try.prog 9 #[.pointer (some ⟨b, 0, none⟩), U off, U v] w fun x w' => x = .returned (I e) ∧ Stored w w' b s' := by
  have := store_any h hc off v h0 h1 v0 v1
  rw [hv.out] at this; exact this
theorem tick_of {b : Nat} {s : WS} {w : World} (h : s.Ok) (hc : HW w b s) (n r : Int) (s' : WS) (hn0 : 0 ≤ n) (hn1 : n ≤ 18446744073709551615) (hv : Hid (s.tickB n = (s', r))) :
    Calls Try.prog 10 #[.pointer (some ⟨b, 0, none⟩), L n] w fun e w' => e = .returned (L r) ∧ Stored w w' b s' := by
  have := tick_any h hc n hn0 hn1
  rw [hv.out] at this; exact this
theorem left_of {b : Nat} {s : WS} {w : World} (h : s.Ok) (hc : HW w b s) (n : Int) (hv : Hid (s.left = n)) :
    Calls Try.prog 15 #[.pointer (some ⟨b, 0, none⟩)] w fun e w' => e = .returned (L n) ∧ Below w.heap.size w w' := by
  have := left_any h hc
  rw [hv.out] at this; exact this
theorem fault_of {b : Nat} {s : WS} {w : World} (hc : HW w b s) (n : Int) (hv : Hid (s.fault = n)) :
    Calls Try.prog 12 #[.pointer (some ⟨b, 0, none⟩)] w fun e w' => e = .returned (I n) ∧ Below w.heap.size w w' := by
  have := fault_any hc
  rw [hv.out] at this; exact this
theorem since_of {b : Nat} {s : WS} {w : World} (hc : HW w b s) (n : Int) (hv : Hid (s.since = n)) :
    Calls Try.prog 14 #[.pointer (some ⟨b, 0, none⟩)] w fun e w' => e = .returned (L n) ∧ Below w.heap.size w w' := by
  have := since_any hc
  rw [hv.out] at this; exact this
theorem enabled_of {b : Nat} {s : WS} {w : World} (hc : HW w b s) (n : Bool) (hv : Hid (s.en = n)) :
    Calls Try.prog 16 #[.pointer (some ⟨b, 0, none⟩)] w fun e w' => e = .returned (.bool n) ∧ Below w.heap.size w w' := by
  have := enabled_any hc
  rw [hv.out] at this; exact this
theorem locked_of {b : Nat} {s : WS} {w : World} (hc : HW w b s) (n : Bool) (hv : Hid (s.lk = n)) :
    Calls Try.prog 17 #[.pointer (some ⟨b, 0, none⟩)] w fun e w' => e = .returned (.bool n) ∧ Below w.heap.size w w' := by
  have := locked_any hc
  rw [hv.out] at this; exact this
theorem armed_of {b : Nat} {s : WS} {w : World} (hc : HW w b s) (n : Bool) (hv : Hid (s.ar = n)) :
    Calls Try.prog 13 #[.pointer (some ⟨b, 0, none⟩)] w fun e w' => e = .returned (.bool n) ∧ Below w.heap.size w w' := by
  have := armed_any hc
  rw [hv.out] at this; exact this
theorem tickR_of (s : WS) (h : s.Ok) (n r : Int) (s' : WS) (n0 : 0 ≤ n) (n1 : n ≤ 18446744073709551615) (hv : Hid (s.tickB n = (s', r))) (w : World) :
    Calls Try.prog 29 #[.agg s.cs, L n] w fun e w' => e = .returned (.tuple #[.agg s'.cs, L r]) ∧ Below w.heap.size w w' := by
  have := tick_ref s h n n0 n1 w
  rw [hv.out] at this; exact this
theorem storeR_of (s : WS) (h : s.Ok) (off v e : Int) (s' : WS) (h0 : 0 ≤ off) (h1 : off ≤ 4294967295) (v0 : 0 ≤ v) (v1 : v ≤ 4294967295) (hv : Hid (s.storeB off v = (s', e))) (w : World) :
    Calls Try.prog 31 #[.agg s.cs, U off, U v] w fun x w' => x = .returned (.tuple #[.agg s'.cs, I e]) ∧ Below w.heap.size w w' := by
  have := store_ref s h off v h0 h1 v0 v1 w
  rw [hv.out] at this; exact this

set_option maxHeartbeats 1000000 in
theorem alike_w {b : Nat} {w : World} (en lk ar : Bool) (shut all since fault : Int) (h : WS.Ok ⟨en, lk, ar, shut, all, since, fault⟩) (hc : HW w b ⟨en, lk, ar, shut, all, since, fault⟩) :
    Calls Try.prog 20 #[.pointer (some ⟨b, 0, none⟩), .agg #[.bool en, .bool lk, .bool ar, U shut, U all, L since, I fault]] w fun e w' => e = .returned (.bool true) ∧ Below w.heap.size w w' := by
  obtain ⟨v0, l0⟩ : ∃ v, Hid (WS.loadB ⟨en, lk, ar, shut, all, since, fault⟩ 0 = (v, 0)) := ⟨_, Lib.hid rfl⟩
  obtain ⟨v1, l1⟩ : ∃ v, Hid (WS.loadB ⟨en, lk, ar, shut, all, since, fault⟩ 4 = (v, 0)) := ⟨_, Lib.hid rfl⟩
  obtain ⟨v2, l2⟩ : ∃ v, Hid (WS.loadB ⟨en, lk, ar, shut, all, since, fault⟩ 8 = (v, 0)) := ⟨_, Lib.hid rfl⟩
  obtain ⟨v3, l3⟩ : ∃ v, Hid (WS.loadB ⟨en, lk, ar, shut, all, since, fault⟩ 12 = (v, 0)) := ⟨_, Lib.hid rfl⟩
  obtain ⟨v4, l4⟩ : ∃ v, Hid (WS.loadB ⟨en, lk, ar, shut, all, since, fault⟩ 16 = (v, 0)) := ⟨_, Lib.hid rfl⟩
  obtain ⟨lf, LF⟩ : ∃ n, Hid (WS.left ⟨en, lk, ar, shut, all, since, fault⟩ = n) := ⟨_, Lib.hid rfl⟩
  have HH := Lib.hid h
  clear h
  have R := Blk.new w #[.bool en, .bool lk, .bool ar, U shut, U all, L since, I fault] 40
  have H := hc.alloc (.cells #[.bool en, .bool lk, .bool ar, U shut, U all, L since, I fault] 40)
  have B := (Below.refl w.heap.size w).alloc (Nat.le_refl _) (.cells #[.bool en, .bool lk, .bool ar, U shut, U all, L since, I fault] 40)
  clear hc
  go_enter Try.func20, Try.ntmps20
  go_wp2_with fail
  refine wp_loop_rounds 6 ?_
  rw [rounds_succ]
  go_wp2_with ((go_at_call 18; fail))
  refine (load_of HH.out H _ _ _ (by decide) (by decide) l0).mono ?_
  rintro e wa0 ⟨rfl, ha0⟩
  replace R := R.below ha0 R.lt; replace H := H.below ha0 H.lt; replace B := B.trans (ha0.mono B.size)
  clear ha0
  have d00 := R.cell 0 rfl; have d01 := R.cell 1 rfl; have d02 := R.cell 2 rfl; have d03 := R.cell 3 rfl; have d04 := R.cell 4 rfl; have d05 := R.cell 5 rfl; have d06 := R.cell 6 rfl
  go_wp2_with ((go_at_call 30; fail))
  clear d00 d01 d02 d03 d04 d05 d06
  refine (loadR_of ⟨en, lk, ar, shut, all, since, fault⟩ HH.out _ _ _ (by decide) (by decide) l0 _).mono ?_
  rintro e wb0 ⟨rfl, hb0⟩
  replace R := R.below hb0 R.lt; replace H := H.below hb0 H.lt; replace B := B.trans (hb0.mono B.size)
  clear hb0
  go_wp2_with fail
  rw [rounds_succ]
  go_wp2_with ((go_at_call 18; fail))
  refine (load_of HH.out H _ _ _ (by decide) (by decide) l1).mono ?_
  rintro e wa1 ⟨rfl, ha1⟩
  replace R := R.below ha1 R.lt; replace H := H.below ha1 H.lt; replace B := B.trans (ha1.mono B.size)
  clear ha1
  have d10 := R.cell 0 rfl; have d11 := R.cell 1 rfl; have d12 := R.cell 2 rfl; have d13 := R.cell 3 rfl; have d14 := R.cell 4 rfl; have d15 := R.cell 5 rfl; have d16 := R.cell 6 rfl
  go_wp2_with ((go_at_call 30; fail))
  clear d10 d11 d12 d13 d14 d15 d16
  refine (loadR_of ⟨en, lk, ar, shut, all, since, fault⟩ HH.out _ _ _ (by decide) (by decide) l1 _).mono ?_
  rintro e wb1 ⟨rfl, hb1⟩
  replace R := R.below hb1 R.lt; replace H := H.below hb1 H.lt; replace B := B.trans (hb1.mono B.size)
  clear hb1
  go_wp2_with fail
  rw [rounds_succ]
  go_wp2_with ((go_at_call 18; fail))
  refine (load_of HH.out H _ _ _ (by decide) (by decide) l2).mono ?_
  rintro e wa2 ⟨rfl, ha2⟩
  replace R := R.below ha2 R.lt; replace H := H.below ha2 H.lt; replace B := B.trans (ha2.mono B.size)
  clear ha2
  have d20 := R.cell 0 rfl; have d21 := R.cell 1 rfl; have d22 := R.cell 2 rfl; have d23 := R.cell 3 rfl; have d24 := R.cell 4 rfl; have d25 := R.cell 5 rfl; have d26 := R.cell 6 rfl
  go_wp2_with ((go_at_call 30; fail))
  clear d20 d21 d22 d23 d24 d25 d26
  refine (loadR_of ⟨en, lk, ar, shut, all, since, fault⟩ HH.out _ _ _ (by decide) (by decide) l2 _).mono ?_
  rintro e wb2 ⟨rfl, hb2⟩
  replace R := R.below hb2 R.lt; replace H := H.below hb2 H.lt; replace B := B.trans (hb2.mono B.size)
  clear hb2
  go_wp2_with fail
  rw [rounds_succ]
  go_wp2_with ((go_at_call 18; fail))
  refine (load_of HH.out H _ _ _ (by decide) (by decide) l3).mono ?_
  rintro e wa3 ⟨rfl, ha3⟩
  replace R := R.below ha3 R.lt; replace H := H.below ha3 H.lt; replace B := B.trans (ha3.mono B.size)
  clear ha3
  have d30 := R.cell 0 rfl; have d31 := R.cell 1 rfl; have d32 := R.cell 2 rfl; have d33 := R.cell 3 rfl; have d34 := R.cell 4 rfl; have d35 := R.cell 5 rfl; have d36 := R.cell 6 rfl
  go_wp2_with ((go_at_call 30; fail))
  clear d30 d31 d32 d33 d34 d35 d36
  refine (loadR_of ⟨en, lk, ar, shut, all, since, fault⟩ HH.out _ _ _ (by decide) (by decide) l3 _).mono ?_
  rintro e wb3 ⟨rfl, hb3⟩
  replace R := R.below hb3 R.lt; replace H := H.below hb3 H.lt; replace B := B.trans (hb3.mono B.size)
  clear hb3
  go_wp2_with fail
  rw [rounds_succ]
  go_wp2_with ((go_at_call 18; fail))
  refine (load_of HH.out H _ _ _ (by decide) (by decide) l4).mono ?_
  rintro e wa4 ⟨rfl, ha4⟩
  replace R := R.below ha4 R.lt; replace H := H.below ha4 H.lt; replace B := B.trans (ha4.mono B.size)
  clear ha4
  have d40 := R.cell 0 rfl; have d41 := R.cell 1 rfl; have d42 := R.cell 2 rfl; have d43 := R.cell 3 rfl; have d44 := R.cell 4 rfl; have d45 := R.cell 5 rfl; have d46 := R.cell 6 rfl
  go_wp2_with ((go_at_call 30; fail))
  clear d40 d41 d42 d43 d44 d45 d46
  refine (loadR_of ⟨en, lk, ar, shut, all, since, fault⟩ HH.out _ _ _ (by decide) (by decide) l4 _).mono ?_
  rintro e wb4 ⟨rfl, hb4⟩
  replace R := R.below hb4 R.lt; replace H := H.below hb4 H.lt; replace B := B.trans (hb4.mono B.size)
  clear hb4
  go_wp2_with fail
  rw [rounds_succ]
  go_wp2_with fail
  have q0 := R.wx 0 rfl; have q1 := R.wx 1 rfl; have q2 := R.wx 2 rfl; have q3 := R.wx 3 rfl; have q4 := R.wx 4 rfl; have q5 := R.wx 5 rfl; have q6 := R.wx 6 rfl
  have hW : ∀ x : WX wb4, HW x.w b ⟨en, lk, ar, shut, all, since, fault⟩ := fun x => H.below x.h H.lt
  have BB := Lib.hid B
  clear B
  refine wp_region_grown (by kernel_rfl) (by kernel_rfl) ?_
  repeat (go_big_quiet_step (first | (go_at_call 12; exact WX.of (fault_any (hW _))) | (go_at_call 16; exact WX.of (enabled_any (hW _))) | (go_at_call 17; exact WX.of (locked_any (hW _))) | (go_at_call 13; exact WX.of (armed_any (hW _))) | (go_at_call 14; exact WX.of (since_any (hW _))) | (go_at_call 15; exact WX.of (left_of HH.out (hW _) _ LF)) | (go_at_call 32; exact WX.of (leftR_of ⟨en, lk, ar, shut, all, since, fault⟩ HH.out _ LF _))))
  refine wpQuiet_nil ?_
  intro wz_ hbz
  clear q0 q1 q2 q3 q4 q5 q6
  go_wp2
  go_ret
  exact ⟨ret_bool (by simp), BB.out.trans (hbz.mono BB.out.size)⟩

theorem alike_any {b : Nat} {s : WS} {w : World} (h : s.Ok) (hc : HW w b s) :
    Calls Try.prog 20 #[.pointer (some ⟨b, 0, none⟩), .agg s.cs] w fun e w' => e = .returned (.bool true) ∧ Below w.heap.size w w' := by
  obtain ⟨en, lk, ar, shut, all, since, fault⟩ := s
  exact alike_w en lk ar shut all since fault h hc
end Go.Proofs.Ytndndlegefhafaa
