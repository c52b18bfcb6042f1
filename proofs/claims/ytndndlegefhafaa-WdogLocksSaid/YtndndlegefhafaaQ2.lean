/- The law's own functions: the chapter's example. Conditions: those that each statement shows. -/
import Derived.Test.YtndndlegefhafaaQ1
namespace Go.Proofs.Ytndndlegefhafaa
open Go.RowKit
set_option linter.unusedVariables false
set_option linter.unusedSimpArgs false

theorem ok_store {s s' : WS} {off v e : Int} (h : s.Ok) (v0 : 0 ≤ v) (v1 : v ≤ 4294967295) (hv : Hid (s.storeB off v = (s', e))) : s'.Ok := by
  have := s.storeB_ok h off v v0 v1
  rw [hv.out] at this; exact this
theorem ok_tick {s s' : WS} {n r : Int} (h : s.Ok) (n0 : 0 ≤ n) (hv : Hid (s.tickB n = (s', r))) : s'.Ok := by
  have := s.tickB_ok h n n0
  rw [hv.out] at this; exact this

def k1 : WS := ⟨false, false, false, 3, 0, 0, 0⟩
def k2 : WS := ⟨false, false, false, 3, 10, 0, 0⟩
def k3 : WS := ⟨true, false, false, 3, 10, 0, 0⟩
def k4 : WS := ⟨true, false, false, 3, 10, 2, 0⟩
def k5 : WS := ⟨true, false, true, 3, 10, 2, 0⟩
def k6 : WS := ⟨true, false, true, 3, 10, 2, 4⟩
def k7 : WS := ⟨true, false, false, 3, 10, 3, 0⟩
def k8 : WS := ⟨true, false, true, 3, 10, 3, 0⟩
def k9 : WS := ⟨true, false, false, 3, 10, 0, 0⟩
def k10 : WS := ⟨true, false, false, 3, 10, 10, 2⟩

set_option maxHeartbeats 2000000 in
theorem known_any (w : World) : Calls Try.prog 11 #[] w fun e w' => e = .returned (.bool true) ∧ Below w.heap.size w w' := by
  have e1 : Hid (WS.zero.storeB 4 3 = (k1, 0)) := Lib.hid rfl
  have e2 : Hid (k1.storeB 8 10 = (k2, 0)) := Lib.hid rfl
  have e3 : Hid (k2.storeB 0 1 = (k3, 0)) := Lib.hid rfl
  have e4 : Hid (k3.tickB 2 = (k4, 2)) := Lib.hid rfl
  have e5 : Hid (k4.storeB 12 23130 = (k5, 0)) := Lib.hid rfl
  have e6 : Hid (k5.storeB 12 42405 = (k6, 0)) := Lib.hid rfl
  have e7 : Hid (k4.tickB 1 = (k7, 1)) := Lib.hid rfl
  have e8 : Hid (k7.storeB 12 23130 = (k8, 0)) := Lib.hid rfl
  have e9 : Hid (k8.storeB 12 42405 = (k9, 0)) := Lib.hid rfl
  have e10 : Hid (k9.tickB 20 = (k10, 10)) := Lib.hid rfl
  have o1 := ok_store WS.zero_ok (by decide) (by decide) e1
  have o2 := ok_store o1 (by decide) (by decide) e2
  have o3 := ok_store o2 (by decide) (by decide) e3
  have o4 := ok_tick o3 (by decide) e4
  have o5 := ok_store o4 (by decide) (by decide) e5
  have o6 := ok_store o5 (by decide) (by decide) e6
  have o7 := ok_tick o4 (by decide) e7
  have o8 := ok_store o7 (by decide) (by decide) e8
  have o9 := ok_store o8 (by decide) (by decide) e9
  have g1 : Hid (k9.since = 0) := Lib.hid rfl
  have g2 : Hid (k9.fault = 0) := Lib.hid rfl
  have g3 : Hid (k6.fault = 4) := Lib.hid rfl
  have g4 : Hid (k10.fault = 2) := Lib.hid rfl
  go_enter Try.func11, Try.ntmps11
  go_wp2_with ((go_at_call 8; fail))
  refine (new_any _).mono ?_
  rintro e w1 ⟨rfl, hw1⟩
  have H : HW w1 w.heap.size WS.zero := by rw [← hw1]; exact Blk.new _ _ _
  have B : Below w.heap.size w w1 := by rw [← hw1]; exact (Below.refl _ _).alloc (Nat.le_refl _) _
  clear hw1
  go_wp2_with ((go_at_call 9; fail))
  refine (store_of WS.zero_ok H _ _ _ _ (by decide) (by decide) (by decide) (by decide) e1).mono ?_
  rintro e ws1 ⟨rfl, T1⟩
  replace B := B.trans (T1.below_ (Nat.le_refl _) B.size)
  replace H := T1.hc
  clear T1
  go_wp2_with ((go_at_call 9; fail))
  refine (store_of o1 H _ _ _ _ (by decide) (by decide) (by decide) (by decide) e2).mono ?_
  rintro e ws2 ⟨rfl, T2⟩
  replace B := B.trans (T2.below_ (Nat.le_refl _) B.size)
  replace H := T2.hc
  clear T2
  go_wp2_with ((go_at_call 9; fail))
  refine (store_of o2 H _ _ _ _ (by decide) (by decide) (by decide) (by decide) e3).mono ?_
  rintro e ws3 ⟨rfl, T3⟩
  replace B := B.trans (T3.below_ (Nat.le_refl _) B.size)
  replace H := T3.hc
  clear T3
  go_wp2_with ((go_at_call 10; fail))
  refine (tick_of o3 H _ _ _ (by decide) (by decide) e4).mono ?_
  rintro e ws4 ⟨rfl, T4⟩
  replace B := B.trans (T4.below_ (Nat.le_refl _) B.size)
  replace H := T4.hc
  clear T4
  go_wp2_with ((go_at_call 21; fail))
  refine (copy_any H).mono ?_
  rintro e wc ⟨rfl, hwc⟩
  have C : HW wc ws4.heap.size k4 := by rw [← hwc]; exact Blk.new _ _ _
  have hne : ws4.heap.size ≠ w.heap.size := by have := H.lt; omega
  have hle : w.heap.size ≤ ws4.heap.size := B.size
  replace B : Below w.heap.size w wc := by rw [← hwc]; exact B.alloc B.size _
  replace H : HW wc w.heap.size k4 := by rw [← hwc]; exact H.alloc _
  clear hwc
  generalize ws4.heap.size = bc at *
  go_wp2_with ((go_at_call 9; fail))
  refine (store_of o4 C _ _ _ _ (by decide) (by decide) (by decide) (by decide) e5).mono ?_
  rintro e ws5 ⟨rfl, T5⟩
  replace B := B.trans (T5.below_ hle B.size)
  replace H := Blk.stored H T5 (Ne.symm hne)
  replace C := T5.hc
  clear T5
  go_wp2_with ((go_at_call 9; fail))
  refine (store_of o5 C _ _ _ _ (by decide) (by decide) (by decide) (by decide) e6).mono ?_
  rintro e ws6 ⟨rfl, T6⟩
  replace B := B.trans (T6.below_ hle B.size)
  replace H := Blk.stored H T6 (Ne.symm hne)
  replace C := T6.hc
  clear T6
  go_wp2_with ((go_at_call 10; fail))
  refine (tick_of o4 H _ _ _ (by decide) (by decide) e7).mono ?_
  rintro e ws7 ⟨rfl, T7⟩
  replace B := B.trans (T7.below_ (Nat.le_refl _) B.size)
  replace C := Blk.stored C T7 hne
  replace H := T7.hc
  clear T7
  go_wp2_with ((go_at_call 9; fail))
  refine (store_of o7 H _ _ _ _ (by decide) (by decide) (by decide) (by decide) e8).mono ?_
  rintro e ws8 ⟨rfl, T8⟩
  replace B := B.trans (T8.below_ (Nat.le_refl _) B.size)
  replace C := Blk.stored C T8 hne
  replace H := T8.hc
  clear T8
  go_wp2_with ((go_at_call 9; fail))
  refine (store_of o8 H _ _ _ _ (by decide) (by decide) (by decide) (by decide) e9).mono ?_
  rintro e ws9 ⟨rfl, T9⟩
  replace B := B.trans (T9.below_ (Nat.le_refl _) B.size)
  replace C := Blk.stored C T9 hne
  replace H := T9.hc
  clear T9
  go_wp2_with ((go_at_call 14; fail))
  refine (since_of H _ g1).mono ?_
  rintro e wr1 ⟨rfl, hb1⟩
  replace C := HW.below C hb1 C.lt; replace H := H.below hb1 H.lt; replace B := B.trans (hb1.mono B.size)
  clear hb1
  go_wp2_with ((go_at_call 12; fail))
  refine (fault_of H _ g2).mono ?_
  rintro e wr2 ⟨rfl, hb2⟩
  replace C := HW.below C hb2 C.lt; replace H := H.below hb2 H.lt; replace B := B.trans (hb2.mono B.size)
  clear hb2
  go_wp2_with ((go_at_call 12; fail))
  refine (fault_of C _ g3).mono ?_
  rintro e wr3 ⟨rfl, hb3⟩
  replace C := HW.below C hb3 C.lt; replace H := H.below hb3 H.lt; replace B := B.trans (hb3.mono B.size)
  clear hb3
  go_wp2_with ((go_at_call 10; fail))
  refine (tick_of o9 H _ _ _ (by decide) (by decide) e10).mono ?_
  rintro e ws10 ⟨rfl, T10⟩
  replace B := B.trans (T10.below_ (Nat.le_refl _) B.size)
  replace C := Blk.stored C T10 hne
  replace H := T10.hc
  clear T10
  go_wp2_with ((go_at_call 12; fail))
  refine (fault_of H _ g4).mono ?_
  rintro e wr4 ⟨rfl, hb4⟩
  replace C := HW.below C hb4 C.lt; replace H := H.below hb4 H.lt; replace B := B.trans (hb4.mono B.size)
  clear hb4
  go_wp2_with fail
  go_ret
  exact ⟨rfl, B⟩
end Go.Proofs.Ytndndlegefhafaa
