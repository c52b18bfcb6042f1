/- The walk of the law WdogWindow. Its conditions: those that its statement shows. -/
import Derived.Test.YtndndlegefhafaaQ2
namespace Go.Proofs.Ytndndlegefhafaa
open Go.RowKit
set_option linter.unusedVariables false
set_option linter.unusedSimpArgs false

/-- A list of numbers, as it lies in memory. -/
def Nums (k : IntKind) (hi : Int) (w : World) (A : Option Addr) (len : Nat) : Prop :=
  ∀ i, i < len → ∃ sb so n, A = some ⟨sb, so, none⟩ ∧ 0 ≤ n ∧ n ≤ hi ∧ w.cell? ⟨sb, so + i, none⟩ = some (.int k n)

/-- The watchdog ahead of each feed. -/
def WinRel (w : World) (lock : Bool) (C T : Int) (len : Nat) (k : Nat) (i : Value) (wr : World) : Prop :=
  ∃ n : Nat, i = I (n : Nat) ∧ n ≤ 20 ∧ n ≤ len ∧ k = 20 - n ∧ HW wr w.heap.size ⟨true, lock, false, C, T, 0, 0⟩ ∧ Below w.heap.size w wr

theorem win_ok (lock : Bool) (C T : Int) (C0 : 0 ≤ C) (CT : C < T) (T1 : T ≤ 100001) : WS.Ok ⟨true, lock, false, C, T, 0, 0⟩ :=
  ⟨C0, by show C ≤ _; omega, by show 0 ≤ T; omega, by show T ≤ _; omega, by show (0 : Int) ≤ 0; omega, by show (0 : Int) ≤ _; omega, fun _ _ => by show (0 : Int) < T; omega⟩

set_option maxRecDepth 100000 in
set_option maxHeartbeats 4000000 in
theorem window_walk (w : World) (closed total : Int) (A : Option Addr) (len cap : Nat) (lock : Bool) (c0 : 0 ≤ closed) (c1 : closed ≤ 4294967295) (t0 : 0 ≤ total) (t1 : total ≤ 4294967295) (hlen : len ≤ maxLen) (hn : Nums .u64 18446744073709551615 w A len) :
    Calls Try.prog 3 #[U closed, U total, .slice A len cap, .bool lock] w fun e w' => e = .returned (.bool true) ∧ Below w.heap.size w w' := by
  unfold maxLen at hlen
  obtain ⟨q, hq⟩ : ∃ q, total % 100000 = q := ⟨_, rfl⟩
  obtain ⟨T, hT⟩ : ∃ T, 1 + q = T := ⟨_, rfl⟩
  have q0 : 0 ≤ q := by omega
  have q1 : q ≤ 99999 := by omega
  have T0 : 1 ≤ T := by omega
  have T1 : T ≤ 100000 := by omega
  obtain ⟨C, hC⟩ : ∃ C, closed % T = C := ⟨_, rfl⟩
  have C0 : 0 ≤ C := by rw [← hC]; exact Int.emod_nonneg _ (by omega)
  have CT : C < T := by rw [← hC]; exact Int.emod_lt_of_pos _ (by omega)
  have hq' : total.tmod 100000 = q := by rw [Int.tmod_eq_emod_of_nonneg t0]; exact hq
  have hC' : closed.tmod T = C := by rw [Int.tmod_eq_emod_of_nonneg c0]; exact hC
  have hTz : ¬ T = 0 := by omega
  have hTb : (T == 0) = false := by simp; omega
  have e1 : Hid (WS.zero.storeB 4 C = (⟨false, false, false, C, 0, 0, 0⟩, 0)) := Lib.hid rfl
  have o1 := ok_store WS.zero_ok C0 (by omega) e1
  have e2 : Hid (WS.storeB ⟨false, false, false, C, 0, 0, 0⟩ 8 T = (⟨false, false, false, C, T, 0, 0⟩, 0)) := Lib.hid rfl
  have o2 := ok_store o1 (by omega) (by omega) e2
  have oZ := win_ok lock C T C0 CT (by omega)
  have e3 : Hid (WS.storeB ⟨false, false, false, C, T, 0, 0⟩ 0 (if lock = true then 3 else 1) = (⟨true, lock, false, C, T, 0, 0⟩, 0)) := Lib.hid (by cases lock <;> simp [WS.storeB, WS.ctlB, CT])
  have HN := Lib.hid hn
  clear hn hq hC
  go_enter Try.func3, Try.ntmps3
  go_wp2_with ((go_at_call 8; fail))
  clear hq' hC' hT hTz hTb
  refine (new_any _).mono ?_
  rintro e w1 ⟨rfl, hw1⟩
  have H : HW w1 w.heap.size WS.zero := by rw [← hw1]; exact Blk.new _ _ _
  have B : Below w.heap.size w w1 := by rw [← hw1]; exact (Below.refl _ _).alloc (Nat.le_refl _) _
  clear hw1
  go_wp2_with ((go_at_call 9; fail))
  refine (store_of WS.zero_ok H _ _ _ _ (by decide) (by decide) C0 (by omega) e1).mono ?_
  rintro e wr1 ⟨rfl, T1⟩
  replace B := B.trans (T1.below_ (Nat.le_refl _) B.size); replace H := T1.hc
  clear T1
  go_wp2_with ((go_at_call 9; fail))
  refine (store_of o1 H _ _ _ _ (by decide) (by decide) (by omega) (by omega) e2).mono ?_
  rintro e wr2 ⟨rfl, T2⟩
  replace B := B.trans (T2.below_ (Nat.le_refl _) B.size); replace H := T2.hc
  clear T2
  have key : ∀ (u : Int) (wx : World), HW wx w.heap.size ⟨false, false, false, C, T, 0, 0⟩ → (if lock = true then (3 : Int) else 1) = u → 0 ≤ u ∧ u ≤ 3 ∧ Calls Try.prog 9 #[.pointer (some ⟨w.heap.size, 0, none⟩), U 0, U u] wx fun x w' => x = .returned (I 0) ∧ Stored wx w' w.heap.size ⟨true, lock, false, C, T, 0, 0⟩ := by
    rintro u wx hx rfl
    have hb : 0 ≤ (if lock = true then (3 : Int) else 1) ∧ (if lock = true then (3 : Int) else 1) ≤ 3 := by cases lock <;> decide
    exact ⟨hb.1, hb.2, store_of o2 hx _ _ _ _ (by decide) (by decide) hb.1 (by have := hb.2; omega) e3⟩
  have KEY := Lib.hid key
  clear key
  have finish : ∀ (wr : World), HW wr w.heap.size ⟨true, lock, false, C, T, 0, 0⟩ → True := fun _ _ => trivial
  cases lock
  · go_wp2_with ((go_at_call 9; fail))
    refine ((KEY.out _ _ H rfl).2.2).mono ?_
    rintro e w3 ⟨rfl, T3⟩
    replace B := B.trans (T3.below_ (Nat.le_refl _) B.size); replace H := T3.hc
    clear T3 KEY e1 e2 e3 finish
    have HH := Lib.hid H
    have BB := Lib.hid B
    clear H B
    go_wp2_with fail
    go_loopg [11] 20 (fun k i wr => WinRel w false C T len k i wr)
    case atStart => exact ⟨0, rfl, by omega, by omega, rfl, HH.out, BB.out⟩
    case round =>
      clear HH BB
      obtain ⟨n, rfl, hn, hnl, hk, H, B⟩ := hrel
      have hK := Lib.hid hk
      clear hk
      by_cases hlt : n < len
      · by_cases h20 : n < 20
        · have hd1 : decide ((n : Int) < (len : Int)) = true := by simp; omega
          have hd2 : decide ((n : Int) < 20) = true := by simp; omega
          obtain ⟨sb, so, x, hA, x0, x1, hx⟩ := HN.out n hlt
          subst hA
          have hxl : sb < w.heap.size := World.block_lt_of_cell? (w := w) (a := ⟨sb, so + n, none⟩) hx
          have hcell := (B.cell (p := ⟨sb, so + n, none⟩) hxl).trans hx
          clear hx
          obtain ⟨r, hr⟩ : ∃ r, x % 150000 = r := ⟨_, rfl⟩
          have r0 : 0 ≤ r := by omega
          have r1 : r ≤ 149999 := by omega
          have hr' : x.tmod 150000 = r := by rw [Int.tmod_eq_emod_of_nonneg x0]; exact hr
          have nn0 : (0 : Int) ≤ (n : Int) := by omega
          have nn1 : (n : Int) < (len : Int) := by omega
          by_cases hge : T ≤ r
          · have t1 : Hid (WS.tickB ⟨true, false, false, C, T, 0, 0⟩ r = (⟨true, false, false, C, T, T, 2⟩, T)) := Lib.hid (by simp [WS.tickB, hge])
            have hd3 : decide (T ≤ r) = true := by simpa using hge
            go_wp2_with ((go_at_call 10; fail))
            clear hr hr' hcell
            refine (tick_of oZ H _ _ _ r0 (by omega) t1).mono ?_
            rintro e w4 ⟨rfl, T4⟩
            replace B := B.trans (T4.below_ (Nat.le_refl _) B.size); replace H := T4.hc
            clear T4
            have hTT : (T == T) = true := by simp
            go_wp2_with ((go_at_call 11; fail))
            refine (known_any _).mono ?_
            rintro e wr3 ⟨rfl, hr3⟩
            replace H := HW.below H hr3 H.lt; replace B := B.trans (hr3.mono B.size)
            clear hr3
            go_wp2_with ((go_at_call 12; fail))
            refine (fault_of H 2 (Lib.hid rfl)).mono ?_
            rintro e wr4 ⟨rfl, hr4⟩
            replace H := HW.below H hr4 H.lt; replace B := B.trans (hr4.mono B.size)
            clear hr4
            go_wp2_with fail
            go_ret
            exact ⟨rfl, B⟩
          · have t1 : Hid (WS.tickB ⟨true, false, false, C, T, 0, 0⟩ r = (⟨true, false, false, C, T, r, 0⟩, r)) := Lib.hid (by simp [WS.tickB, hge])
            have p1 := ok_tick oZ r0 t1
            have s1 : Hid (WS.storeB ⟨true, false, false, C, T, r, 0⟩ 4 0 = (⟨true, false, false, C, T, r, 0⟩, 0)) := Lib.hid (by simp [WS.storeB])
            have s2 : Hid (WS.storeB ⟨true, false, false, C, T, r, 0⟩ 8 1 = (⟨true, false, false, C, T, r, 0⟩, 0)) := Lib.hid (by simp [WS.storeB])
            have s3 : Hid (WS.storeB ⟨true, false, false, C, T, r, 0⟩ 12 23130 = (⟨true, false, true, C, T, r, 0⟩, 0)) := Lib.hid rfl
            have p2 := ok_store p1 (by decide) (by decide) s3
            have hd3 : decide (T ≤ r) = false := by simpa using hge
            have hrr : (r == r) = true := by simp
            go_wp2_with ((go_at_call 10; fail))
            clear hr hr' hcell
            refine (tick_of oZ H _ _ _ r0 (by omega) t1).mono ?_
            rintro e w4 ⟨rfl, T4⟩
            replace B := B.trans (T4.below_ (Nat.le_refl _) B.size); replace H := T4.hc
            clear T4
            go_wp2_with ((go_at_call 9; fail))
            refine (store_of p1 H _ _ _ _ (by decide) (by decide) (by decide) (by decide) s1).mono ?_
            rintro e wr5 ⟨rfl, T5⟩
            replace B := B.trans (T5.below_ (Nat.le_refl _) B.size); replace H := T5.hc
            clear T5
            go_wp2_with ((go_at_call 9; fail))
            refine (store_of p1 H _ _ _ _ (by decide) (by decide) (by decide) (by decide) s2).mono ?_
            rintro e wr6 ⟨rfl, T6⟩
            replace B := B.trans (T6.below_ (Nat.le_refl _) B.size); replace H := T6.hc
            clear T6
            go_wp2_with ((go_at_call 9; fail))
            refine (store_of p1 H _ _ _ _ (by decide) (by decide) (by decide) (by decide) s3).mono ?_
            rintro e wr7 ⟨rfl, T7⟩
            replace B := B.trans (T7.below_ (Nat.le_refl _) B.size); replace H := T7.hc
            clear T7
            go_wp2_with ((go_at_call 12; fail))
            refine (fault_of H 0 (Lib.hid rfl)).mono ?_
            rintro e wr8 ⟨rfl, hr8⟩
            replace H := HW.below H hr8 H.lt; replace B := B.trans (hr8.mono B.size)
            clear hr8
            go_wp2_with ((go_at_call 13; fail))
            refine (armed_of H true (Lib.hid rfl)).mono ?_
            rintro e wr9 ⟨rfl, hr9⟩
            replace H := HW.below H hr9 H.lt; replace B := B.trans (hr9.mono B.size)
            clear hr9
            go_wp2_with ((go_at_call 14; fail))
            refine (since_of H r (Lib.hid rfl)).mono ?_
            rintro e wr10 ⟨rfl, hr10⟩
            replace H := HW.below H hr10 H.lt; replace B := B.trans (hr10.mono B.size)
            clear hr10
            by_cases hlc : r < C
            · have s4 : Hid (WS.storeB ⟨true, false, true, C, T, r, 0⟩ 12 42405 = (⟨true, false, true, C, T, r, 4⟩, 0)) := Lib.hid (by simp [WS.storeB, WS.keyB, hlc])
              have hd4 : decide (r < C) = true := by simpa using hlc
              go_wp2_with ((go_at_call 9; fail))
              refine (store_of p2 H _ _ _ _ (by decide) (by decide) (by decide) (by decide) s4).mono ?_
              rintro e wr11 ⟨rfl, T11⟩
              replace B := B.trans (T11.below_ (Nat.le_refl _) B.size); replace H := T11.hc
              clear T11
              go_wp2_with ((go_at_call 11; fail))
              refine (known_any _).mono ?_
              rintro e wr12 ⟨rfl, hr12⟩
              replace H := HW.below H hr12 H.lt; replace B := B.trans (hr12.mono B.size)
              clear hr12
              go_wp2_with ((go_at_call 12; fail))
              refine (fault_of H 4 (Lib.hid rfl)).mono ?_
              rintro e wr13 ⟨rfl, hr13⟩
              replace H := HW.below H hr13 H.lt; replace B := B.trans (hr13.mono B.size)
              clear hr13
              go_wp2_with fail
              go_ret
              exact ⟨rfl, B⟩
            · have s4 : Hid (WS.storeB ⟨true, false, true, C, T, r, 0⟩ 12 42405 = (⟨true, false, false, C, T, 0, 0⟩, 0)) := Lib.hid (by simp [WS.storeB, WS.keyB, hlc])
              have l2 : Hid (WS.left ⟨true, false, false, C, T, 0, 0⟩ = T) := Lib.hid (by simp [WS.left])
              have hd4 : decide (r < C) = false := by simpa using hlc
              have hTT : (T == T) = true := by simp
              go_wp2_with ((go_at_call 9; fail))
              refine (store_of p2 H _ _ _ _ (by decide) (by decide) (by decide) (by decide) s4).mono ?_
              rintro e wr11 ⟨rfl, T11⟩
              replace B := B.trans (T11.below_ (Nat.le_refl _) B.size); replace H := T11.hc
              clear T11
              go_wp2_with ((go_at_call 12; fail))
              refine (fault_of H 0 (Lib.hid rfl)).mono ?_
              rintro e wr14 ⟨rfl, hr14⟩
              replace H := HW.below H hr14 H.lt; replace B := B.trans (hr14.mono B.size)
              clear hr14
              go_wp2_with ((go_at_call 14; fail))
              refine (since_of H 0 (Lib.hid rfl)).mono ?_
              rintro e wr15 ⟨rfl, hr15⟩
              replace H := HW.below H hr15 H.lt; replace B := B.trans (hr15.mono B.size)
              clear hr15
              go_wp2_with ((go_at_call 13; fail))
              refine (armed_of H false (Lib.hid rfl)).mono ?_
              rintro e wr16 ⟨rfl, hr16⟩
              replace H := HW.below H hr16 H.lt; replace B := B.trans (hr16.mono B.size)
              clear hr16
              go_wp2_with ((go_at_call 15; fail))
              refine (left_of oZ H _ l2).mono ?_
              rintro e wr17 ⟨rfl, hr17⟩
              replace H := HW.below H hr17 H.lt; replace B := B.trans (hr17.mono B.size)
              clear hr17
              go_wp2_with fail
              go_roundg (20 - (n + 1))
              case measure => have := hK.out; omega
              case rel => exact ⟨n + 1, by go_num, by omega, by omega, rfl, H, B⟩
        · have hd1 : decide ((n : Int) < (len : Int)) = true := by simp; omega
          have hd2 : decide ((n : Int) < 20) = false := by simp; omega
          go_wp2_with ((go_at_call 11; fail))
          refine (known_any _).mono ?_
          rintro e wr18 ⟨rfl, hr18⟩
          replace H := HW.below H hr18 H.lt; replace B := B.trans (hr18.mono B.size)
          clear hr18
          go_wp2_with ((go_at_call 16; fail))
          refine (enabled_of H true (Lib.hid rfl)).mono ?_
          rintro e wr19 ⟨rfl, hr19⟩
          replace H := HW.below H hr19 H.lt; replace B := B.trans (hr19.mono B.size)
          clear hr19
          go_wp2_with ((go_at_call 17; fail))
          refine (locked_of H false (Lib.hid rfl)).mono ?_
          rintro e wr20 ⟨rfl, hr20⟩
          replace H := HW.below H hr20 H.lt; replace B := B.trans (hr20.mono B.size)
          clear hr20
          go_wp2_with fail
          go_ret
          exact ⟨rfl, B⟩
      · have hd1 : decide ((n : Int) < (len : Int)) = false := by simp; omega
        go_wp2_with ((go_at_call 11; fail))
        refine (known_any _).mono ?_
        rintro e wr21 ⟨rfl, hr21⟩
        replace H := HW.below H hr21 H.lt; replace B := B.trans (hr21.mono B.size)
        clear hr21
        go_wp2_with ((go_at_call 16; fail))
        refine (enabled_of H true (Lib.hid rfl)).mono ?_
        rintro e wr22 ⟨rfl, hr22⟩
        replace H := HW.below H hr22 H.lt; replace B := B.trans (hr22.mono B.size)
        clear hr22
        go_wp2_with ((go_at_call 17; fail))
        refine (locked_of H false (Lib.hid rfl)).mono ?_
        rintro e wr23 ⟨rfl, hr23⟩
        replace H := HW.below H hr23 H.lt; replace B := B.trans (hr23.mono B.size)
        clear hr23
        go_wp2_with fail
        go_ret
        exact ⟨rfl, B⟩
  · go_wp2_with ((go_at_call 9; fail))
    refine ((KEY.out _ _ H rfl).2.2).mono ?_
    rintro e w3 ⟨rfl, T3⟩
    replace B := B.trans (T3.below_ (Nat.le_refl _) B.size); replace H := T3.hc
    clear T3 KEY e1 e2 e3 finish
    have HH := Lib.hid H
    have BB := Lib.hid B
    clear H B
    go_wp2_with fail
    go_loopg [11] 20 (fun k i wr => WinRel w true C T len k i wr)
    case atStart => exact ⟨0, rfl, by omega, by omega, rfl, HH.out, BB.out⟩
    case round =>
      clear HH BB
      obtain ⟨n, rfl, hn, hnl, hk, H, B⟩ := hrel
      have hK := Lib.hid hk
      clear hk
      by_cases hlt : n < len
      · by_cases h20 : n < 20
        · have hd1 : decide ((n : Int) < (len : Int)) = true := by simp; omega
          have hd2 : decide ((n : Int) < 20) = true := by simp; omega
          obtain ⟨sb, so, x, hA, x0, x1, hx⟩ := HN.out n hlt
          subst hA
          have hxl : sb < w.heap.size := World.block_lt_of_cell? (w := w) (a := ⟨sb, so + n, none⟩) hx
          have hcell := (B.cell (p := ⟨sb, so + n, none⟩) hxl).trans hx
          clear hx
          obtain ⟨r, hr⟩ : ∃ r, x % 150000 = r := ⟨_, rfl⟩
          have r0 : 0 ≤ r := by omega
          have r1 : r ≤ 149999 := by omega
          have hr' : x.tmod 150000 = r := by rw [Int.tmod_eq_emod_of_nonneg x0]; exact hr
          have nn0 : (0 : Int) ≤ (n : Int) := by omega
          have nn1 : (n : Int) < (len : Int) := by omega
          by_cases hge : T ≤ r
          · have t1 : Hid (WS.tickB ⟨true, true, false, C, T, 0, 0⟩ r = (⟨true, true, false, C, T, T, 2⟩, T)) := Lib.hid (by simp [WS.tickB, hge])
            have hd3 : decide (T ≤ r) = true := by simpa using hge
            go_wp2_with ((go_at_call 10; fail))
            clear hr hr' hcell
            refine (tick_of oZ H _ _ _ r0 (by omega) t1).mono ?_
            rintro e w4 ⟨rfl, T4⟩
            replace B := B.trans (T4.below_ (Nat.le_refl _) B.size); replace H := T4.hc
            clear T4
            have hTT : (T == T) = true := by simp
            go_wp2_with ((go_at_call 11; fail))
            refine (known_any _).mono ?_
            rintro e wr3 ⟨rfl, hr3⟩
            replace H := HW.below H hr3 H.lt; replace B := B.trans (hr3.mono B.size)
            clear hr3
            go_wp2_with ((go_at_call 12; fail))
            refine (fault_of H 2 (Lib.hid rfl)).mono ?_
            rintro e wr4 ⟨rfl, hr4⟩
            replace H := HW.below H hr4 H.lt; replace B := B.trans (hr4.mono B.size)
            clear hr4
            go_wp2_with fail
            go_ret
            exact ⟨rfl, B⟩
          · have t1 : Hid (WS.tickB ⟨true, true, false, C, T, 0, 0⟩ r = (⟨true, true, false, C, T, r, 0⟩, r)) := Lib.hid (by simp [WS.tickB, hge])
            have p1 := ok_tick oZ r0 t1
            have s1 : Hid (WS.storeB ⟨true, true, false, C, T, r, 0⟩ 4 0 = (⟨true, true, false, C, T, r, 0⟩, 0)) := Lib.hid (by simp [WS.storeB])
            have s2 : Hid (WS.storeB ⟨true, true, false, C, T, r, 0⟩ 8 1 = (⟨true, true, false, C, T, r, 0⟩, 0)) := Lib.hid (by simp [WS.storeB])
            have s3 : Hid (WS.storeB ⟨true, true, false, C, T, r, 0⟩ 12 23130 = (⟨true, true, true, C, T, r, 0⟩, 0)) := Lib.hid rfl
            have p2 := ok_store p1 (by decide) (by decide) s3
            have hd3 : decide (T ≤ r) = false := by simpa using hge
            have hrr : (r == r) = true := by simp
            go_wp2_with ((go_at_call 10; fail))
            clear hr hr' hcell
            refine (tick_of oZ H _ _ _ r0 (by omega) t1).mono ?_
            rintro e w4 ⟨rfl, T4⟩
            replace B := B.trans (T4.below_ (Nat.le_refl _) B.size); replace H := T4.hc
            clear T4
            go_wp2_with ((go_at_call 9; fail))
            refine (store_of p1 H _ _ _ _ (by decide) (by decide) (by decide) (by decide) s1).mono ?_
            rintro e wr5 ⟨rfl, T5⟩
            replace B := B.trans (T5.below_ (Nat.le_refl _) B.size); replace H := T5.hc
            clear T5
            go_wp2_with ((go_at_call 9; fail))
            refine (store_of p1 H _ _ _ _ (by decide) (by decide) (by decide) (by decide) s2).mono ?_
            rintro e wr6 ⟨rfl, T6⟩
            replace B := B.trans (T6.below_ (Nat.le_refl _) B.size); replace H := T6.hc
            clear T6
            go_wp2_with ((go_at_call 9; fail))
            refine (store_of p1 H _ _ _ _ (by decide) (by decide) (by decide) (by decide) s3).mono ?_
            rintro e wr7 ⟨rfl, T7⟩
            replace B := B.trans (T7.below_ (Nat.le_refl _) B.size); replace H := T7.hc
            clear T7
            go_wp2_with ((go_at_call 12; fail))
            refine (fault_of H 0 (Lib.hid rfl)).mono ?_
            rintro e wr8 ⟨rfl, hr8⟩
            replace H := HW.below H hr8 H.lt; replace B := B.trans (hr8.mono B.size)
            clear hr8
            go_wp2_with ((go_at_call 13; fail))
            refine (armed_of H true (Lib.hid rfl)).mono ?_
            rintro e wr9 ⟨rfl, hr9⟩
            replace H := HW.below H hr9 H.lt; replace B := B.trans (hr9.mono B.size)
            clear hr9
            go_wp2_with ((go_at_call 14; fail))
            refine (since_of H r (Lib.hid rfl)).mono ?_
            rintro e wr10 ⟨rfl, hr10⟩
            replace H := HW.below H hr10 H.lt; replace B := B.trans (hr10.mono B.size)
            clear hr10
            by_cases hlc : r < C
            · have s4 : Hid (WS.storeB ⟨true, true, true, C, T, r, 0⟩ 12 42405 = (⟨true, true, true, C, T, r, 4⟩, 0)) := Lib.hid (by simp [WS.storeB, WS.keyB, hlc])
              have hd4 : decide (r < C) = true := by simpa using hlc
              go_wp2_with ((go_at_call 9; fail))
              refine (store_of p2 H _ _ _ _ (by decide) (by decide) (by decide) (by decide) s4).mono ?_
              rintro e wr11 ⟨rfl, T11⟩
              replace B := B.trans (T11.below_ (Nat.le_refl _) B.size); replace H := T11.hc
              clear T11
              go_wp2_with ((go_at_call 11; fail))
              refine (known_any _).mono ?_
              rintro e wr12 ⟨rfl, hr12⟩
              replace H := HW.below H hr12 H.lt; replace B := B.trans (hr12.mono B.size)
              clear hr12
              go_wp2_with ((go_at_call 12; fail))
              refine (fault_of H 4 (Lib.hid rfl)).mono ?_
              rintro e wr13 ⟨rfl, hr13⟩
              replace H := HW.below H hr13 H.lt; replace B := B.trans (hr13.mono B.size)
              clear hr13
              go_wp2_with fail
              go_ret
              exact ⟨rfl, B⟩
            · have s4 : Hid (WS.storeB ⟨true, true, true, C, T, r, 0⟩ 12 42405 = (⟨true, true, false, C, T, 0, 0⟩, 0)) := Lib.hid (by simp [WS.storeB, WS.keyB, hlc])
              have l2 : Hid (WS.left ⟨true, true, false, C, T, 0, 0⟩ = T) := Lib.hid (by simp [WS.left])
              have hd4 : decide (r < C) = false := by simpa using hlc
              have hTT : (T == T) = true := by simp
              go_wp2_with ((go_at_call 9; fail))
              refine (store_of p2 H _ _ _ _ (by decide) (by decide) (by decide) (by decide) s4).mono ?_
              rintro e wr11 ⟨rfl, T11⟩
              replace B := B.trans (T11.below_ (Nat.le_refl _) B.size); replace H := T11.hc
              clear T11
              go_wp2_with ((go_at_call 12; fail))
              refine (fault_of H 0 (Lib.hid rfl)).mono ?_
              rintro e wr14 ⟨rfl, hr14⟩
              replace H := HW.below H hr14 H.lt; replace B := B.trans (hr14.mono B.size)
              clear hr14
              go_wp2_with ((go_at_call 14; fail))
              refine (since_of H 0 (Lib.hid rfl)).mono ?_
              rintro e wr15 ⟨rfl, hr15⟩
              replace H := HW.below H hr15 H.lt; replace B := B.trans (hr15.mono B.size)
              clear hr15
              go_wp2_with ((go_at_call 13; fail))
              refine (armed_of H false (Lib.hid rfl)).mono ?_
              rintro e wr16 ⟨rfl, hr16⟩
              replace H := HW.below H hr16 H.lt; replace B := B.trans (hr16.mono B.size)
              clear hr16
              go_wp2_with ((go_at_call 15; fail))
              refine (left_of oZ H _ l2).mono ?_
              rintro e wr17 ⟨rfl, hr17⟩
              replace H := HW.below H hr17 H.lt; replace B := B.trans (hr17.mono B.size)
              clear hr17
              go_wp2_with fail
              go_roundg (20 - (n + 1))
              case measure => have := hK.out; omega
              case rel => exact ⟨n + 1, by go_num, by omega, by omega, rfl, H, B⟩
        · have hd1 : decide ((n : Int) < (len : Int)) = true := by simp; omega
          have hd2 : decide ((n : Int) < 20) = false := by simp; omega
          go_wp2_with ((go_at_call 11; fail))
          refine (known_any _).mono ?_
          rintro e wr18 ⟨rfl, hr18⟩
          replace H := HW.below H hr18 H.lt; replace B := B.trans (hr18.mono B.size)
          clear hr18
          go_wp2_with ((go_at_call 16; fail))
          refine (enabled_of H true (Lib.hid rfl)).mono ?_
          rintro e wr19 ⟨rfl, hr19⟩
          replace H := HW.below H hr19 H.lt; replace B := B.trans (hr19.mono B.size)
          clear hr19
          go_wp2_with ((go_at_call 17; fail))
          refine (locked_of H true (Lib.hid rfl)).mono ?_
          rintro e wr20 ⟨rfl, hr20⟩
          replace H := HW.below H hr20 H.lt; replace B := B.trans (hr20.mono B.size)
          clear hr20
          go_wp2_with fail
          go_ret
          exact ⟨rfl, B⟩
      · have hd1 : decide ((n : Int) < (len : Int)) = false := by simp; omega
        go_wp2_with ((go_at_call 11; fail))
        refine (known_any _).mono ?_
        rintro e wr21 ⟨rfl, hr21⟩
        replace H := HW.below H hr21 H.lt; replace B := B.trans (hr21.mono B.size)
        clear hr21
        go_wp2_with ((go_at_call 16; fail))
        refine (enabled_of H true (Lib.hid rfl)).mono ?_
        rintro e wr22 ⟨rfl, hr22⟩
        replace H := HW.below H hr22 H.lt; replace B := B.trans (hr22.mono B.size)
        clear hr22
        go_wp2_with ((go_at_call 17; fail))
        refine (locked_of H true (Lib.hid rfl)).mono ?_
        rintro e wr23 ⟨rfl, hr23⟩
        replace H := HW.below H hr23 H.lt; replace B := B.trans (hr23.mono B.size)
        clear hr23
        go_wp2_with fail
        go_ret
        exact ⟨rfl, B⟩
end Go.Proofs.Ytndndlegefhafaa
