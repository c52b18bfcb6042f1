/- The walk of the law WdogLocks. Its conditions: those that its statement shows. -/
import Derived.Test.YtndndlegefhafaaT4
import Derived.Deep.CutRange
import Derived.Deep.DeepCutAuto
import Derived.BigQuiet
namespace Go.Proofs.Ytndndlegefhafaa
open Go.RowKit
set_option linter.unusedVariables false
set_option linter.unusedSimpArgs false

/-- What is told of the watchdog ahead of each word. -/
def LockSt (lock : Bool) (C T : Int) (s : WS) : Prop := s.Ok ∧ s.fault = 0 ∧ (lock = true → s.en = true ∧ s.lk = true ∧ s.shut = C ∧ s.all = T)
def LockRel (w : World) (lock : Bool) (C T : Int) (len : Nat) (k : Nat) (ve vl i : Value) (wr : World) : Prop :=
  ∃ (n : Nat) (s : WS), i = I (n : Nat) ∧ ve = .bool s.en ∧ vl = .bool s.lk ∧ n ≤ 20 ∧ n ≤ len ∧ k = 20 - n ∧ LockSt lock C T s ∧ HW wr w.heap.size s ∧ Below w.heap.size w wr

theorem locks_ok (lock : Bool) (C T : Int) (C0 : 0 ≤ C) (CT : C < T) (T1 : T ≤ 100001) : LockSt lock C T ⟨true, lock, false, C, T, 0, 0⟩ :=
  ⟨win_ok lock C T C0 CT T1, rfl, fun h => ⟨rfl, h, rfl, rfl⟩⟩

theorem lock_stay {lock : Bool} {C T : Int} {s : WS} (h : LockSt lock C T s) (off x : Int) (x0 : 0 ≤ x) (x1 : x ≤ 4294967295) (ho : off = 0 ∨ off = 4 ∨ off = 8) (s' : WS) (e : Int) (hv : Hid (s.storeB off x = (s', e))) :
    e = 0 ∧ LockSt lock C T s' ∧ (off ≠ 0 ∨ s.lk = true → s'.en = s.en ∧ s'.lk = s.lk) ∧ (off = 0 ∧ s.lk = false → s'.en = (s.en && x % 2 == 1 || !s.en && x % 2 == 1 && decide (s'.shut < s'.all)) ∧ s'.lk = (x / 2 % 2 == 1)) := by
  obtain ⟨ok, hf, hl⟩ := h
  have ok' := s.storeB_ok ok off x x0 x1
  obtain ⟨en, lk, ar, shut, all, since, fault⟩ := s
  dsimp only at hf
  subst hf
  have hv := hv.out
  rw [hv] at ok'
  rcases ho with rfl | rfl | rfl
  · cases lk
    · cases en
      · by_cases hx : x % 2 = 1
        · by_cases hlt : shut < all
          · simp [WS.storeB, WS.ctlB, hx, hlt] at hv
            obtain ⟨rfl, rfl⟩ := hv
            exact ⟨rfl, ⟨ok', rfl, fun h => by have := (hl h).1; cases this⟩, fun h => by simp at h, fun _ => by simp [hx, hlt]⟩
          · simp [WS.storeB, WS.ctlB, hx, hlt] at hv
            obtain ⟨rfl, rfl⟩ := hv
            exact ⟨rfl, ⟨ok', rfl, fun h => by have := (hl h).1; cases this⟩, fun h => by simp at h, fun _ => by simp [hx, hlt]⟩
        · simp [WS.storeB, WS.ctlB, hx] at hv
          obtain ⟨rfl, rfl⟩ := hv
          exact ⟨rfl, ⟨ok', rfl, fun h => by have := (hl h).1; cases this⟩, fun h => by simp at h, fun _ => by simp [hx]⟩
      · by_cases hx : x % 2 = 1
        · simp [WS.storeB, WS.ctlB, hx] at hv
          obtain ⟨rfl, rfl⟩ := hv
          exact ⟨rfl, ⟨ok', rfl, fun h => by have := (hl h).2.1; cases this⟩, fun h => by simp at h, fun _ => by simp [hx]⟩
        · simp [WS.storeB, WS.ctlB, hx] at hv
          obtain ⟨rfl, rfl⟩ := hv
          exact ⟨rfl, ⟨ok', rfl, fun h => by have := (hl h).2.1; cases this⟩, fun h => by simp at h, fun _ => by simp [hx]⟩
    · simp [WS.storeB, WS.ctlB] at hv
      obtain ⟨rfl, rfl⟩ := hv
      exact ⟨rfl, ⟨ok', rfl, hl⟩, fun _ => ⟨rfl, rfl⟩, fun h => by simp at h⟩
  · by_cases ho : lk = false ∧ en = false
    · simp [WS.storeB, ho] at hv
      obtain ⟨rfl, rfl⟩ := hv
      exact ⟨rfl, ⟨ok', rfl, fun h => by have := (hl h).1; rw [ho.2] at this; cases this⟩, fun _ => ⟨ho.2.symm, ho.1.symm⟩, fun h => by simp at h⟩
    · simp [WS.storeB, ho] at hv
      obtain ⟨rfl, rfl⟩ := hv
      exact ⟨rfl, ⟨ok', rfl, hl⟩, fun _ => ⟨rfl, rfl⟩, fun h => by simp at h⟩
  · by_cases ho : lk = false ∧ en = false
    · simp [WS.storeB, ho] at hv
      obtain ⟨rfl, rfl⟩ := hv
      exact ⟨rfl, ⟨ok', rfl, fun h => by have := (hl h).1; rw [ho.2] at this; cases this⟩, fun _ => ⟨ho.2.symm, ho.1.symm⟩, fun h => by simp at h⟩
    · simp [WS.storeB, ho] at hv
      obtain ⟨rfl, rfl⟩ := hv
      exact ⟨rfl, ⟨ok', rfl, hl⟩, fun _ => ⟨rfl, rfl⟩, fun h => by simp at h⟩

theorem load4 (s : WS) : Hid (s.loadB 4 = (s.shut, 0)) := Lib.hid rfl
theorem load8 (s : WS) : Hid (s.loadB 8 = (s.all, 0)) := Lib.hid rfl
set_option maxRecDepth 100000 in
set_option maxHeartbeats 8000000 in
theorem locks_false (w : World) (closed total : Int) (A : Option Addr) (len cap : Nat) (c0 : 0 ≤ closed) (c1 : closed ≤ 4294967295) (t0 : 0 ≤ total) (t1 : total ≤ 4294967295) (hlen : len ≤ maxLen) (hn : Nums .u32 4294967295 w A len) :
    Calls Try.prog 4 #[U closed, U total, .bool false, .slice A len cap] w fun e w' => e = .returned (.bool true) ∧ Below w.heap.size w w' := by
  unfold maxLen at hlen
  obtain ⟨q, hq⟩ : ∃ q, total % 100000 = q := ⟨_, rfl⟩
  obtain ⟨T, hT⟩ : ∃ T, 2 + q = T := ⟨_, rfl⟩
  have q0 : 0 ≤ q := by omega
  have q1 : q ≤ 99999 := by omega
  have T0 : 2 ≤ T := by omega
  have T1 : T ≤ 100001 := by omega
  obtain ⟨C, hC⟩ : ∃ C, closed % T = C := ⟨_, rfl⟩
  have C0 : 0 ≤ C := by rw [← hC]; exact Int.emod_nonneg _ (by omega)
  have CT : C < T := by rw [← hC]; exact Int.emod_lt_of_pos _ (by omega)
  have hq' : total.tmod 100000 = q := by rw [Int.tmod_eq_emod_of_nonneg t0]; exact hq
  have hC' : closed.tmod T = C := by rw [Int.tmod_eq_emod_of_nonneg c0]; exact hC
  have hTz : ¬ T = 0 := by omega
  have hTb : (T == 0) = false := by simp; omega
  have e1 : Hid (WS.zero.storeB 4 C = (⟨false, false, false, C, 0, 0, 0⟩, 0)) := Lib.hid rfl
  have o1 := ok_store WS.zero_ok C0 (by omega) e1
  have e2 : Hid (WS.storeB ⟨false, false, false, C, 0, 0, 0⟩ 8 T = (⟨false, false, false, C, T, 0, 0⟩, 0)) := Lib.hid rfl
  have o2 := ok_store o1 (by omega) (by omega) e2
  have oZ := locks_ok false C T C0 CT (by omega)
  have HN := Lib.hid hn
  clear hn hq hC
  · have e3 : Hid (WS.storeB ⟨false, false, false, C, T, 0, 0⟩ 0 1 = (⟨true, false, false, C, T, 0, 0⟩, 0)) := Lib.hid (by simp [WS.storeB, WS.ctlB, CT])
    have OZ := Lib.hid oZ
    clear oZ
    go_enter Try.func4, Try.ntmps4
    go_wp2_with ((go_at_call 8; fail))
    clear hq' hC' hT hTz hTb
    refine (new_any _).mono ?_
    rintro e w1 ⟨rfl, hw1⟩
    have H : HW w1 w.heap.size WS.zero := by rw [← hw1]; exact Blk.new _ _ _
    have B : Below w.heap.size w w1 := by rw [← hw1]; exact (Below.refl _ _).alloc (Nat.le_refl _) _
    clear hw1
    go_wp2_with ((go_at_call 9; fail))
    refine (store_of WS.zero_ok H _ _ _ _ (by decide) (by decide) C0 (by omega) e1).mono ?_
    rintro e wr1 ⟨rfl, T1⟩
    replace B := B.trans (T1.below_ (Nat.le_refl _) B.size); replace H := T1.hc
    clear T1
    go_wp2_with ((go_at_call 9; fail))
    refine (store_of o1 H _ _ _ _ (by decide) (by decide) (by omega) (by omega) e2).mono ?_
    rintro e wr2 ⟨rfl, T2⟩
    replace B := B.trans (T2.below_ (Nat.le_refl _) B.size); replace H := T2.hc
    clear T2
    go_wp2_with ((go_at_call 9; fail))
    refine (store_of o2 H _ _ _ _ (by decide) (by decide) (by decide) (by decide) e3).mono ?_
    rintro e wr3 ⟨rfl, T3⟩
    replace B := B.trans (T3.below_ (Nat.le_refl _) B.size); replace H := T3.hc
    clear T3
    clear e1 e2 e3
    have HH := Lib.hid H
    have BB := Lib.hid B
    clear H B
    go_wp2_with fail
    go_loopg [11, 12, 13] 20 (fun k ve vl i wr => LockRel w false C T len k ve vl i wr)
    case atStart => exact ⟨0, _, rfl, rfl, rfl, by omega, by omega, rfl, OZ.out, HH.out, BB.out⟩
    case round =>
      clear HH BB OZ
      obtain ⟨n, ⟨en, lk, ar, shut, all, since, fault⟩, rfl, rfl, rfl, hn, hnl, hk, hst, H, B⟩ := hrel
      have hK := Lib.hid hk
      clear hk
      by_cases hlt : n < len
      · by_cases h20 : n < 20
        · have hd1 : decide ((n : Int) < (len : Int)) = true := by simp; omega
          have hd2 : decide ((n : Int) < 20) = true := by simp; omega
          obtain ⟨sb, so, x, hA, x0, x1, hx⟩ := HN.out n hlt
          subst hA
          have hxl : sb < w.heap.size := World.block_lt_of_cell? (w := w) (a := ⟨sb, so + n, none⟩) hx
          have HX := Lib.hid hx
          have hcell := (B.cell (p := ⟨sb, so + n, none⟩) hxl).trans hx
          clear hx
          have nn0 : (0 : Int) ≤ (n : Int) := by omega
          have nn1 : (n : Int) < (len : Int) := by omega
          have h3 : x % 3 = 0 ∨ x % 3 = 1 ∨ x % 3 = 2 := by omega
          have hx3 : x.tmod 3 = x % 3 := Int.tmod_eq_emod_of_nonneg x0
          rcases h3 with h3 | h3 | h3
          · obtain ⟨s', ee, hv⟩ : ∃ s' ee, Hid (WS.storeB ⟨en, lk, ar, shut, all, since, fault⟩ 0 x = (s', ee)) := ⟨_, _, Lib.hid rfl⟩
            obtain ⟨rfl, st, hsame, hnew⟩ := lock_stay hst 0 x x0 x1 (by decide) s' ee hv
            have LA := load4 s'
            have LB := load8 s'
            have OK := hst.1
            have ST := Lib.hid st
            have FT : Hid (s'.fault = 0) := Lib.hid st.2.1
            have OK' := st.1
            clear hst st
            cases lk
            · obtain ⟨he, hl⟩ := hnew ⟨rfl, rfl⟩
              dsimp only at he hl
              obtain ⟨hh, hhh⟩ : ∃ h, x / 2 = h := ⟨_, rfl⟩
              have hh0 : 0 ≤ hh := by omega
              have hh1 : hh ≤ 4294967295 := by omega
              obtain ⟨gg, hgg⟩ : ∃ g, hh % 2 = g := ⟨_, rfl⟩
              have gg0 : 0 ≤ gg := by omega
              have gg1 : gg ≤ 1 := by omega
              rw [hhh, hgg] at hl
              have HL : Hid (s'.lk = (gg == 1)) := Lib.hid hl
              clear hl hsame hnew
              have h2 : x % 2 = 0 ∨ x % 2 = 1 := by omega
              cases en
              · rcases h2 with hf | hf
                · have HE : Hid (s'.en = false) := Lib.hid (by rw [he, hf]; rfl)
                  clear he
                  go_wp2_with ((go_at_call 9; fail))
                  refine (store_of OK H _ _ _ _ (by decide) (by decide) x0 x1 hv).mono ?_
                  rintro e wr4 ⟨rfl, T4⟩
                  replace B := B.trans (T4.below_ (Nat.le_refl _) B.size); replace H := T4.hc
                  clear T4
                  clear h3 hx3 hcell
                  go_wp2_with ((go_at_call 18; fail))
                  refine (load_of OK' H _ _ _ (by decide) (by decide) LA).mono ?_
                  rintro e wr5 ⟨rfl, hr5⟩
                  replace H := HW.below H hr5 H.lt; replace B := B.trans (hr5.mono B.size)
                  clear hr5
                  go_wp2_with ((go_at_call 18; fail))
                  refine (load_of OK' H _ _ _ (by decide) (by decide) LB).mono ?_
                  rintro e wr6 ⟨rfl, hr6⟩
                  replace H := HW.below H hr6 H.lt; replace B := B.trans (hr6.mono B.size)
                  clear hr6
                  have xc : ∀ x_ : WX wr6, x_.w.cell? ⟨sb, so + n, none⟩ = some (U x) := fun x_ => x_.cell ((B.cell (p := ⟨sb, so + n, none⟩) hxl).trans HX.out)
                  have f1 : x.tmod 2 = 0 := by rw [Int.tmod_eq_emod_of_nonneg x0]; exact hf
                  have f2 : IntKind.u32.wrap (x.tdiv 2) = hh := by rw [Int.tdiv_eq_ediv_of_nonneg x0, IntKind.wrap_u32]; omega
                  have f3 : x.tdiv 2 = hh := by rw [Int.tdiv_eq_ediv_of_nonneg x0]; exact hhh
                  have f4 : hh.tmod 2 = gg := by rw [Int.tmod_eq_emod_of_nonneg hh0]; exact hgg
                  have f5 : IntKind.u32.wrap hh = hh := by rw [IntKind.wrap_u32]; omega
                  have f6 : IntKind.u32.wrap gg = gg := by rw [IntKind.wrap_u32]; omega
                  have BB := Lib.hid B
                  have HHH := Lib.hid H
                  clear B H hf hhh hgg
                  go_upto_region 19 with fail
                  refine wp_region_grown (by kernel_rfl) (by kernel_rfl) ?_
                  repeat (go_big_quiet_step (fail))
                  refine wpQuiet_nil ?_
                  intro wq hbq
                  clear xc f1 f2 f3 f4 f5 f6
                  have H := HHH.out.below hbq HHH.out.lt
                  have B := BB.out.trans (hbq.mono BB.out.size)
                  go_wp2_with ((go_at_call 16; fail))
                  refine (enabled_of H false HE).mono ?_
                  rintro e wr7 ⟨rfl, hr7⟩
                  replace H := HW.below H hr7 H.lt; replace B := B.trans (hr7.mono B.size)
                  clear hr7
                  go_wp2_with ((go_at_call 17; fail))
                  refine (locked_of H (gg == 1) HL).mono ?_
                  rintro e wr8 ⟨rfl, hr8⟩
                  replace H := HW.below H hr8 H.lt; replace B := B.trans (hr8.mono B.size)
                  clear hr8
                  go_wp2_with (go_at_call 12; refine (fault_of H 0 FT).mono ?_; rintro e wr9 ⟨rfl, hr9⟩)
                  all_goals
                    go_roundg (20 - (n + 1))
                    case measure => have := hK.out; omega
                    case rel => exact ⟨n + 1, s', by go_num, by rw [HE.out] <;> simp [*], by rw [HL.out] <;> simp [*], by omega, by omega, rfl, ST.out, HW.below H hr9 H.lt, B.trans (hr9.mono B.size)⟩
                · cases hab : decide (s'.shut < s'.all)
                  · have HE : Hid (s'.en = false) := Lib.hid (by rw [he, hf, hab]; rfl)
                    clear he
                    go_wp2_with ((go_at_call 9; fail))
                    refine (store_of OK H _ _ _ _ (by decide) (by decide) x0 x1 hv).mono ?_
                    rintro e wr10 ⟨rfl, T10⟩
                    replace B := B.trans (T10.below_ (Nat.le_refl _) B.size); replace H := T10.hc
                    clear T10
                    clear h3 hx3 hcell
                    go_wp2_with ((go_at_call 18; fail))
                    refine (load_of OK' H _ _ _ (by decide) (by decide) LA).mono ?_
                    rintro e wr11 ⟨rfl, hr11⟩
                    replace H := HW.below H hr11 H.lt; replace B := B.trans (hr11.mono B.size)
                    clear hr11
                    go_wp2_with ((go_at_call 18; fail))
                    refine (load_of OK' H _ _ _ (by decide) (by decide) LB).mono ?_
                    rintro e wr12 ⟨rfl, hr12⟩
                    replace H := HW.below H hr12 H.lt; replace B := B.trans (hr12.mono B.size)
                    clear hr12
                    have xc : ∀ x_ : WX wr12, x_.w.cell? ⟨sb, so + n, none⟩ = some (U x) := fun x_ => x_.cell ((B.cell (p := ⟨sb, so + n, none⟩) hxl).trans HX.out)
                    have f1 : x.tmod 2 = 1 := by rw [Int.tmod_eq_emod_of_nonneg x0]; exact hf
                    have f2 : IntKind.u32.wrap (x.tdiv 2) = hh := by rw [Int.tdiv_eq_ediv_of_nonneg x0, IntKind.wrap_u32]; omega
                    have f3 : x.tdiv 2 = hh := by rw [Int.tdiv_eq_ediv_of_nonneg x0]; exact hhh
                    have f4 : hh.tmod 2 = gg := by rw [Int.tmod_eq_emod_of_nonneg hh0]; exact hgg
                    have f5 : IntKind.u32.wrap hh = hh := by rw [IntKind.wrap_u32]; omega
                    have f6 : IntKind.u32.wrap gg = gg := by rw [IntKind.wrap_u32]; omega
                    have BB := Lib.hid B
                    have HHH := Lib.hid H
                    clear B H hf hhh hgg
                    go_upto_region 19 with fail
                    refine wp_region_grown (by kernel_rfl) (by kernel_rfl) ?_
                    repeat (go_big_quiet_step (fail))
                    refine wpQuiet_nil ?_
                    intro wq hbq
                    clear xc f1 f2 f3 f4 f5 f6
                    have H := HHH.out.below hbq HHH.out.lt
                    have B := BB.out.trans (hbq.mono BB.out.size)
                    go_wp2_with ((go_at_call 16; fail))
                    refine (enabled_of H false HE).mono ?_
                    rintro e wr13 ⟨rfl, hr13⟩
                    replace H := HW.below H hr13 H.lt; replace B := B.trans (hr13.mono B.size)
                    clear hr13
                    go_wp2_with ((go_at_call 17; fail))
                    refine (locked_of H (gg == 1) HL).mono ?_
                    rintro e wr14 ⟨rfl, hr14⟩
                    replace H := HW.below H hr14 H.lt; replace B := B.trans (hr14.mono B.size)
                    clear hr14
                    go_wp2_with (go_at_call 12; refine (fault_of H 0 FT).mono ?_; rintro e wr15 ⟨rfl, hr15⟩)
                    all_goals
                      go_roundg (20 - (n + 1))
                      case measure => have := hK.out; omega
                      case rel => exact ⟨n + 1, s', by go_num, by rw [HE.out] <;> simp [*], by rw [HL.out] <;> simp [*], by omega, by omega, rfl, ST.out, HW.below H hr15 H.lt, B.trans (hr15.mono B.size)⟩
                  · have HE : Hid (s'.en = true) := Lib.hid (by rw [he, hf, hab]; rfl)
                    clear he
                    go_wp2_with ((go_at_call 9; fail))
                    refine (store_of OK H _ _ _ _ (by decide) (by decide) x0 x1 hv).mono ?_
                    rintro e wr16 ⟨rfl, T16⟩
                    replace B := B.trans (T16.below_ (Nat.le_refl _) B.size); replace H := T16.hc
                    clear T16
                    clear h3 hx3 hcell
                    go_wp2_with ((go_at_call 18; fail))
                    refine (load_of OK' H _ _ _ (by decide) (by decide) LA).mono ?_
                    rintro e wr17 ⟨rfl, hr17⟩
                    replace H := HW.below H hr17 H.lt; replace B := B.trans (hr17.mono B.size)
                    clear hr17
                    go_wp2_with ((go_at_call 18; fail))
                    refine (load_of OK' H _ _ _ (by decide) (by decide) LB).mono ?_
                    rintro e wr18 ⟨rfl, hr18⟩
                    replace H := HW.below H hr18 H.lt; replace B := B.trans (hr18.mono B.size)
                    clear hr18
                    have xc : ∀ x_ : WX wr18, x_.w.cell? ⟨sb, so + n, none⟩ = some (U x) := fun x_ => x_.cell ((B.cell (p := ⟨sb, so + n, none⟩) hxl).trans HX.out)
                    have f1 : x.tmod 2 = 1 := by rw [Int.tmod_eq_emod_of_nonneg x0]; exact hf
                    have f2 : IntKind.u32.wrap (x.tdiv 2) = hh := by rw [Int.tdiv_eq_ediv_of_nonneg x0, IntKind.wrap_u32]; omega
                    have f3 : x.tdiv 2 = hh := by rw [Int.tdiv_eq_ediv_of_nonneg x0]; exact hhh
                    have f4 : hh.tmod 2 = gg := by rw [Int.tmod_eq_emod_of_nonneg hh0]; exact hgg
                    have f5 : IntKind.u32.wrap hh = hh := by rw [IntKind.wrap_u32]; omega
                    have f6 : IntKind.u32.wrap gg = gg := by rw [IntKind.wrap_u32]; omega
                    have BB := Lib.hid B
                    have HHH := Lib.hid H
                    clear B H hf hhh hgg
                    go_upto_region 19 with fail
                    refine wp_region_grown (by kernel_rfl) (by kernel_rfl) ?_
                    repeat (go_big_quiet_step (fail))
                    refine wpQuiet_nil ?_
                    intro wq hbq
                    clear xc f1 f2 f3 f4 f5 f6
                    have H := HHH.out.below hbq HHH.out.lt
                    have B := BB.out.trans (hbq.mono BB.out.size)
                    go_wp2_with ((go_at_call 16; fail))
                    refine (enabled_of H true HE).mono ?_
                    rintro e wr19 ⟨rfl, hr19⟩
                    replace H := HW.below H hr19 H.lt; replace B := B.trans (hr19.mono B.size)
                    clear hr19
                    go_wp2_with ((go_at_call 17; fail))
                    refine (locked_of H (gg == 1) HL).mono ?_
                    rintro e wr20 ⟨rfl, hr20⟩
                    replace H := HW.below H hr20 H.lt; replace B := B.trans (hr20.mono B.size)
                    clear hr20
                    go_wp2_with (go_at_call 12; refine (fault_of H 0 FT).mono ?_; rintro e wr21 ⟨rfl, hr21⟩)
                    all_goals
                      go_roundg (20 - (n + 1))
                      case measure => have := hK.out; omega
                      case rel => exact ⟨n + 1, s', by go_num, by rw [HE.out] <;> simp [*], by rw [HL.out] <;> simp [*], by omega, by omega, rfl, ST.out, HW.below H hr21 H.lt, B.trans (hr21.mono B.size)⟩
              · rcases h2 with hf | hf
                · have HE : Hid (s'.en = false) := Lib.hid (by rw [he, hf]; rfl)
                  clear he
                  go_wp2_with ((go_at_call 9; fail))
                  refine (store_of OK H _ _ _ _ (by decide) (by decide) x0 x1 hv).mono ?_
                  rintro e wr22 ⟨rfl, T22⟩
                  replace B := B.trans (T22.below_ (Nat.le_refl _) B.size); replace H := T22.hc
                  clear T22
                  clear h3 hx3 hcell
                  go_wp2_with ((go_at_call 18; fail))
                  refine (load_of OK' H _ _ _ (by decide) (by decide) LA).mono ?_
                  rintro e wr23 ⟨rfl, hr23⟩
                  replace H := HW.below H hr23 H.lt; replace B := B.trans (hr23.mono B.size)
                  clear hr23
                  go_wp2_with ((go_at_call 18; fail))
                  refine (load_of OK' H _ _ _ (by decide) (by decide) LB).mono ?_
                  rintro e wr24 ⟨rfl, hr24⟩
                  replace H := HW.below H hr24 H.lt; replace B := B.trans (hr24.mono B.size)
                  clear hr24
                  have xc : ∀ x_ : WX wr24, x_.w.cell? ⟨sb, so + n, none⟩ = some (U x) := fun x_ => x_.cell ((B.cell (p := ⟨sb, so + n, none⟩) hxl).trans HX.out)
                  have f1 : x.tmod 2 = 0 := by rw [Int.tmod_eq_emod_of_nonneg x0]; exact hf
                  have f2 : IntKind.u32.wrap (x.tdiv 2) = hh := by rw [Int.tdiv_eq_ediv_of_nonneg x0, IntKind.wrap_u32]; omega
                  have f3 : x.tdiv 2 = hh := by rw [Int.tdiv_eq_ediv_of_nonneg x0]; exact hhh
                  have f4 : hh.tmod 2 = gg := by rw [Int.tmod_eq_emod_of_nonneg hh0]; exact hgg
                  have f5 : IntKind.u32.wrap hh = hh := by rw [IntKind.wrap_u32]; omega
                  have f6 : IntKind.u32.wrap gg = gg := by rw [IntKind.wrap_u32]; omega
                  have BB := Lib.hid B
                  have HHH := Lib.hid H
                  clear B H hf hhh hgg
                  go_upto_region 19 with fail
                  refine wp_region_grown (by kernel_rfl) (by kernel_rfl) ?_
                  repeat (go_big_quiet_step (fail))
                  refine wpQuiet_nil ?_
                  intro wq hbq
                  clear xc f1 f2 f3 f4 f5 f6
                  have H := HHH.out.below hbq HHH.out.lt
                  have B := BB.out.trans (hbq.mono BB.out.size)
                  go_wp2_with ((go_at_call 16; fail))
                  refine (enabled_of H false HE).mono ?_
                  rintro e wr25 ⟨rfl, hr25⟩
                  replace H := HW.below H hr25 H.lt; replace B := B.trans (hr25.mono B.size)
                  clear hr25
                  go_wp2_with ((go_at_call 17; fail))
                  refine (locked_of H (gg == 1) HL).mono ?_
                  rintro e wr26 ⟨rfl, hr26⟩
                  replace H := HW.below H hr26 H.lt; replace B := B.trans (hr26.mono B.size)
                  clear hr26
                  go_wp2_with (go_at_call 12; refine (fault_of H 0 FT).mono ?_; rintro e wr27 ⟨rfl, hr27⟩)
                  all_goals
                    go_roundg (20 - (n + 1))
                    case measure => have := hK.out; omega
                    case rel => exact ⟨n + 1, s', by go_num, by rw [HE.out] <;> simp [*], by rw [HL.out] <;> simp [*], by omega, by omega, rfl, ST.out, HW.below H hr27 H.lt, B.trans (hr27.mono B.size)⟩
                · have HE : Hid (s'.en = true) := Lib.hid (by rw [he, hf]; rfl)
                  clear he
                  go_wp2_with ((go_at_call 9; fail))
                  refine (store_of OK H _ _ _ _ (by decide) (by decide) x0 x1 hv).mono ?_
                  rintro e wr28 ⟨rfl, T28⟩
                  replace B := B.trans (T28.below_ (Nat.le_refl _) B.size); replace H := T28.hc
                  clear T28
                  clear h3 hx3 hcell
                  go_wp2_with ((go_at_call 18; fail))
                  refine (load_of OK' H _ _ _ (by decide) (by decide) LA).mono ?_
                  rintro e wr29 ⟨rfl, hr29⟩
                  replace H := HW.below H hr29 H.lt; replace B := B.trans (hr29.mono B.size)
                  clear hr29
                  go_wp2_with ((go_at_call 18; fail))
                  refine (load_of OK' H _ _ _ (by decide) (by decide) LB).mono ?_
                  rintro e wr30 ⟨rfl, hr30⟩
                  replace H := HW.below H hr30 H.lt; replace B := B.trans (hr30.mono B.size)
                  clear hr30
                  have xc : ∀ x_ : WX wr30, x_.w.cell? ⟨sb, so + n, none⟩ = some (U x) := fun x_ => x_.cell ((B.cell (p := ⟨sb, so + n, none⟩) hxl).trans HX.out)
                  have f1 : x.tmod 2 = 1 := by rw [Int.tmod_eq_emod_of_nonneg x0]; exact hf
                  have f2 : IntKind.u32.wrap (x.tdiv 2) = hh := by rw [Int.tdiv_eq_ediv_of_nonneg x0, IntKind.wrap_u32]; omega
                  have f3 : x.tdiv 2 = hh := by rw [Int.tdiv_eq_ediv_of_nonneg x0]; exact hhh
                  have f4 : hh.tmod 2 = gg := by rw [Int.tmod_eq_emod_of_nonneg hh0]; exact hgg
                  have f5 : IntKind.u32.wrap hh = hh := by rw [IntKind.wrap_u32]; omega
                  have f6 : IntKind.u32.wrap gg = gg := by rw [IntKind.wrap_u32]; omega
                  have BB := Lib.hid B
                  have HHH := Lib.hid H
                  clear B H hf hhh hgg
                  go_upto_region 19 with fail
                  refine wp_region_grown (by kernel_rfl) (by kernel_rfl) ?_
                  repeat (go_big_quiet_step (fail))
                  refine wpQuiet_nil ?_
                  intro wq hbq
                  clear xc f1 f2 f3 f4 f5 f6
                  have H := HHH.out.below hbq HHH.out.lt
                  have B := BB.out.trans (hbq.mono BB.out.size)
                  go_wp2_with ((go_at_call 16; fail))
                  refine (enabled_of H true HE).mono ?_
                  rintro e wr31 ⟨rfl, hr31⟩
                  replace H := HW.below H hr31 H.lt; replace B := B.trans (hr31.mono B.size)
                  clear hr31
                  go_wp2_with ((go_at_call 17; fail))
                  refine (locked_of H (gg == 1) HL).mono ?_
                  rintro e wr32 ⟨rfl, hr32⟩
                  replace H := HW.below H hr32 H.lt; replace B := B.trans (hr32.mono B.size)
                  clear hr32
                  go_wp2_with (go_at_call 12; refine (fault_of H 0 FT).mono ?_; rintro e wr33 ⟨rfl, hr33⟩)
                  all_goals
                    go_roundg (20 - (n + 1))
                    case measure => have := hK.out; omega
                    case rel => exact ⟨n + 1, s', by go_num, by rw [HE.out] <;> simp [*], by rw [HL.out] <;> simp [*], by omega, by omega, rfl, ST.out, HW.below H hr33 H.lt, B.trans (hr33.mono B.size)⟩
            · obtain ⟨he, hl⟩ := hsame (Or.inr rfl)
              dsimp only at he hl
              have HE := Lib.hid he
              have HL := Lib.hid hl
              clear he hl hsame hnew
              go_wp2_with ((go_at_call 9; fail))
              refine (store_of OK H _ _ _ _ (by decide) (by decide) x0 x1 hv).mono ?_
              rintro e wr34 ⟨rfl, T34⟩
              replace B := B.trans (T34.below_ (Nat.le_refl _) B.size); replace H := T34.hc
              clear T34
              clear h3 hx3 hcell
              go_wp2_with ((go_at_call 18; fail))
              refine (load_of OK' H _ _ _ (by decide) (by decide) LA).mono ?_
              rintro e wr35 ⟨rfl, hr35⟩
              replace H := HW.below H hr35 H.lt; replace B := B.trans (hr35.mono B.size)
              clear hr35
              go_wp2_with ((go_at_call 18; fail))
              refine (load_of OK' H _ _ _ (by decide) (by decide) LB).mono ?_
              rintro e wr36 ⟨rfl, hr36⟩
              replace H := HW.below H hr36 H.lt; replace B := B.trans (hr36.mono B.size)
              clear hr36
              go_wp2_with ((go_at_call 16; fail))
              refine (enabled_of H en HE).mono ?_
              rintro e wr37 ⟨rfl, hr37⟩
              replace H := HW.below H hr37 H.lt; replace B := B.trans (hr37.mono B.size)
              clear hr37
              go_wp2_with ((go_at_call 17; fail))
              refine (locked_of H true HL).mono ?_
              rintro e wr38 ⟨rfl, hr38⟩
              replace H := HW.below H hr38 H.lt; replace B := B.trans (hr38.mono B.size)
              clear hr38
              go_wp2_with (go_at_call 12; refine (fault_of H 0 FT).mono ?_; rintro e wr39 ⟨rfl, hr39⟩)
              all_goals
                go_roundg (20 - (n + 1))
                case measure => have := hK.out; omega
                case rel => exact ⟨n + 1, s', by go_num, by rw [HE.out] <;> simp [*], by rw [HL.out] <;> simp [*], by omega, by omega, rfl, ST.out, HW.below H hr39 H.lt, B.trans (hr39.mono B.size)⟩
          · obtain ⟨s', ee, hv⟩ : ∃ s' ee, Hid (WS.storeB ⟨en, lk, ar, shut, all, since, fault⟩ 4 x = (s', ee)) := ⟨_, _, Lib.hid rfl⟩
            obtain ⟨rfl, st, hsame, hnew⟩ := lock_stay hst 4 x x0 x1 (by decide) s' ee hv
            have LA := load4 s'
            have LB := load8 s'
            obtain ⟨he, hl⟩ := hsame (Or.inl (by decide))
            dsimp only at he hl
            have HE := Lib.hid he
            have HL := Lib.hid hl
            clear he hl hsame hnew
            have OK := hst.1
            have ST := Lib.hid st
            have FT : Hid (s'.fault = 0) := Lib.hid st.2.1
            have OK' := st.1
            clear hst st
            go_wp2_with ((go_at_call 9; fail))
            refine (store_of OK H _ _ _ _ (by decide) (by decide) x0 x1 hv).mono ?_
            rintro e wr40 ⟨rfl, T40⟩
            replace B := B.trans (T40.below_ (Nat.le_refl _) B.size); replace H := T40.hc
            clear T40
            clear h3 hx3 hcell
            go_wp2_with ((go_at_call 18; fail))
            refine (load_of OK' H _ _ _ (by decide) (by decide) LA).mono ?_
            rintro e wr41 ⟨rfl, hr41⟩
            replace H := HW.below H hr41 H.lt; replace B := B.trans (hr41.mono B.size)
            clear hr41
            go_wp2_with ((go_at_call 18; fail))
            refine (load_of OK' H _ _ _ (by decide) (by decide) LB).mono ?_
            rintro e wr42 ⟨rfl, hr42⟩
            replace H := HW.below H hr42 H.lt; replace B := B.trans (hr42.mono B.size)
            clear hr42
            go_wp2_with ((go_at_call 16; fail))
            refine (enabled_of H en HE).mono ?_
            rintro e wr43 ⟨rfl, hr43⟩
            replace H := HW.below H hr43 H.lt; replace B := B.trans (hr43.mono B.size)
            clear hr43
            go_wp2_with ((go_at_call 17; fail))
            refine (locked_of H lk HL).mono ?_
            rintro e wr44 ⟨rfl, hr44⟩
            replace H := HW.below H hr44 H.lt; replace B := B.trans (hr44.mono B.size)
            clear hr44
            go_wp2_with (go_at_call 12; refine (fault_of H 0 FT).mono ?_; rintro e wr45 ⟨rfl, hr45⟩)
            all_goals
              go_roundg (20 - (n + 1))
              case measure => have := hK.out; omega
              case rel => exact ⟨n + 1, s', by go_num, by rw [HE.out] <;> simp [*], by rw [HL.out] <;> simp [*], by omega, by omega, rfl, ST.out, HW.below H hr45 H.lt, B.trans (hr45.mono B.size)⟩
          · obtain ⟨s', ee, hv⟩ : ∃ s' ee, Hid (WS.storeB ⟨en, lk, ar, shut, all, since, fault⟩ 8 x = (s', ee)) := ⟨_, _, Lib.hid rfl⟩
            obtain ⟨rfl, st, hsame, hnew⟩ := lock_stay hst 8 x x0 x1 (by decide) s' ee hv
            have LA := load4 s'
            have LB := load8 s'
            obtain ⟨he, hl⟩ := hsame (Or.inl (by decide))
            dsimp only at he hl
            have HE := Lib.hid he
            have HL := Lib.hid hl
            clear he hl hsame hnew
            have OK := hst.1
            have ST := Lib.hid st
            have FT : Hid (s'.fault = 0) := Lib.hid st.2.1
            have OK' := st.1
            clear hst st
            go_wp2_with ((go_at_call 9; fail))
            refine (store_of OK H _ _ _ _ (by decide) (by decide) x0 x1 hv).mono ?_
            rintro e wr46 ⟨rfl, T46⟩
            replace B := B.trans (T46.below_ (Nat.le_refl _) B.size); replace H := T46.hc
            clear T46
            clear h3 hx3 hcell
            go_wp2_with ((go_at_call 18; fail))
            refine (load_of OK' H _ _ _ (by decide) (by decide) LA).mono ?_
            rintro e wr47 ⟨rfl, hr47⟩
            replace H := HW.below H hr47 H.lt; replace B := B.trans (hr47.mono B.size)
            clear hr47
            go_wp2_with ((go_at_call 18; fail))
            refine (load_of OK' H _ _ _ (by decide) (by decide) LB).mono ?_
            rintro e wr48 ⟨rfl, hr48⟩
            replace H := HW.below H hr48 H.lt; replace B := B.trans (hr48.mono B.size)
            clear hr48
            go_wp2_with ((go_at_call 16; fail))
            refine (enabled_of H en HE).mono ?_
            rintro e wr49 ⟨rfl, hr49⟩
            replace H := HW.below H hr49 H.lt; replace B := B.trans (hr49.mono B.size)
            clear hr49
            go_wp2_with ((go_at_call 17; fail))
            refine (locked_of H lk HL).mono ?_
            rintro e wr50 ⟨rfl, hr50⟩
            replace H := HW.below H hr50 H.lt; replace B := B.trans (hr50.mono B.size)
            clear hr50
            go_wp2_with (go_at_call 12; refine (fault_of H 0 FT).mono ?_; rintro e wr51 ⟨rfl, hr51⟩)
            all_goals
              go_roundg (20 - (n + 1))
              case measure => have := hK.out; omega
              case rel => exact ⟨n + 1, s', by go_num, by rw [HE.out] <;> simp [*], by rw [HL.out] <;> simp [*], by omega, by omega, rfl, ST.out, HW.below H hr51 H.lt, B.trans (hr51.mono B.size)⟩
        · have hd1 : decide ((n : Int) < (len : Int)) = true := by simp; omega
          have hd2 : decide ((n : Int) < 20) = false := by simp; omega
          have BB := Lib.hid B
          clear hst H B
          go_wp2_with (go_at_call 11; refine (known_any _).mono ?_; rintro e wk ⟨rfl, hbk⟩)
          go_ret
          exact ⟨rfl, BB.out.trans (hbk.mono BB.out.size)⟩
      · have hd1 : decide ((n : Int) < (len : Int)) = false := by simp; omega
        have BB := Lib.hid B
        clear hst H B
        go_wp2_with (go_at_call 11; refine (known_any _).mono ?_; rintro e wk ⟨rfl, hbk⟩)
        go_ret
        exact ⟨rfl, BB.out.trans (hbk.mono BB.out.size)⟩
end Go.Proofs.Ytndndlegefhafaa
