/- The walk of the law WdogLocks, continued. Its conditions: those that its statement shows. -/
import Derived.Test.YtndndlegefhafaaT5
import Derived.Test.YtndndlegefhafaaO2
namespace Go.Proofs.Ytndndlegefhafaa
open Go.RowKit
set_option linter.unusedVariables false
set_option linter.unusedSimpArgs false

set_option maxRecDepth 100000 in
set_option maxHeartbeats 8000000 in
theorem locks_true (w : World) (closed total : Int) (A : Option Addr) (len cap : Nat) (c0 : 0 ≤ closed) (c1 : closed ≤ 4294967295) (t0 : 0 ≤ total) (t1 : total ≤ 4294967295) (hlen : len ≤ maxLen) (hn : Nums .u32 4294967295 w A len) :
    Calls Try.prog 4 #[U closed, U total, .bool true, .slice A len cap] w fun e w' => e = .returned (.bool true) ∧ Below w.heap.size w w' := by
  unfold maxLen at hlen
  obtain ⟨q, hq⟩ : ∃ q, total % 100000 = q := ⟨_, rfl⟩
  obtain ⟨T, hT⟩ : ∃ T, 2 + q = T := ⟨_, rfl⟩
  have q0 : 0 ≤ q := by omega
  have q1 : q ≤ 99999 := by omega
  have T0 : 2 ≤ T := by omega
  have T1 : T ≤ 100001 := by omega
  obtain ⟨C, hC⟩ : ∃ C, closed % T = C := ⟨_, rfl⟩
  have C0 : 0 ≤ C := by rw [← hC]; exact Int.emod_nonneg _ (by omega)
  have CT : C < T := by rw [← hC]; exact Int.emod_lt_of_pos _ (by omega)
  have hq' : total.tmod 100000 = q := by rw [Int.tmod_eq_emod_of_nonneg t0]; exact hq
  have hC' : closed.tmod T = C := by rw [Int.tmod_eq_emod_of_nonneg c0]; exact hC
  have hTz : ¬ T = 0 := by omega
  have hTb : (T == 0) = false := by simp; omega
  have e1 : Hid (WS.zero.storeB 4 C = (⟨false, false, false, C, 0, 0, 0⟩, 0)) := Lib.hid rfl
  have o1 := ok_store WS.zero_ok C0 (by omega) e1
  have e2 : Hid (WS.storeB ⟨false, false, false, C, 0, 0, 0⟩ 8 T = (⟨false, false, false, C, T, 0, 0⟩, 0)) := Lib.hid rfl
  have o2 := ok_store o1 (by omega) (by omega) e2
  have oZ := locks_ok true C T C0 CT (by omega)
  have HN := Lib.hid hn
  clear hn hq hC
  · have e3 : Hid (WS.storeB ⟨false, false, false, C, T, 0, 0⟩ 0 3 = (⟨true, true, false, C, T, 0, 0⟩, 0)) := Lib.hid (by simp [WS.storeB, WS.ctlB, CT])
    have OZ := Lib.hid oZ
    clear oZ
    go_enter Try.func4, Try.ntmps4
    go_wp2_with ((go_at_call 8; fail))
    clear hq' hC' hT hTz hTb
    refine (new_any _).mono ?_
    rintro e w1 ⟨rfl, hw1⟩
    have H : HW w1 w.heap.size WS.zero := by rw [← hw1]; exact Blk.new _ _ _
    have B : Below w.heap.size w w1 := by rw [← hw1]; exact (Below.refl _ _).alloc (Nat.le_refl _) _
    clear hw1
    go_wp2_with ((go_at_call 9; fail))
    refine (store_of WS.zero_ok H _ _ _ _ (by decide) (by decide) C0 (by omega) e1).mono ?_
    rintro e wr52 ⟨rfl, T52⟩
    replace B := B.trans (T52.below_ (Nat.le_refl _) B.size); replace H := T52.hc
    clear T52
    go_wp2_with ((go_at_call 9; fail))
    refine (store_of o1 H _ _ _ _ (by decide) (by decide) (by omega) (by omega) e2).mono ?_
    rintro e wr53 ⟨rfl, T53⟩
    replace B := B.trans (T53.below_ (Nat.le_refl _) B.size); replace H := T53.hc
    clear T53
    go_wp2_with ((go_at_call 9; fail))
    refine (store_of o2 H _ _ _ _ (by decide) (by decide) (by decide) (by decide) e3).mono ?_
    rintro e wr54 ⟨rfl, T54⟩
    replace B := B.trans (T54.below_ (Nat.le_refl _) B.size); replace H := T54.hc
    clear T54
    clear e1 e2 e3
    have HH := Lib.hid H
    have BB := Lib.hid B
    clear H B
    go_wp2_with fail
    go_loopg [11, 12, 13] 20 (fun k ve vl i wr => LockRel w true C T len k ve vl i wr)
    case atStart => exact ⟨0, _, rfl, rfl, rfl, by omega, by omega, rfl, OZ.out, HH.out, BB.out⟩
    case round =>
      clear HH BB OZ
      obtain ⟨n, ⟨en, lk, ar, shut, all, since, fault⟩, rfl, rfl, rfl, hn, hnl, hk, hst, H, B⟩ := hrel
      have hK := Lib.hid hk
      clear hk
      by_cases hlt : n < len
      · by_cases h20 : n < 20
        · have hd1 : decide ((n : Int) < (len : Int)) = true := by simp; omega
          have hd2 : decide ((n : Int) < 20) = true := by simp; omega
          obtain ⟨sb, so, x, hA, x0, x1, hx⟩ := HN.out n hlt
          subst hA
          have hxl : sb < w.heap.size := World.block_lt_of_cell? (w := w) (a := ⟨sb, so + n, none⟩) hx
          have HX := Lib.hid hx
          have hcell := (B.cell (p := ⟨sb, so + n, none⟩) hxl).trans hx
          clear hx
          have nn0 : (0 : Int) ≤ (n : Int) := by omega
          have nn1 : (n : Int) < (len : Int) := by omega
          have h3 : x % 3 = 0 ∨ x % 3 = 1 ∨ x % 3 = 2 := by omega
          have hx3 : x.tmod 3 = x % 3 := Int.tmod_eq_emod_of_nonneg x0
          rcases h3 with h3 | h3 | h3
          · obtain ⟨s', ee, hv⟩ : ∃ s' ee, Hid (WS.storeB ⟨en, lk, ar, shut, all, since, fault⟩ 0 x = (s', ee)) := ⟨_, _, Lib.hid rfl⟩
            obtain ⟨rfl, st, hsame, hnew⟩ := lock_stay hst 0 x x0 x1 (by decide) s' ee hv
            obtain ⟨he, hl, hsh, hal⟩ := st.2.2 rfl
            obtain ⟨he0, hl0, _, _⟩ := hst.2.2 rfl
            dsimp only at he0 hl0
            subst he0 hl0
            have LA : Hid (s'.loadB 4 = (C, 0)) := Lib.hid (by rw [← hsh]; rfl)
            have LB : Hid (s'.loadB 8 = (T, 0)) := Lib.hid (by rw [← hal]; rfl)
            have HE := Lib.hid he
            have HL := Lib.hid hl
            have aa : (C == C) = true := by simp
            have bb : (T == T) = true := by simp
            clear he hl hsh hal hsame hnew
            have cnt : (n = 0) ∨ (0 < n) := by omega
            have OK := hst.1
            have ST := Lib.hid st
            have FT : Hid (s'.fault = 0) := Lib.hid st.2.1
            have OK' := st.1
            clear hst st
            go_wp2_with ((go_at_call 9; fail))
            refine (store_of OK H _ _ _ _ (by decide) (by decide) x0 x1 hv).mono ?_
            rintro e wr55 ⟨rfl, T55⟩
            replace B := B.trans (T55.below_ (Nat.le_refl _) B.size); replace H := T55.hc
            clear T55
            clear h3 hx3 hcell
            go_wp2_with ((go_at_call 18; fail))
            refine (load_of OK' H _ _ _ (by decide) (by decide) LA).mono ?_
            rintro e wr56 ⟨rfl, hr56⟩
            replace H := HW.below H hr56 H.lt; replace B := B.trans (hr56.mono B.size)
            clear hr56
            go_wp2_with ((go_at_call 18; fail))
            refine (load_of OK' H _ _ _ (by decide) (by decide) LB).mono ?_
            rintro e wr57 ⟨rfl, hr57⟩
            replace H := HW.below H hr57 H.lt; replace B := B.trans (hr57.mono B.size)
            clear hr57
            go_wp2_with ((go_at_call 16; fail))
            refine (enabled_of H true HE).mono ?_
            rintro e wr58 ⟨rfl, hr58⟩
            replace H := HW.below H hr58 H.lt; replace B := B.trans (hr58.mono B.size)
            clear hr58
            go_wp2_with ((go_at_call 17; fail))
            refine (locked_of H true HL).mono ?_
            rintro e wr59 ⟨rfl, hr59⟩
            replace H := HW.below H hr59 H.lt; replace B := B.trans (hr59.mono B.size)
            clear hr59
            go_wp2_with (go_at_call 12; refine (fault_of H 0 FT).mono ?_; rintro e wr60 ⟨rfl, hr60⟩)
            all_goals
              go_roundg (20 - (n + 1))
              case measure => have := hK.out; omega
              case rel => exact ⟨n + 1, s', by go_num, by rw [HE.out] <;> simp [*], by rw [HL.out] <;> simp [*], by omega, by omega, rfl, ST.out, HW.below H hr60 H.lt, B.trans (hr60.mono B.size)⟩
          · obtain ⟨s', ee, hv⟩ : ∃ s' ee, Hid (WS.storeB ⟨en, lk, ar, shut, all, since, fault⟩ 4 x = (s', ee)) := ⟨_, _, Lib.hid rfl⟩
            obtain ⟨rfl, st, hsame, hnew⟩ := lock_stay hst 4 x x0 x1 (by decide) s' ee hv
            obtain ⟨he, hl, hsh, hal⟩ := st.2.2 rfl
            obtain ⟨he0, hl0, _, _⟩ := hst.2.2 rfl
            dsimp only at he0 hl0
            subst he0 hl0
            have LA : Hid (s'.loadB 4 = (C, 0)) := Lib.hid (by rw [← hsh]; rfl)
            have LB : Hid (s'.loadB 8 = (T, 0)) := Lib.hid (by rw [← hal]; rfl)
            have HE := Lib.hid he
            have HL := Lib.hid hl
            have aa : (C == C) = true := by simp
            have bb : (T == T) = true := by simp
            clear he hl hsh hal hsame hnew
            have cnt : (n = 0) ∨ (0 < n) := by omega
            have OK := hst.1
            have ST := Lib.hid st
            have FT : Hid (s'.fault = 0) := Lib.hid st.2.1
            have OK' := st.1
            clear hst st
            go_wp2_with ((go_at_call 9; fail))
            refine (store_of OK H _ _ _ _ (by decide) (by decide) x0 x1 hv).mono ?_
            rintro e wr61 ⟨rfl, T61⟩
            replace B := B.trans (T61.below_ (Nat.le_refl _) B.size); replace H := T61.hc
            clear T61
            clear h3 hx3 hcell
            go_wp2_with ((go_at_call 18; fail))
            refine (load_of OK' H _ _ _ (by decide) (by decide) LA).mono ?_
            rintro e wr62 ⟨rfl, hr62⟩
            replace H := HW.below H hr62 H.lt; replace B := B.trans (hr62.mono B.size)
            clear hr62
            go_wp2_with ((go_at_call 18; fail))
            refine (load_of OK' H _ _ _ (by decide) (by decide) LB).mono ?_
            rintro e wr63 ⟨rfl, hr63⟩
            replace H := HW.below H hr63 H.lt; replace B := B.trans (hr63.mono B.size)
            clear hr63
            go_wp2_with ((go_at_call 16; fail))
            refine (enabled_of H true HE).mono ?_
            rintro e wr64 ⟨rfl, hr64⟩
            replace H := HW.below H hr64 H.lt; replace B := B.trans (hr64.mono B.size)
            clear hr64
            go_wp2_with ((go_at_call 17; fail))
            refine (locked_of H true HL).mono ?_
            rintro e wr65 ⟨rfl, hr65⟩
            replace H := HW.below H hr65 H.lt; replace B := B.trans (hr65.mono B.size)
            clear hr65
            go_wp2_with (go_at_call 12; refine (fault_of H 0 FT).mono ?_; rintro e wr66 ⟨rfl, hr66⟩)
            all_goals
              go_roundg (20 - (n + 1))
              case measure => have := hK.out; omega
              case rel => exact ⟨n + 1, s', by go_num, by rw [HE.out] <;> simp [*], by rw [HL.out] <;> simp [*], by omega, by omega, rfl, ST.out, HW.below H hr66 H.lt, B.trans (hr66.mono B.size)⟩
          · obtain ⟨s', ee, hv⟩ : ∃ s' ee, Hid (WS.storeB ⟨en, lk, ar, shut, all, since, fault⟩ 8 x = (s', ee)) := ⟨_, _, Lib.hid rfl⟩
            obtain ⟨rfl, st, hsame, hnew⟩ := lock_stay hst 8 x x0 x1 (by decide) s' ee hv
            obtain ⟨he, hl, hsh, hal⟩ := st.2.2 rfl
            obtain ⟨he0, hl0, _, _⟩ := hst.2.2 rfl
            dsimp only at he0 hl0
            subst he0 hl0
            have LA : Hid (s'.loadB 4 = (C, 0)) := Lib.hid (by rw [← hsh]; rfl)
            have LB : Hid (s'.loadB 8 = (T, 0)) := Lib.hid (by rw [← hal]; rfl)
            have HE := Lib.hid he
            have HL := Lib.hid hl
            have aa : (C == C) = true := by simp
            have bb : (T == T) = true := by simp
            clear he hl hsh hal hsame hnew
            have cnt : (n = 0) ∨ (0 < n) := by omega
            have OK := hst.1
            have ST := Lib.hid st
            have FT : Hid (s'.fault = 0) := Lib.hid st.2.1
            have OK' := st.1
            clear hst st
            go_wp2_with ((go_at_call 9; fail))
            refine (store_of OK H _ _ _ _ (by decide) (by decide) x0 x1 hv).mono ?_
            rintro e wr67 ⟨rfl, T67⟩
            replace B := B.trans (T67.below_ (Nat.le_refl _) B.size); replace H := T67.hc
            clear T67
            clear h3 hx3 hcell
            go_wp2_with ((go_at_call 18; fail))
            refine (load_of OK' H _ _ _ (by decide) (by decide) LA).mono ?_
            rintro e wr68 ⟨rfl, hr68⟩
            replace H := HW.below H hr68 H.lt; replace B := B.trans (hr68.mono B.size)
            clear hr68
            go_wp2_with ((go_at_call 18; fail))
            refine (load_of OK' H _ _ _ (by decide) (by decide) LB).mono ?_
            rintro e wr69 ⟨rfl, hr69⟩
            replace H := HW.below H hr69 H.lt; replace B := B.trans (hr69.mono B.size)
            clear hr69
            go_wp2_with ((go_at_call 16; fail))
            refine (enabled_of H true HE).mono ?_
            rintro e wr70 ⟨rfl, hr70⟩
            replace H := HW.below H hr70 H.lt; replace B := B.trans (hr70.mono B.size)
            clear hr70
            go_wp2_with ((go_at_call 17; fail))
            refine (locked_of H true HL).mono ?_
            rintro e wr71 ⟨rfl, hr71⟩
            replace H := HW.below H hr71 H.lt; replace B := B.trans (hr71.mono B.size)
            clear hr71
            go_wp2_with (go_at_call 12; refine (fault_of H 0 FT).mono ?_; rintro e wr72 ⟨rfl, hr72⟩)
            all_goals
              go_roundg (20 - (n + 1))
              case measure => have := hK.out; omega
              case rel => exact ⟨n + 1, s', by go_num, by rw [HE.out] <;> simp [*], by rw [HL.out] <;> simp [*], by omega, by omega, rfl, ST.out, HW.below H hr72 H.lt, B.trans (hr72.mono B.size)⟩
        · have hd1 : decide ((n : Int) < (len : Int)) = true := by simp; omega
          have hd2 : decide ((n : Int) < 20) = false := by simp; omega
          have BB := Lib.hid B
          clear hst H B
          go_wp2_with (go_at_call 11; refine (known_any _).mono ?_; rintro e wk ⟨rfl, hbk⟩)
          go_ret
          exact ⟨rfl, BB.out.trans (hbk.mono BB.out.size)⟩
      · have hd1 : decide ((n : Int) < (len : Int)) = false := by simp; omega
        have BB := Lib.hid B
        clear hst H B
        go_wp2_with (go_at_call 11; refine (known_any _).mono ?_; rintro e wk ⟨rfl, hbk⟩)
        go_ret
        exact ⟨rfl, BB.out.trans (hbk.mono BB.out.size)⟩

theorem locks_row (w : World) (closed total : Int) (lock : Bool) (A : Option Addr) (len cap : Nat) (h0 : (Lit.int .u32 closed).wf = true) (h1 : (Lit.int .u32 total).wf = true) (hlen : len ≤ maxLen) (hn : Nums .u32 4294967295 w A len) :
    Calls Try.prog 4 #[U closed, U total, .bool lock, .slice A len cap] w fun e w' => e = .returned (.bool true) ∧ Below w.heap.size w w' := by
  cases lock
  · exact locks_false w closed total A len cap (wf_u32 h0).1 (wf_u32 h0).2 (wf_u32 h1).1 (wf_u32 h1).2 hlen hn
  · exact locks_true w closed total A len cap (wf_u32 h0).1 (wf_u32 h0).2 (wf_u32 h1).1 (wf_u32 h1).2 hlen hn
end Go.Proofs.Ytndndlegefhafaa
