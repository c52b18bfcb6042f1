/- Lemmas for the laws of chapter 30 (civil): contracts of functions of the program, each under the premises that its own statement shows. -/
import Derived.Test.YtajjibfipkijfaaF1
set_option linter.unusedSimpArgs false
set_option linter.unusedVariables false
namespace Go.Proofs.Ytajjibfipkijfaa
open Go.RowKit

theorem wrap_u64_bd (a : Int) : 0 ≤ IntKind.u64.wrap a ∧ IntKind.u64.wrap a ≤ 18446744073709551615 := by
  rw [IntKind.wrap_u64]; omega

def RelD (w : World) (y : Int) (k : Nat) (a b : Value) (wr : World) : Prop :=
  ∃ v : Int, 1 ≤ v ∧ v ≤ 13 ∧ (13 - v).toNat = k ∧ a = I (cumB y v) ∧ b = I v ∧ Below w.heap.size w wr

theorem right_first (y m : Int) (hy : 1970 ≤ y) (hy2 : y ≤ 9999) (h1 : 1 ≤ m) (h2 : m ≤ 12) : rightB y m 1 0 0 0 = true := by
  have := days_bd y m (by omega) h1 h2
  simp [rightB, withinB]; omega
theorem days_dec (y : Int) (hy : 1970 ≤ y) : daysB y 12 = 31 := by unfold daysB; rw [if_neg (by omega), if_neg (by decide), if_neg (by decide)]
theorem right_dec (y : Int) (hy : 1970 ≤ y) (hy2 : y ≤ 9999) : rightB y 12 31 0 0 0 = true := by
  have := days_dec y hy
  simp [rightB, withinB, this]; omega

theorem sec_at (y m d h i s : Int) (hr : rightB y m d h i s = true) (S : Int) (hS : secB y m d h i s = S) (w : World) :
    Calls Try.prog 9 #[.agg #[I y, I m, I d, I h, I i, I s]] w fun e w' => e = .returned (.tuple #[.int .u64 S, .int .i64 0]) ∧ Below w.heap.size w w' := by
  subst hS; exact sec_yes y m d h i s hr w

set_option maxHeartbeats 4000000 in
theorem months_walk (a0 : Int) (a1 : Int) (_w0 : (Lit.int .i64 a0).wf = true) (_w1 : (Lit.int .i64 a1).wf = true) (w : World) :
    Calls Try.prog 5 #[.int .i64 a0, .int .i64 a1] w fun e w' => e = .returned (.bool true) ∧ Below w.heap.size w w' := by
  obtain ⟨u0, u1⟩ := wrap_u64_bd a0
  obtain ⟨v0, v1⟩ := wrap_u64_bd a1
  generalize hA : IntKind.u64.wrap a0 = A at *
  generalize hB : IntKind.u64.wrap a1 = B at *
  obtain ⟨y, hy⟩ : ∃ y, 1970 + A % 8030 = y := ⟨_, rfl⟩
  obtain ⟨m, hm⟩ : ∃ m, 1 + B % 11 = m := ⟨_, rfl⟩
  have y0 : 1970 ≤ y := by omega
  have y1 : y ≤ 9999 := by omega
  have m0 : 1 ≤ m := by omega
  have m1 : m ≤ 11 := by omega
  go_enter Try.func5, Try.ntmps5
  go_wp2_with fail
  go_loopg [5, 6] (12) (fun k a b wr => RelD w y k a b wr)
  case atStart => exact ⟨1, by omega, by omega, rfl, by rw [cum_1], rfl, Below.refl _ _⟩
  case round =>
    obtain ⟨v, hv0, hv1, hvk, rfl, rfl, hb⟩ := hrel
    have hcl := cum_1 y
    have hcm := cum_mono y 1 v (by omega) (by omega) hv0 (by omega)
    have hcM := cum_mono y v 13 (by omega) hv0 (by omega) (by omega)
    rw [cum_13, lenB_eq] at hcM
    have hlp := leapI_bd y
    rw [hcl] at hcm
    clear hcl
    by_cases hlt : v ≤ 12
    · have hcs := cum_succ y v (by omega) hv0 hlt
      have hdb := days_bd y v (by omega) hv0 hlt
      have H := Lib.hid hcs; clear hcs hA hB hy hm
      go_wp2_with (go_at_call 16; refine (days_any _ _ _).mono ?_; rintro e w2 ⟨rfl, hb2⟩)
      go_roundg (13 - (v + 1)).toNat
      case measure => omega
      case rel => exact ⟨v + 1, by omega, by omega, rfl, by rw [H.out]; first | done | go_num, rfl, hb.trans (hb2.mono hb.size)⟩
    · obtain rfl : v = 13 := by omega
      have e13 := cum_13 y
      rw [e13]
      clear hA hB hy hm hcm hcM hlt hv0 hv1 hvk
      -- the four times
      have hs0 : ∀ q d, secB y q d 0 0 0 = (aheadB y + d - 1 + cumB y q) * 86400 := fun q d => by unfold secB; omega
      obtain ⟨P, hP⟩ : ∃ P, aheadB y + cumB y m = P := ⟨_, rfl⟩
      have sA : secB y m 1 0 0 0 = P * 86400 := by rw [hs0]; omega
      have sB : secB y (m + 1) 1 0 0 0 = (P + daysB y m) * 86400 := by rw [hs0, cum_succ y m (by omega) m0 (by omega)]; omega
      have sC : secB y 1 1 0 0 0 = aheadB y * 86400 := by rw [hs0, cum_1]; omega
      have sD : secB y 12 31 0 0 0 = (aheadB y + (lenB y - 1)) * 86400 := by
        have h1 := cum_succ y 12 (by omega) (by omega) (by omega)
        rw [show (12 : Int) + 1 = 13 by rfl, e13, days_dec y y0] at h1
        rw [hs0]; omega
      have hah : 0 ≤ aheadB y ∧ aheadB y ≤ 3000000 := by unfold aheadB; omega
      have hdm := days_bd y m (by omega) m0 (by omega)
      have hPb : 0 ≤ P ∧ P ≤ 3000400 := by
        have a := cum_mono y 1 m (by omega) (by omega) m0 (by omega)
        have b := cum_mono y m 13 (by omega) m0 (by omega) (by omega)
        rw [cum_1] at a; rw [e13, lenB_eq] at b; omega
      have HsA := Lib.hid sA; have HsB := Lib.hid sB; have HsC := Lib.hid sC; have HsD := Lib.hid sD
      clear sA sB sC sD hs0 hP e13
      cases hL : leapB y
      · have hll : lenB y = 365 := by simp [lenB, hL]
        rw [hll] at HsD
        go_wp2_with (first | (go_at_call 14; refine (leap_any _ _).mono ?_; rintro e w2 ⟨rfl, rfl⟩) | (go_at_call 9; fail))
        refine (sec_at _ _ _ _ _ _ (right_first y m y0 y1 m0 (by omega)) _ HsA.out _).mono ?_
        rintro e w2 ⟨rfl, hb2⟩
        go_wp2_with ((go_at_call 9; fail))
        refine (sec_at _ _ _ _ _ _ (right_first y (m + 1) y0 y1 (by omega) (by omega)) _ HsB.out _).mono ?_
        rintro e w3 ⟨rfl, hb3⟩
        go_wp2_with ((go_at_call 9; fail))
        refine (sec_at _ _ _ _ _ _ (right_first y 1 y0 y1 (by omega) (by omega)) _ HsC.out _).mono ?_
        rintro e w4 ⟨rfl, hb4⟩
        go_wp2_with ((go_at_call 9; fail))
        refine (sec_at _ _ _ _ _ _ (right_dec y y0 y1) _ HsD.out _).mono ?_
        rintro e w5 ⟨rfl, hb5⟩
        have hb5' := (((hb.trans (hb2.mono hb.size)).trans (hb3.mono (Nat.le_trans hb.size hb2.size))).trans (hb4.mono (Nat.le_trans (Nat.le_trans hb.size hb2.size) hb3.size))).trans (hb5.mono (Nat.le_trans (Nat.le_trans (Nat.le_trans hb.size hb2.size) hb3.size) hb4.size))
        go_wp2_with (first | (go_at_call 19; refine (known_any _).mono ?_; rintro e w6 ⟨rfl, hb6⟩) | (go_at_call 16; refine (days_any _ _ _).mono ?_; rintro e w7 ⟨rfl, hb7⟩))
        go_ret
        have hb6' := hb5'.trans (hb6.mono hb5'.size)
        exact ⟨ret_bool (by rw [beq_iff_eq]; omega), hb6'.trans (hb7.mono hb6'.size)⟩
      · have hll : lenB y = 366 := by simp [lenB, hL]
        rw [hll] at HsD
        go_wp2_with (first | (go_at_call 14; refine (leap_any _ _).mono ?_; rintro e w2 ⟨rfl, rfl⟩) | (go_at_call 9; fail))
        refine (sec_at _ _ _ _ _ _ (right_first y m y0 y1 m0 (by omega)) _ HsA.out _).mono ?_
        rintro e w2 ⟨rfl, hb2⟩
        go_wp2_with ((go_at_call 9; fail))
        refine (sec_at _ _ _ _ _ _ (right_first y (m + 1) y0 y1 (by omega) (by omega)) _ HsB.out _).mono ?_
        rintro e w3 ⟨rfl, hb3⟩
        go_wp2_with ((go_at_call 9; fail))
        refine (sec_at _ _ _ _ _ _ (right_first y 1 y0 y1 (by omega) (by omega)) _ HsC.out _).mono ?_
        rintro e w4 ⟨rfl, hb4⟩
        go_wp2_with ((go_at_call 9; fail))
        refine (sec_at _ _ _ _ _ _ (right_dec y y0 y1) _ HsD.out _).mono ?_
        rintro e w5 ⟨rfl, hb5⟩
        have hb5' := (((hb.trans (hb2.mono hb.size)).trans (hb3.mono (Nat.le_trans hb.size hb2.size))).trans (hb4.mono (Nat.le_trans (Nat.le_trans hb.size hb2.size) hb3.size))).trans (hb5.mono (Nat.le_trans (Nat.le_trans (Nat.le_trans hb.size hb2.size) hb3.size) hb4.size))
        go_wp2_with (first | (go_at_call 19; refine (known_any _).mono ?_; rintro e w6 ⟨rfl, hb6⟩) | (go_at_call 16; refine (days_any _ _ _).mono ?_; rintro e w7 ⟨rfl, hb7⟩))
        go_ret
        have hb6' := hb5'.trans (hb6.mono hb5'.size)
        exact ⟨ret_bool (by rw [beq_iff_eq]; omega), hb6'.trans (hb7.mono hb6'.size)⟩
end Go.Proofs.Ytajjibfipkijfaa
