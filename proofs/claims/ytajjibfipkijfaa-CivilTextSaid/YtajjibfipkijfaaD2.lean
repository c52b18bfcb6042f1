/- Lemmas for the laws of chapter 30 (civil): contracts of functions of the program, each under the premises that its own statement shows. -/
import Derived.Test.YtajjibfipkijfaaD1
import Derived.Test.YtajjibfipkijfaaC3
set_option linter.unusedSimpArgs false
set_option linter.unusedVariables false
namespace Go.Proofs.Ytajjibfipkijfaa
open Go.RowKit

theorem rsec_no (y m d h i s : Int) (hr : rightB y m d h i s = false) (w : World) :
    Calls Try.prog 10 #[.agg #[I y, I m, I d, I h, I i, I s]] w fun e w' => e = .returned (.tuple #[.int .u64 0, .int .i64 5]) ∧ Below w.heap.size w w' := by
  go_enter Try.func10, Try.ntmps10
  go_wp2_with (go_at_call 13; refine (rright_any _ _ _ _ _ _ _).mono ?_; rintro e w2 ⟨rfl, hb2⟩)
  go_ret2
  exact ⟨rfl, ((Below.refl _ _).alloc (Nat.le_refl _) _).trans (hb2.mono (by simp))⟩

def RelY (w0 : World) (y : Int) (k : Nat) (a b : Value) (wr : World) : Prop := w0 = wr ∧ ∃ v : Int, 1970 ≤ v ∧ v ≤ y ∧ (y - v).toNat = k ∧ a = I (aheadB v) ∧ b = I v
def RelM (w0 : World) (y m : Int) (k : Nat) (a b : Value) (wr : World) : Prop := w0 = wr ∧ ∃ v : Int, 1 ≤ v ∧ v ≤ m ∧ (m - v).toNat = k ∧ a = I (aheadB y + cumB y v) ∧ b = I v

theorem secB_r (y m d h i s : Int) : (aheadB y + cumB y m + d - 1) * 86400 + (3600 * h + 60 * i + s) = secB y m d h i s := by unfold secB; omega

set_option maxHeartbeats 4000000 in
theorem rsec_yes (y m d h i s : Int) (hr : rightB y m d h i s = true) (w : World) :
    Calls Try.prog 10 #[.agg #[I y, I m, I d, I h, I i, I s]] w fun e w' => e = .returned (.tuple #[.int .u64 (secB y m d h i s), .int .i64 0]) ∧ Below w.heap.size w w' := by
  obtain ⟨y0, y1, m0, m1, d0, d1, h0, h1, i0, i1, s0, s1⟩ := right_m hr
  have hah : 0 ≤ aheadB y ∧ aheadB y ≤ 3000000 := by unfold aheadB; omega
  have hdm := days_bd y m (by omega) m0 m1
  have hB := Blk.new w #[I y, I m, I d, I h, I i, I s] 29
  rw [← secB_r]
  go_enter Try.func10, Try.ntmps10
  go_wp2_with (go_at_call 13; refine (rright_any _ _ _ _ _ _ _).mono ?_; rintro e w2 ⟨rfl, hb2⟩; have hB2 := hB.below hb2 hB.lt)
  have cc0 := hB2.cell 0 rfl
  have cc1 := hB2.cell 1 rfl
  have cc2 := hB2.cell 2 rfl
  have cc3 := hB2.cell 3 rfl
  have cc4 := hB2.cell 4 rfl
  have cc5 := hB2.cell 5 rfl
  have hb : Below w.heap.size w w2 := ((Below.refl _ _).alloc (Nat.le_refl _) _).trans (hb2.mono (by simp))
  clear hB hB2 hb2
  go_loopg [4, 5] ((y - 1970).toNat) (fun k a b wr => RelY w2 y k a b wr)
  case atStart => exact ⟨rfl, 1970, by omega, y0, rfl, by rw [ahead_1970], rfl⟩
  case round =>
    obtain ⟨rfl, v, hv0, hvy, hvk, rfl, rfl⟩ := hrel
    have hav : 0 ≤ aheadB v ∧ aheadB v ≤ 3000000 := by unfold aheadB; omega
    by_cases hlt : v + 400 ≤ y
    · have h4 := ahead_400 v
      have H4 := Lib.hid h4; clear h4
      go_wp2
      go_roundg (y - (v + 400)).toNat
      case measure => omega
      case rel => exact ⟨rfl, v + 400, by omega, by omega, rfl, by first | (rw [H4.out]; done) | (rw [H4.out]; go_num), rfl⟩
    · go_wp2_with fail
      go_loopg [4, 5] ((y - v).toNat) (fun k a b wr => RelY w2 y k a b wr)
      case atStart => exact ⟨rfl, v, by omega, hvy, rfl, rfl, rfl⟩
      case round =>
        clear hlt hav hvk hvy hv0
        obtain ⟨rfl, v, hv0, hvy, hvk, rfl, rfl⟩ := hrel
        have hav : 0 ≤ aheadB v ∧ aheadB v ≤ 3000000 := by unfold aheadB; omega
        by_cases hlt : v < y
        · have hs := ahead_succ v (by omega)
          have HS := Lib.hid hs; clear hs
          cases hL : leapB v
          · have hll : lenB v = 365 := by simp [lenB, hL]
            rw [hll] at HS
            clear hll
            go_wp2_with (go_at_call 15; refine (rleap_any _ _).mono ?_; rintro e w3 ⟨rfl, rfl⟩)
            go_roundg (y - (v + 1)).toNat
            case measure => omega
            case rel => exact ⟨rfl, v + 1, by omega, by omega, rfl, by first | (rw [HS.out]; done) | (rw [HS.out]; go_num), rfl⟩
          · have hll : lenB v = 366 := by simp [lenB, hL]
            rw [hll] at HS
            clear hll
            go_wp2_with (go_at_call 15; refine (rleap_any _ _).mono ?_; rintro e w3 ⟨rfl, rfl⟩)
            go_roundg (y - (v + 1)).toNat
            case measure => omega
            case rel => exact ⟨rfl, v + 1, by omega, by omega, rfl, by first | (rw [HS.out]; done) | (rw [HS.out]; go_num), rfl⟩
        · obtain rfl : v = y := by omega
          go_wp2_with fail
          go_loopg [4, 6] ((m - 1).toNat) (fun k a b wr => RelM w2 v m k a b wr)
          case atStart => exact ⟨rfl, 1, by omega, m0, rfl, by rw [cum_1]; go_num, rfl⟩
          case round =>
            obtain ⟨rfl, q, hq0, hqm, hqk, rfl, rfl⟩ := hrel
            have hcl := cum_1 v
            have hcs := cum_succ v q (by omega) hq0 (by omega)
            have hdb := days_bd v q (by omega) hq0 (by omega)
            have hcm := cum_mono v 1 q (by omega) (by omega) hq0 (by omega)
            have hcM := cum_mono v q 13 (by omega) hq0 (by omega) (by omega)
            rw [cum_13, lenB_eq] at hcM
            have hlp := leapI_bd v
            rw [hcl] at hcm
            clear hcl
            have H := Lib.hid hcs; clear hcs
            by_cases hlt2 : q < m
            · go_wp2_with (go_at_call 17; refine (rdays_any _ _ _).mono ?_; rintro e w3 ⟨rfl, rfl⟩)
              go_roundg (m - (q + 1)).toNat
              case measure => omega
              case rel => exact ⟨rfl, q + 1, by omega, by omega, rfl, by first | (rw [H.out]; done) | (rw [H.out]; go_num), rfl⟩
            · obtain rfl : q = m := by omega
              go_wp2
              go_ret2
              exact ⟨rfl, hb⟩
end Go.Proofs.Ytajjibfipkijfaa
