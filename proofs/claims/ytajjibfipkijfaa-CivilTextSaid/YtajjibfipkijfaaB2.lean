/- Lemmas for the laws of chapter 30 (civil): contracts of functions of the program, each under the premises that its own statement shows. -/
import Derived.Test.YtajjibfipkijfaaB1
set_option linter.unusedSimpArgs false
set_option linter.unusedVariables false
namespace Go.Proofs.Ytajjibfipkijfaa
open Go.RowKit

set_option maxHeartbeats 1000000 in
theorem of_no (s : Int) (h1 : 253402300799 < s) (h2 : s ≤ 18446744073709551615) (w : World) :
    Calls Try.prog 7 #[.int .u64 s] w fun e w' => e = .returned (.tuple #[.agg #[I 0, I 0, I 0, I 0, I 0, I 0], .int .i64 5]) ∧ Below w.heap.size w w' := by
  go_enter Try.func7, Try.ntmps7
  go_wp2_with fail
  go_step3
  go_wp2_with fail
  rw [Exit.noGoto_ret]
  exact bodyPost_ret (v := .tuple #[.agg #[I 0, I 0, I 0, I 0, I 0, I 0], .int .i64 5]) (by simp [results, Try.results7, go_sem]) rfl ⟨rfl, (Below.refl _ _).alloc (Nat.le_refl _) _⟩

theorem ahead_400 (y : Int) : aheadB (y + 400) = aheadB y + 146097 := by unfold aheadB; omega

def RelA (n y : Int) (a b : Value) : Prop := ∃ v : Int, 1970 ≤ v ∧ v ≤ y ∧ a = I (n - aheadB v) ∧ b = I v
def RelC (n y m : Int) (w0 : World) (k : Nat) (a b : Value) (wr : World) : Prop := w0 = wr ∧ ∃ v : Int, 1 ≤ v ∧ v ≤ m ∧ (m - v).toNat = k ∧ a = I (n - aheadB y - cumB y v) ∧ b = I v

set_option maxHeartbeats 4000000 in
theorem rof_any (s y m d : Int) (h0 : 0 ≤ s) (h1 : s ≤ 253402300799) (hd : IsDate (s / 86400) y m d) (w : World) :
    Calls Try.prog 8 #[.int .u64 s] w fun e w' => e = .returned (.tuple #[.agg #[I y, I m, I d, I (s % 86400 / 3600), I (s % 86400 / 60 % 60), I (s % 60)], .int .i64 0]) ∧ Below w.heap.size w w' := by
  have h9 := hd.y1
  have hlow := hd.low
  have hhigh := hd.high
  have ha0 := ahead_1970
  go_enter Try.func8, Try.ntmps8
  go_wp2_with fail
  go_loop [4, 5] (fun a b => RelA (s / 86400) y a b) (fun _ b => (y - intOf b).toNat)
  case atStart => exact ⟨1970, by omega, hd.y0, by rw [ha0]; go_num, rfl⟩
  case round =>
    obtain ⟨v, hv0, hvy, rfl, rfl⟩ := hrel
    have hah : 0 ≤ aheadB v ∧ aheadB v ≤ 3000000 := by unfold aheadB; omega
    have hle := ahead_mono v y (by omega) hvy
    by_cases hc : 146097 ≤ s / 86400 - aheadB v
    · have h4 := ahead_400 v
      have hv4 : v + 400 ≤ y := by
        apply Int.not_lt.mp; intro hl
        have := ahead_mono (y + 1) (v + 400) (by omega) (by omega); omega
      have H4 := Lib.hid h4; clear h4
      go_wp2
      go_round
      case rel => first | exact ⟨v + 400, by omega, by omega, by rw [H4.out]; go_num, rfl⟩ | ((repeat apply Exists.intro); exact ⟨⟨v + 400, by omega, by omega, by rw [H4.out]; go_num, rfl⟩, rfl⟩)
      case measure => simp [intOf]; omega
    · clear ha0
      go_wp2_with fail
      go_loop [4, 5] (fun a b => RelA (s / 86400) y a b) (fun _ b => (y - intOf b).toNat)
      case atStart => exact ⟨v, by omega, by omega, rfl, rfl⟩
      case round =>
        clear hc hvy hv0 hah hle
        obtain ⟨v, hv0, hvy, rfl, rfl⟩ := hrel
        have hah : 0 ≤ aheadB v ∧ aheadB v ≤ 3000000 := by unfold aheadB; omega
        have hle := ahead_mono v y (by omega) hvy
        have hs := ahead_succ v (by omega)
        by_cases hlt : v < y
        · have hlt2 : aheadB v + lenB v ≤ s / 86400 := by rw [← hs]; have := ahead_mono (v + 1) y (by omega) (by omega); omega
          have HS := Lib.hid hs; clear hs
          cases hL : leapB v
          · have hll : lenB v = 365 := by simp [lenB, hL]
            rw [hll] at hlt2 HS
            clear hll
            go_wp2_with (go_at_call 15; refine (rleap_any _ _).mono ?_; rintro e w2 ⟨rfl, rfl⟩)
            go_round
            case rel => first | exact ⟨v + 1, by omega, by omega, by rw [HS.out]; go_num, rfl⟩ | ((repeat apply Exists.intro); exact ⟨⟨v + 1, by omega, by omega, by rw [HS.out]; go_num, rfl⟩, rfl⟩)
            case measure => simp [intOf]; omega
          · have hll : lenB v = 366 := by simp [lenB, hL]
            rw [hll] at hlt2 HS
            clear hll
            go_wp2_with (go_at_call 15; refine (rleap_any _ _).mono ?_; rintro e w2 ⟨rfl, rfl⟩)
            go_round
            case rel => first | exact ⟨v + 1, by omega, by omega, by rw [HS.out]; go_num, rfl⟩ | ((repeat apply Exists.intro); exact ⟨⟨v + 1, by omega, by omega, by rw [HS.out]; go_num, rfl⟩, rfl⟩)
            case measure => simp [intOf]; omega
        · obtain rfl : v = y := by omega
          rw [hs] at hhigh
          clear hs
          have hml := hd.mlow
          have hcl := cum_1 v
          have hn := hd.num
          have HN := Lib.hid hn; clear hn
          cases hL : leapB v
          all_goals
            have hll : lenB v = if leapB v then 366 else 365 := rfl
            rw [hL] at hll
            simp only [if_true, Bool.false_eq_true, if_false] at hll
            rw [hll] at hhigh
            have hdec : decide (s / 86400 - aheadB v < lenB v) = true := by rw [hll]; simp; omega
            rw [hll] at hdec
            have HLL := Lib.hid hll; clear hll
            have HCL := Lib.hid hcl; clear hcl
            go_wp2_with (go_at_call 15; refine (rleap_any _ _).mono ?_; rintro e w2 ⟨rfl, rfl⟩)
            go_loopg [4, 6] ((m - 1).toNat) (fun k a b wr => RelC (s / 86400) v m (w.alloc (.cells #[I 0, I 0, I 0, I 0, I 0, I 0] 29)) k a b wr)
            case atStart => exact ⟨rfl, 1, by omega, hd.m0, rfl, by rw [HCL.out]; go_num, rfl⟩
            case round =>
              obtain ⟨rfl, q, hq0, hqm, hqk, rfl, rfl⟩ := hrel
              have hm12 := hd.m1
              have hcs := cum_succ v q (by omega) hq0 (by omega)
              have hdb := days_bd v q (by omega) hq0 (by omega)
              have hcm := cum_mono v 1 q (by omega) (by omega) hq0 (by omega)
              have hcM := cum_mono v q 13 (by omega) hq0 (by omega) (by omega)
              rw [cum_13, HLL.out] at hcM
              rw [HCL.out] at hcm
              by_cases hlt : q < m
              · have hle2 : daysB v q ≤ s / 86400 - aheadB v - cumB v q := by have := cum_mono v (q + 1) m (by omega) (by omega) (by omega) (by omega); omega
                have H := Lib.hid hcs; clear hcs
                go_wp2_with (go_at_call 17; refine (rdays_any _ _ _).mono ?_; rintro e w2 ⟨rfl, rfl⟩)
                go_roundg (m - (q + 1)).toNat
                case measure => omega
                case rel => exact ⟨rfl, q + 1, by omega, by omega, rfl, by rw [H.out]; go_num, rfl⟩
              · obtain rfl : q = m := by omega
                have hhi := hd.d1
                have h32 : s / 86400 - aheadB v - cumB v q < daysB v q := by have := HN.out; omega
                have H := Lib.hid hcs; clear hcs
                go_wp2_with (go_at_call 17; refine (rdays_any _ _ _).mono ?_; rintro e w2 ⟨rfl, rfl⟩)
                have he : s / 86400 - aheadB v - cumB v q + 1 = d := by have := HN.out; omega
                rw [he]
                exact bodyPost_ret (v := .tuple #[.agg #[I v, I q, I d, I (s % 86400 / 3600), I (s % 86400 / 60 % 60), I (s % 60)], .int .i64 0]) (by simp [results, Try.results8, go_sem]) rfl ⟨rfl, (Below.refl _ _).alloc (Nat.le_refl _) _⟩

set_option maxHeartbeats 1000000 in
theorem rof_no (s : Int) (h1 : 253402300799 < s) (h2 : s ≤ 18446744073709551615) (w : World) :
    Calls Try.prog 8 #[.int .u64 s] w fun e w' => e = .returned (.tuple #[.agg #[I 0, I 0, I 0, I 0, I 0, I 0], .int .i64 5]) ∧ Below w.heap.size w w' := by
  go_enter Try.func8, Try.ntmps8
  go_wp2_with fail
  exact bodyPost_ret (v := .tuple #[.agg #[I 0, I 0, I 0, I 0, I 0, I 0], .int .i64 5]) (by simp [results, Try.results8, go_sem]) rfl ⟨rfl, (Below.refl _ _).alloc (Nat.le_refl _) _⟩

theorem lof_any (y m d h i s : Int) (w : World) :
    Calls Try.prog 11 #[.agg #[I y, I m, I d, I h, I i, I s]] w fun e w' => e = .returned (.agg #[I y, I m, I d, I h, I i, I s]) ∧ Below w.heap.size w w' := by
  go_enter Try.func11, Try.ntmps11
  go_wp2
  exact bodyPost_ret (v := .agg #[I y, I m, I d, I h, I i, I s]) (by simp [results, Try.results11, go_sem]) rfl ⟨rfl, ((Below.refl _ _).alloc (Nat.le_refl _) _).alloc (by simp) _⟩
end Go.Proofs.Ytajjibfipkijfaa
