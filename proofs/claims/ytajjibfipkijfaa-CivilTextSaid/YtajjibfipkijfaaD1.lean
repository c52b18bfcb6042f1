/- Lemmas for the laws of chapter 30 (civil): contracts of functions of the program, each under the premises that its own statement shows. -/
import Derived.Test.YtajjibfipkijfaaB2
set_option linter.unusedSimpArgs false
set_option linter.unusedVariables false
namespace Go.Proofs.Ytajjibfipkijfaa
open Go.RowKit

theorem sec_no (y m d h i s : Int) (hr : rightB y m d h i s = false) (w : World) :
    Calls Try.prog 9 #[.agg #[I y, I m, I d, I h, I i, I s]] w fun e w' => e = .returned (.tuple #[.int .u64 0, .int .i64 5]) ∧ Below w.heap.size w w' := by
  go_enter Try.func9, Try.ntmps9
  go_wp2_with (go_at_call 12; refine (right_any _ _ _ _ _ _ _).mono ?_; rintro e w2 ⟨rfl, hb2⟩)
  go_ret2
  exact ⟨rfl, ((Below.refl _ _).alloc (Nat.le_refl _) _).trans (hb2.mono (by simp))⟩

theorem right_m {y m d h i s : Int} (hr : rightB y m d h i s = true) : 1970 ≤ y ∧ y ≤ 9999 ∧ 1 ≤ m ∧ m ≤ 12 ∧ 1 ≤ d ∧ d ≤ daysB y m ∧ 0 ≤ h ∧ h ≤ 23 ∧ 0 ≤ i ∧ i ≤ 59 ∧ 0 ≤ s ∧ s ≤ 59 := by
  simp [rightB, withinB] at hr
  have : ¬ (y < 1 ∨ m < 1 ∨ 12 < m) := by
    intro hn
    have : daysB y m = 0 := by simp [daysB, hn]
    omega
  omega

def secB (y m d h i s : Int) : Int := (aheadB y + d - 1 + cumB y m) * 86400 + (h * 3600 + i * 60 + s)

def RelS (w : World) (y m d h i s : Int) (k : Nat) (a b : Value) (wr : World) : Prop :=
  ∃ v : Int, 1 ≤ v ∧ v ≤ m ∧ (m - v).toNat = k ∧ a = I (aheadB y + d - 1 + cumB y v) ∧ b = I v ∧ Below w.heap.size w wr ∧ Blk wr w.heap.size #[I y, I m, I d, I h, I i, I s] 24

set_option maxHeartbeats 4000000 in
theorem sec_yes (y m d h i s : Int) (hr : rightB y m d h i s = true) (w : World) :
    Calls Try.prog 9 #[.agg #[I y, I m, I d, I h, I i, I s]] w fun e w' => e = .returned (.tuple #[.int .u64 (secB y m d h i s), .int .i64 0]) ∧ Below w.heap.size w w' := by
  obtain ⟨y0, y1, m0, m1, d0, d1, h0, h1, i0, i1, s0, s1⟩ := right_m hr
  have hah : 0 ≤ aheadB y ∧ aheadB y ≤ 3000000 := by unfold aheadB; omega
  have hdm := days_bd y m (by omega) m0 m1
  have hB := Blk.new w #[I y, I m, I d, I h, I i, I s] 24
  go_enter Try.func9, Try.ntmps9
  go_wp2_with (go_at_call 12; refine (right_any _ _ _ _ _ _ _).mono ?_; rintro e w2 ⟨rfl, hb2⟩; have hB2 := hB.below hb2 hB.lt)
  have c0 : ∀ x : WX w2, x.w.cell? ⟨w.heap.size, 0, none⟩ = some (I y) := fun x => x.cell (hB2.cell 0 rfl)
  have c2 : ∀ x : WX w2, x.w.cell? ⟨w.heap.size, 2, none⟩ = some (I d) := fun x => x.cell (hB2.cell 2 rfl)
  refine wp_region_grown (by kernel_rfl) (by kernel_rfl) ?_
  repeat (go_big_quiet_step ((go_at_call 25; exact WX.of_same (ahead_any _ (by omega) (by omega) _))))
  refine wpQuiet_nil ?_
  intro w3 hb3
  have hB3 := hB2.below hb3 hB2.lt
  have hb : Below w.heap.size w w3 := (((Below.refl _ _).alloc (Nat.le_refl _) _).trans (hb2.mono (by simp))).trans (hb3.mono (by have := hb2.size; simp at this; omega))
  clear c0 c2
  go_wp2_with fail
  go_loopg [4, 5] ((m - 1).toNat) (fun k a b wr => RelS w y m d h i s k a b wr)
  case atStart => exact ⟨1, by omega, m0, rfl, by rw [cum_1]; go_num, rfl, hb, hB3⟩
  case round =>
    clear hb hB3 hb3 hB2 hb2 hB
    obtain ⟨q, hq0, hqm, hqk, rfl, rfl, hb, hv⟩ := hrel
    have cc0 := hv.cell 0 rfl
    have cc1 := hv.cell 1 rfl
    have hcl := cum_1 y
    have hcs := cum_succ y q (by omega) hq0 (by omega)
    have hdb := days_bd y q (by omega) hq0 (by omega)
    have hcm := cum_mono y 1 q (by omega) (by omega) hq0 (by omega)
    have hcM := cum_mono y q 13 (by omega) hq0 (by omega) (by omega)
    rw [cum_13, lenB_eq] at hcM
    have hlp := leapI_bd y
    rw [hcl] at hcm
    clear hcl
    have H := Lib.hid hcs; clear hcs
    by_cases hlt : q < m
    · go_wp2_with (go_at_call 16; refine (days_any _ _ _).mono ?_; rintro e w2 ⟨rfl, hb2⟩; have hv2 := hv.below hb2 hv.lt)
      go_roundg (m - (q + 1)).toNat
      case measure => omega
      case rel => exact ⟨q + 1, by omega, by omega, rfl, by rw [H.out]; go_num, rfl, hb.trans (hb2.mono hb.size), hv2⟩
    · obtain rfl : q = m := by omega
      have cc3 := hv.cell 3 rfl
      have cc4 := hv.cell 4 rfl
      have cc5 := hv.cell 5 rfl
      go_wp2
      go_ret2
      exact ⟨rfl, hb⟩
end Go.Proofs.Ytajjibfipkijfaa
