/- The document's watchdog: stores, whole. Conditions: those that each statement shows. -/
import Derived.Test.YtndndlegefhafaaR3
namespace Go.Proofs.Ytndndlegefhafaa
open Go.RowKit
set_option linter.unusedVariables false

theorem store_ref (s : WS) (h : s.Ok) (off v : Int) (h0 : 0 ≤ off) (h1 : off ≤ 4294967295) (v0 : 0 ≤ v) (v1 : v ≤ 4294967295) (w : World) :
    Calls Try.prog 31 #[.agg s.cs, U off, U v] w fun e w' => e = .returned (.tuple #[.agg (s.storeB off v).1.cs, I (s.storeB off v).2]) ∧ Below w.heap.size w w' := by
  obtain ⟨en, lk, ar, shut, all, since, fault⟩ := s
  unfold WS.storeB
  by_cases h4 : off % 4 ≠ 0
  · rw [if_pos h4]
    exact store_ref_err en lk ar shut all since fault off v 0 11 h0 h1 (Lib.hid (by unfold WS.loadB; rw [if_pos h4])) (by decide) h w
  rw [if_neg h4]
  by_cases h20 : 20 ≤ off
  · rw [if_pos h20]
    exact store_ref_err en lk ar shut all since fault off v 0 10 h0 h1 (Lib.hid (by unfold WS.loadB; rw [if_neg (by omega), if_neg (by omega), if_neg (by omega), if_neg (by omega), if_neg (by omega), if_neg (by omega)])) (by decide) h w
  rw [if_neg h20]
  by_cases h16 : off = 16
  · rw [if_pos h16]; subst h16; exact store_ref_16 en lk ar shut all since fault v h w
  rw [if_neg h16]
  by_cases hf : fault = 0
  · subst hf
    rw [if_neg (by simp)]
    obtain rfl | rfl | rfl | rfl : off = 0 ∨ off = 4 ∨ off = 8 ∨ off = 12 := by omega
    · rw [if_pos rfl]
      unfold WS.ctlB
      cases lk
      · cases en
        · by_cases hv : v % 2 = 1
          · by_cases hlt : shut < all
            · have := store_ref_0_on ar shut all since (v / 2 % 2) v v0 v1 rfl hv hlt h w
              simpa [hv, hlt] using this
            · have := store_ref_0_no ar shut all since (v / 2 % 2) v v0 v1 rfl hv hlt h w
              simpa [hv, hlt] using this
          · have := store_ref_0_off ar shut all since (v / 2 % 2) v v0 v1 rfl (by omega) h w
            simpa [hv] using this
        · by_cases hv : v % 2 = 1
          · have := store_ref_0_stay ar shut all since (v / 2 % 2) v v0 v1 rfl hv h w
            simpa [hv] using this
          · have := store_ref_0_stop ar shut all since (v / 2 % 2) v v0 v1 rfl (by omega) h w
            simpa [hv] using this
      · exact store_ref_0_lk en ar shut all since v v0 v1 h w
    · rw [if_neg (by decide), if_pos rfl]
      cases lk
      · cases en
        · exact store_ref_4_open ar shut all since v v0 v1 h w
        · exact store_ref_4_tf ar shut all since v v0 v1 h w
      · cases en
        · exact store_ref_4_ft ar shut all since v v0 v1 h w
        · exact store_ref_4_tt ar shut all since v v0 v1 h w
    · rw [if_neg (by decide), if_neg (by decide), if_pos rfl]
      cases lk
      · cases en
        · exact store_ref_8_open ar shut all since v v0 v1 h w
        · exact store_ref_8_tf ar shut all since v v0 v1 h w
      · cases en
        · exact store_ref_8_ft ar shut all since v v0 v1 h w
        · exact store_ref_8_tt ar shut all since v v0 v1 h w
    · rw [if_neg (by decide), if_neg (by decide), if_neg (by decide)]
      unfold WS.keyB
      cases en
      · exact store_ref_12_off lk ar shut all since v v0 v1 h w
      · rw [if_neg (by simp)]
        by_cases hv1 : v = 23130
        · subst hv1
          rw [if_pos rfl]
          exact store_ref_12_first lk ar shut all since h w
        · rw [if_neg hv1]
          by_cases hv2 : v = 42405
          · subst hv2
            cases ar
            · rw [if_neg (by simp)]
              by_cases hlt : since < shut
              · rw [if_pos hlt]; exact store_ref_12_un_early lk shut all since hlt h w
              · rw [if_neg hlt]; exact store_ref_12_un lk shut all since hlt h w
            · rw [if_pos ⟨rfl, rfl⟩]
              by_cases hlt : since < shut
              · rw [if_pos hlt]; exact store_ref_12_early lk shut all since hlt h w
              · rw [if_neg hlt]; exact store_ref_12_fed lk shut all since hlt h w
          · rw [if_neg (by simp [hv2])]
            by_cases hlt : since < shut
            · rw [if_pos hlt]; exact store_ref_12_wrong lk ar shut all since v v0 v1 hv1 hv2 hlt h w
            · rw [if_neg hlt]; exact store_ref_12_drop lk ar shut all since v v0 v1 hv1 hv2 hlt h w
  · rw [if_pos hf]
    obtain rfl | rfl | rfl | rfl : off = 0 ∨ off = 4 ∨ off = 8 ∨ off = 12 := by omega
    · exact store_ref_fault_0 en lk ar shut all since fault hf v h w
    · exact store_ref_fault_4 en lk ar shut all since fault hf v h w
    · exact store_ref_fault_8 en lk ar shut all since fault hf v h w
    · exact store_ref_fault_12 en lk ar shut all since fault hf v h w
end Go.Proofs.Ytndndlegefhafaa
