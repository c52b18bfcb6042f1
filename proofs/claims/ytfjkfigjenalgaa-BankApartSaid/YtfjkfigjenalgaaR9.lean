/- The contract of the document's ticks, whole. Its conditions: those that its statement shows. -/
import Derived.Test.YtfjkfigjenalgaaR6
import Derived.Test.YtfjkfigjenalgaaR8
namespace Go.Proofs.Ytfjkfigjenalgaa
open Go.RowKit
set_option linter.unusedVariables false

theorem CS.one_stops (s : CS) (h : s.Ok) (hr : ¬ (s.re && decide (0 < s.load)) = true) :
    CS.one ⟨s.load, 1, true, s.re, s.ir, s.scale, s.scale, s.st⟩ = ⟨s.load, 0, false, s.re, s.ir, s.scale, 0, true⟩ := by
  have s0 := h.s0
  have hok' : CS.Ok ⟨s.load, 1, true, s.re, s.ir, s.scale, s.scale, s.st⟩ := ⟨h.l0, h.l1, by show (0 : Int) ≤ 1; omega, by show (1 : Int) ≤ _; omega, h.s0, h.s1, h.s0, Int.le_refl _⟩
  have hl : CS.left ⟨s.load, 1, true, s.re, s.ir, s.scale, s.scale, s.st⟩ = 1 := by
    rw [CS.left_on _ rfl]; show 1 * (s.scale + 1) - s.scale = 1; omega
  rw [CS.one_eq _ hok', CS.tick_stops _ hok' rfl 1 (by omega) hr]

theorem CS.one_again (s : CS) (h : s.Ok) (hr : s.re = true) (hl0 : 0 < s.load) :
    CS.one ⟨s.load, 1, true, s.re, s.ir, s.scale, s.scale, s.st⟩ = ⟨s.load, s.load, true, s.re, s.ir, s.scale, 0, true⟩ := by
  have s0 := h.s0
  have hok' : CS.Ok ⟨s.load, 1, true, s.re, s.ir, s.scale, s.scale, s.st⟩ := ⟨h.l0, h.l1, by show (0 : Int) ≤ 1; omega, by show (1 : Int) ≤ _; omega, h.s0, h.s1, h.s0, Int.le_refl _⟩
  have hl : CS.left ⟨s.load, 1, true, s.re, s.ir, s.scale, s.scale, s.st⟩ = 1 := by
    rw [CS.left_on _ rfl]; show 1 * (s.scale + 1) - s.scale = 1; omega
  rw [CS.one_eq _ hok', CS.tick_again _ hok' rfl 1 (by omega) hr hl0, hl]
  simp

theorem CS.left_pos (s : CS) (h : s.Ok) : 1 ≤ s.left := by
  have hu := s.unit_pos h
  have hv := s.vm_pos
  have hp := h.p1
  unfold CS.left
  split
  · have : 1 * s.unit ≤ s.vm * s.unit := Int.mul_le_mul hv (Int.le_refl _) (by omega) (by omega)
    unfold CS.unit at *; omega
  · omega

theorem CS.left_max (s : CS) (h : s.Ok) (he : s.en = true) : s.left ≤ 1099511627520 := by
  have hu := s.unit_pos h
  have hv := s.vm_pos
  have hp := h.p0
  have hs := h.s1
  have hv1 := h.v1
  rw [s.left_on he]
  have hvm : s.vm ≤ 4294967295 := by unfold CS.vm; split <;> omega
  have : s.vm * s.unit ≤ 4294967295 * 256 := Int.mul_le_mul hvm (by unfold CS.unit; omega) (by omega) (by omega)
  omega

theorem tick_ref (s : CS) (h : s.Ok) (n : Int) (n0 : 0 ≤ n) (n1 : n ≤ 18446744073709551615) (w : World) :
    Calls Try.prog 38 #[.agg s.rc, L n] w fun e w' => e = .returned (.agg (s.tick n).rc) ∧ Below w.heap.size w w' := by
  obtain ⟨l, v, en, re, ir, sc, ph, st⟩ := s
  have s0 : 0 ≤ sc := h.s0
  have s1 : sc ≤ 255 := h.s1
  have l0 : 0 ≤ l := h.l0
  have l1 : l ≤ 4294967295 := h.l1
  have p0 : 0 ≤ ph := h.p0
  have p1 : ph ≤ sc := h.p1
  have v1 : v ≤ 4294967295 := h.v1
  cases en with
  | false => rw [CS.tick_off _ n rfl]; exact tref_off l v sc ph re ir st w h n n0 (by omega)
  | true =>
    by_cases hz : n = 0
    · rw [hz, CS.tick_zero _ h, ← hz]; exact tref_zero l v sc ph re ir st w h n hz
    · have hpos := CS.left_pos _ h
      by_cases hlt : n < CS.left ⟨l, v, true, re, ir, sc, ph, st⟩
      · have hq := CS.q_lt _ h rfl n hlt
        have hmx := CS.left_max _ h rfl
        have hqv : (ph + n) / (sc + 1) ≤ v := by
          have q0 : 0 ≤ (ph + n) / (sc + 1) := Int.ediv_nonneg (by omega) (by omega)
          have v0 : 0 ≤ v := h.v0
          have hq' : (ph + n) / (sc + 1) < (if 1 ≤ v then v else 1) := hq
          split at hq' <;> omega
        have hq0 : 0 ≤ (ph + n) / (sc + 1) := Int.ediv_nonneg (by omega) (by omega)
        rw [CS.tick_before _ h rfl n hlt]
        exact tref_before l v sc ph re ir st w h n _ _ _ (by omega) (Lib.hid rfl) hlt (by omega) rfl rfl hq0 hqv (by omega)
      · have hge : CS.left ⟨l, v, true, re, ir, sc, ph, st⟩ ≤ n := by omega
        by_cases hr : (re && decide (0 < l)) = true
        · have hr' := hr
          simp at hr'
          obtain ⟨hre, hl0⟩ := hr'
          subst hre
          have hP : 0 < l * (sc + 1) := Int.mul_pos hl0 (by omega)
          have hPb : l * (sc + 1) ≤ 1099511627520 := by
            have : l * (sc + 1) ≤ 4294967295 * 256 := Int.mul_le_mul l1 (by omega) (by omega) (by omega)
            omega
          have hPL : CS.left ⟨l, l, true, true, ir, sc, 0, true⟩ = l * (sc + 1) := by
            rw [CS.left_on _ rfl]; show (if 1 ≤ l then l else 1) * (sc + 1) - 0 = _; rw [if_pos (by omega)]; omega
          have ht := CS.one_again _ h rfl hl0
          have c0 := Int.emod_nonneg (n - CS.left ⟨l, v, true, true, ir, sc, ph, st⟩) (by omega : l * (sc + 1) ≠ 0)
          have c1 := Int.emod_lt_of_pos (n - CS.left ⟨l, v, true, true, ir, sc, ph, st⟩) hP
          rw [CS.tick_again _ h rfl n hge rfl hl0]
          by_cases hc : (n - CS.left ⟨l, v, true, true, ir, sc, ph, st⟩) % (l * (sc + 1)) = 0
          · have := tref_again0 l v sc ph ir st w h n _ (Lib.hid rfl) (by omega) hge (by omega) _ hl0 rfl hP hPb (Lib.hid hPL) hc (Lib.hid ht)
            have e : CS.rc { load := l, value := l - ((n - CS.left ⟨l, v, true, true, ir, sc, ph, st⟩) % (l * CS.unit ⟨l, v, true, true, ir, sc, ph, st⟩)) / CS.unit ⟨l, v, true, true, ir, sc, ph, st⟩, en := true, re := true, ir := ir, scale := sc, phase := ((n - CS.left ⟨l, v, true, true, ir, sc, ph, st⟩) % (l * CS.unit ⟨l, v, true, true, ir, sc, ph, st⟩)) % CS.unit ⟨l, v, true, true, ir, sc, ph, st⟩, st := true } = #[U l, U l, .bool true, .bool true, .bool ir, U sc, U 0, .bool true] := by
              show #[U l, U (l - ((n - CS.left ⟨l, v, true, true, ir, sc, ph, st⟩) % (l * (sc + 1))) / (sc + 1)), Value.bool true, Value.bool true, Value.bool ir, U sc, U (((n - CS.left ⟨l, v, true, true, ir, sc, ph, st⟩) % (l * (sc + 1))) % (sc + 1)), Value.bool true] = _
              rw [hc]; simp
            exact this.mono (fun e' w' hh => by rw [hh.1]; exact ⟨by rw [← e], hh.2⟩)
          · have hu0 : 0 ≤ sc + 1 := by omega
            have hql : ((n - CS.left ⟨l, v, true, true, ir, sc, ph, st⟩) % (l * (sc + 1))) / (sc + 1) < l := Int.ediv_lt_of_lt_mul (by omega) c1
            exact tref_again l v sc ph ir st w h n _ (Lib.hid rfl) (by omega) hge (by omega) _ _ hl0 rfl hPb (Lib.hid hPL) rfl (Int.lt_iff_le_and_ne.2 ⟨c0, fun hh => hc hh.symm⟩) c1 (Lib.hid ht) _ _ rfl rfl (Int.ediv_nonneg c0 hu0) (Int.le_of_lt hql)
        · rw [CS.tick_stops _ h rfl n hge hr]
          exact tref_stop l v sc ph ir st w re h n _ (Lib.hid rfl) (by omega) hge (by omega) (Lib.hid (CS.one_stops _ h hr))
end Go.Proofs.Ytfjkfigjenalgaa
