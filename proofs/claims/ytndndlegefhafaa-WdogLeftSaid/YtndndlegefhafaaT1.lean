/- The law WdogPlays: a list of calls in memory, and the walk. Its conditions: those that its statement shows. -/
import Derived.Test.YtndndlegefhafaaQ5
import Derived.Test.YtndndlegefhafaaT0
import Derived.Deep.RegionHeld3
import Derived.Deep.CutRange
import Derived.Deep.DeepCutAuto
namespace Go.Proofs.Ytndndlegefhafaa
open Go.RowKit
set_option linter.unusedVariables false

/-- What holds ahead of each round. -/
def PlaysRel (w : World) (g len : Nat) (N : Nat) (k : Nat) (c i : Value) (wr : World) : Prop :=
  ∃ b s n, c = .pointer (some ⟨b, 0, none⟩) ∧ i = I (n : Nat) ∧ n ≤ N ∧ n ≤ len ∧ k = N - n ∧ WS.Ok s ∧ HW wr b s ∧ Blk wr g s.cs 40 ∧ g ≠ b ∧ w.heap.size ≤ b ∧ w.heap.size ≤ g ∧ Below w.heap.size w wr

/-- What holds behind a call of both. -/
def PlaysCut (w : World) (g : Nat) (c ok : Value) (wx : World) : Prop :=
  ∃ b s, c = .pointer (some ⟨b, 0, none⟩) ∧ ok = .bool true ∧ WS.Ok s ∧ HW wx b s ∧ Blk wx g s.cs 40 ∧ g ≠ b ∧ w.heap.size ≤ b ∧ Below w.heap.size w wx

theorem rc_set8 {w : World} {g : Nat} {s s' : WS} (h : Blk w g s.cs 40) :
    Blk (((((((w.setCell ⟨g, 0, none⟩ (.bool s'.en)).setCell ⟨g, 1, none⟩ (.bool s'.lk)).setCell ⟨g, 2, none⟩ (.bool s'.ar)).setCell ⟨g, 3, none⟩ (U s'.shut)).setCell ⟨g, 4, none⟩ (U s'.all)).setCell ⟨g, 5, none⟩ (L s'.since)).setCell ⟨g, 6, none⟩ (I s'.fault)) g s'.cs 40 := by
  obtain ⟨en, lk, ar, shut, all, since, fault⟩ := s
  obtain ⟨en', lk', ar', shut', all', since', fault'⟩ := s'
  have h0 : Blk w g #[.bool en, .bool lk, .bool ar, U shut, U all, L since, I fault] 40 := h
  have h1 : Blk (w.setCell ⟨g, 0, none⟩ (.bool en')) g #[.bool en', .bool lk, .bool ar, U shut, U all, L since, I fault] 40 := h0.set 0 (.bool en')
  have h2 : Blk ((w.setCell ⟨g, 0, none⟩ (.bool en')).setCell ⟨g, 1, none⟩ (.bool lk')) g #[.bool en', .bool lk', .bool ar, U shut, U all, L since, I fault] 40 := h1.set 1 (.bool lk')
  have h3 : Blk (((w.setCell ⟨g, 0, none⟩ (.bool en')).setCell ⟨g, 1, none⟩ (.bool lk')).setCell ⟨g, 2, none⟩ (.bool ar')) g #[.bool en', .bool lk', .bool ar', U shut, U all, L since, I fault] 40 := h2.set 2 (.bool ar')
  have h4 : Blk ((((w.setCell ⟨g, 0, none⟩ (.bool en')).setCell ⟨g, 1, none⟩ (.bool lk')).setCell ⟨g, 2, none⟩ (.bool ar')).setCell ⟨g, 3, none⟩ (U shut')) g #[.bool en', .bool lk', .bool ar', U shut', U all, L since, I fault] 40 := h3.set 3 (U shut')
  have h5 : Blk (((((w.setCell ⟨g, 0, none⟩ (.bool en')).setCell ⟨g, 1, none⟩ (.bool lk')).setCell ⟨g, 2, none⟩ (.bool ar')).setCell ⟨g, 3, none⟩ (U shut')).setCell ⟨g, 4, none⟩ (U all')) g #[.bool en', .bool lk', .bool ar', U shut', U all', L since, I fault] 40 := h4.set 4 (U all')
  have h6 : Blk ((((((w.setCell ⟨g, 0, none⟩ (.bool en')).setCell ⟨g, 1, none⟩ (.bool lk')).setCell ⟨g, 2, none⟩ (.bool ar')).setCell ⟨g, 3, none⟩ (U shut')).setCell ⟨g, 4, none⟩ (U all')).setCell ⟨g, 5, none⟩ (L since')) g #[.bool en', .bool lk', .bool ar', U shut', U all', L since', I fault] 40 := h5.set 5 (L since')
  have h7 : Blk (((((((w.setCell ⟨g, 0, none⟩ (.bool en')).setCell ⟨g, 1, none⟩ (.bool lk')).setCell ⟨g, 2, none⟩ (.bool ar')).setCell ⟨g, 3, none⟩ (U shut')).setCell ⟨g, 4, none⟩ (U all')).setCell ⟨g, 5, none⟩ (L since')).setCell ⟨g, 6, none⟩ (I fault')) g #[.bool en', .bool lk', .bool ar', U shut', U all', L since', I fault'] 40 := h6.set 6 (I fault')
  exact h7

theorem plays_cut {w w0 w3 : World} {g b b' : Nat} {s sb s' : WS} (T3 : Stored w0.drew w3 b sb) (H3 : HW w3 b' s') (R3 : Blk w3 g s.cs 40) (hgb : g ≠ b) (hor : b' = b ∨ w0.drew.heap.size ≤ b') (hs : s'.Ok)
    (hlt : g < w0.heap.size) (hwb : w.heap.size ≤ b) (hwg : w.heap.size ≤ g) (hb : Below w.heap.size w w0) :
    PlaysCut w g (.pointer (some ⟨b', 0, none⟩)) (.bool true) (((((((w3.setCell ⟨g, 0, none⟩ (.bool s'.en)).setCell ⟨g, 1, none⟩ (.bool s'.lk)).setCell ⟨g, 2, none⟩ (.bool s'.ar)).setCell ⟨g, 3, none⟩ (U s'.shut)).setCell ⟨g, 4, none⟩ (U s'.all)).setCell ⟨g, 5, none⟩ (L s'.since)).setCell ⟨g, 6, none⟩ (I s'.fault)) := by
  have hz : w0.drew.heap.size = w0.heap.size := rfl
  rw [hz] at hor
  have hs0 := hb.size
  refine ⟨b', s', rfl, rfl, hs, ?_, rc_set8 R3, by omega, by omega, ?_⟩
  · iterate 7 (refine HW.set_ne ?_ (by omega) _ _)
    exact H3
  · iterate 7 (refine bset ?_ hwg)
    exact hb.drew.trans (T3.below_ hwb hs0)

set_option maxHeartbeats 4000000 in
theorem plays_walk (w : World) (A : Option Addr) (len cap : Nat) (hlen : len ≤ maxLen) (ha : Acts w A len) :
    Calls Try.prog 5 #[.slice A len cap] w fun e w' => e = .returned (.bool true) ∧ Below w.heap.size w w' := by
  unfold maxLen at hlen
  have HA := Lib.hid ha; clear ha
  go_enter Try.func5, Try.ntmps5
  go_wp2_with ((go_at_call 8; fail))
  refine (new_any _).mono ?_
  rintro e w1 ⟨rfl, hw1⟩
  have H1 : HW w1 w.heap.size WS.zero := by rw [← hw1]; exact Blk.new _ _ _
  have B1 : Below w.heap.size w w1 := by rw [← hw1]; exact (Below.refl _ _).alloc (Nat.le_refl _) _
  have z1 : w1.heap.size = w.heap.size + 1 := by rw [← hw1]; simp
  clear hw1
  have Z1 := Lib.hid z1; clear z1
  go_wp2_with fail
  have B2 : Hid (Below w.heap.size w (w1.alloc (.cells wz 40))) := Lib.hid (B1.alloc (by have := Z1.out; omega) _)
  have H2 : Hid (HW (w1.alloc (.cells wz 40)) w.heap.size WS.zero) := Lib.hid (H1.alloc _)
  have R2 : Hid (Blk (w1.alloc (.cells wz 40)) w1.heap.size (WS.cs WS.zero) 40) := Lib.hid (Blk.new w1 wz 40)
  have hg : Hid (w1.heap.size ≠ w.heap.size ∧ w.heap.size ≤ w1.heap.size) := Lib.hid (by have := Z1.out; omega)
  clear H1 B1 Z1
  change Code.wp _ _ _ _ (w1.alloc (.cells wz 40))
  generalize w1.alloc (.cells wz 40) = w2 at *
  generalize w1.heap.size = g at *
  go_loopg [3, 5] 80 (fun k c i wr => PlaysRel w g len 80 k c i wr)
  case atStart => exact ⟨w.heap.size, WS.zero, 0, rfl, rfl, by omega, by omega, rfl, WS.zero_ok, H2.out, R2.out, hg.out.1, Nat.le_refl _, hg.out.2, B2.out⟩
  case round =>
    obtain ⟨b, s, n, rfl, rfl, hn, hnl, hk, hs, hc, hr, hgb, hwb, hwg, hb⟩ := hrel
    by_cases hlt : n < len
    · by_cases h80 : n < 80
      · have hd1 : decide ((n : Int) < (len : Int)) = true := by simp; omega
        have hd2 : decide ((n : Int) < 80) = true := by simp; omega
        obtain ⟨sb, so, ak, an, ao, av, hA, hat⟩ := HA.out n hlt
        subst hA
        have hlt0 := hat.lt
        have hat' := hat
        obtain ⟨⟨n0, n1, o0, o1, v0, v1⟩, hx1, hx2, hx3, hx4⟩ := hat
        go_upto_region 8 with fail
        obtain ⟨_, a0, a1, a2, a3⟩ := hat'.below hb
        clear hx1 hx2 hx3 hx4 hat'
        have HB := Lib.hid hb
        have HH := Lib.hid hc
        have HR := Lib.hid hr
        have hlt9 := hr.lt
        have hK := Lib.hid hk
        clear hb hc hr hk
        have d0 := HR.out.cell 0 rfl; have d1 := HR.out.cell 1 rfl; have d2 := HR.out.cell 2 rfl; have d3 := HR.out.cell 3 rfl; have d4 := HR.out.cell 4 rfl; have d5 := HR.out.cell 5 rfl; have d6 := HR.out.cell 6 rfl
        have b0 : (0 : Int) ≤ (n : Int) := by omega
        have b1 : (n : Int) < (len : Int) := by omega
        go_cut [3, 6] from 11 to 43 (fun c ok wx => PlaysCut w g c ok wx)
        case first =>
          go_region_with (go_at_call 19; refine (do_any hs (HW.drew HH.out) ak an ao av n0 n1 o0 o1 v0 v1).mono ?_; rintro e w3 ⟨b', sb', rfl, T3, H3, hor⟩; have R3 := Blk.stored (Blk.drew HR.out) T3 hgb; have d30 := R3.cell 0 rfl; have y30 := R3.free 0; have d31 := R3.cell 1 rfl; have y31 := R3.free 1; have d32 := R3.cell 2 rfl; have y32 := R3.free 2; have d33 := R3.cell 3 rfl; have y33 := R3.free 3; have d34 := R3.cell 4 rfl; have y34 := R3.free 4; have d35 := R3.cell 5 rfl; have y35 := R3.free 5; have d36 := R3.cell 6 rfl; have y36 := R3.free 6)
          all_goals go_simp
          all_goals go_wp2
          all_goals go_meet
          all_goals exact plays_cut T3 H3 R3 hgb hor (doB_ok hs ak an ao av n0 v0 v1) hlt9 hwb hwg HB.out
        case rest =>
          obtain ⟨b', s', rfl, rfl, hs', hc', hr', hgb', hwb', hb'⟩ := hcut
          clear HH HR hlt9 HB d0 d1 d2 d3 d4 d5 d6 a0 a1 a2 a3
          have d0 := hr'.cell 0 rfl; have d1 := hr'.cell 1 rfl; have d2 := hr'.cell 2 rfl; have d3 := hr'.cell 3 rfl; have d4 := hr'.cell 4 rfl; have d5 := hr'.cell 5 rfl; have d6 := hr'.cell 6 rfl
          go_wp2_with (go_at_call 20; refine (alike_any hs' hc').mono ?_; rintro e w4 ⟨rfl, hb4⟩)
          go_roundg (80 - (n + 1))
          case measure => have := hK.out; omega
          case rel => exact ⟨b', s', n + 1, rfl, by go_num, by omega, by omega, rfl, hs', hc'.below hb4 hc'.lt, hr'.below hb4 hr'.lt, hgb', hwb', hwg, hb'.trans (hb4.mono hb'.size)⟩
      · have hd1 : decide ((n : Int) < (len : Int)) = true := by simp; omega
        have hd2 : decide ((n : Int) < 80) = false := by simp; omega
        have HB := Lib.hid hb
        clear hb hc hr hk
        go_wp2_with (go_at_call 11; refine (known_any _).mono ?_; rintro e w4 ⟨rfl, hb4⟩)
        go_ret
        exact ⟨rfl, HB.out.trans (hb4.mono HB.out.size)⟩
    · have hd1 : decide ((n : Int) < (len : Int)) = false := by simp; omega
      have HB := Lib.hid hb
      clear hb hc hr hk
      go_wp2_with (go_at_call 11; refine (known_any _).mono ?_; rintro e w4 ⟨rfl, hb4⟩)
      go_ret
      exact ⟨rfl, HB.out.trans (hb4.mono HB.out.size)⟩
end Go.Proofs.Ytndndlegefhafaa
