/- The law CountPlays: a list of calls in memory, and the walk. Its conditions: those that its statement shows. -/
import Derived.Test.YtfjkfigjenalgaaQ7
import Derived.Test.YtfjkfigjenalgaaT0
import Derived.Deep.RegionHeld3
import Derived.Deep.CutRange
import Derived.Deep.DeepCutAuto
namespace Go.Proofs.Ytfjkfigjenalgaa
open Go.RowKit
set_option linter.unusedVariables false

/-- What holds ahead of each round. -/
def PlaysRel (w : World) (g len : Nat) (N : Nat) (k : Nat) (c i : Value) (wr : World) : Prop :=
  ∃ b s n, c = .pointer (some ⟨b, 0, none⟩) ∧ i = I (n : Nat) ∧ n ≤ N ∧ n ≤ len ∧ k = N - n ∧ CS.Ok s ∧ HC wr b s ∧ Blk wr g s.rc 27 ∧ g ≠ b ∧ w.heap.size ≤ b ∧ w.heap.size ≤ g ∧ Below w.heap.size w wr

/-- What holds behind a call of both. -/
def PlaysCut (w : World) (g : Nat) (c ok : Value) (wx : World) : Prop :=
  ∃ b s, c = .pointer (some ⟨b, 0, none⟩) ∧ ok = .bool true ∧ CS.Ok s ∧ HC wx b s ∧ Blk wx g s.rc 27 ∧ g ≠ b ∧ w.heap.size ≤ b ∧ Below w.heap.size w wx

theorem rc_set8 {w : World} {g : Nat} {s s' : CS} (h : Blk w g s.rc 27) :
    Blk ((((((((w.setCell ⟨g, 0, none⟩ (U s'.load)).setCell ⟨g, 1, none⟩ (U s'.value)).setCell ⟨g, 2, none⟩ (.bool s'.en)).setCell ⟨g, 3, none⟩ (.bool s'.re)).setCell ⟨g, 4, none⟩ (.bool s'.ir)).setCell ⟨g, 5, none⟩ (U s'.scale)).setCell ⟨g, 6, none⟩ (U s'.phase)).setCell ⟨g, 7, none⟩ (.bool s'.st)) g s'.rc 27 := by
  obtain ⟨l, v, en, re, ir, sc, ph, st⟩ := s
  obtain ⟨l', v', en', re', ir', sc', ph', st'⟩ := s'
  have h0 : Blk w g #[U l, U v, .bool en, .bool re, .bool ir, U sc, U ph, .bool st] 27 := h
  have h1 : Blk (w.setCell ⟨g, 0, none⟩ (U l')) g #[U l', U v, .bool en, .bool re, .bool ir, U sc, U ph, .bool st] 27 := h0.set 0 (U l')
  have h2 : Blk ((w.setCell ⟨g, 0, none⟩ (U l')).setCell ⟨g, 1, none⟩ (U v')) g #[U l', U v', .bool en, .bool re, .bool ir, U sc, U ph, .bool st] 27 := h1.set 1 (U v')
  have h3 : Blk (((w.setCell ⟨g, 0, none⟩ (U l')).setCell ⟨g, 1, none⟩ (U v')).setCell ⟨g, 2, none⟩ (.bool en')) g #[U l', U v', .bool en', .bool re, .bool ir, U sc, U ph, .bool st] 27 := h2.set 2 (.bool en')
  have h4 : Blk ((((w.setCell ⟨g, 0, none⟩ (U l')).setCell ⟨g, 1, none⟩ (U v')).setCell ⟨g, 2, none⟩ (.bool en')).setCell ⟨g, 3, none⟩ (.bool re')) g #[U l', U v', .bool en', .bool re', .bool ir, U sc, U ph, .bool st] 27 := h3.set 3 (.bool re')
  have h5 : Blk (((((w.setCell ⟨g, 0, none⟩ (U l')).setCell ⟨g, 1, none⟩ (U v')).setCell ⟨g, 2, none⟩ (.bool en')).setCell ⟨g, 3, none⟩ (.bool re')).setCell ⟨g, 4, none⟩ (.bool ir')) g #[U l', U v', .bool en', .bool re', .bool ir', U sc, U ph, .bool st] 27 := h4.set 4 (.bool ir')
  have h6 : Blk ((((((w.setCell ⟨g, 0, none⟩ (U l')).setCell ⟨g, 1, none⟩ (U v')).setCell ⟨g, 2, none⟩ (.bool en')).setCell ⟨g, 3, none⟩ (.bool re')).setCell ⟨g, 4, none⟩ (.bool ir')).setCell ⟨g, 5, none⟩ (U sc')) g #[U l', U v', .bool en', .bool re', .bool ir', U sc', U ph, .bool st] 27 := h5.set 5 (U sc')
  have h7 : Blk (((((((w.setCell ⟨g, 0, none⟩ (U l')).setCell ⟨g, 1, none⟩ (U v')).setCell ⟨g, 2, none⟩ (.bool en')).setCell ⟨g, 3, none⟩ (.bool re')).setCell ⟨g, 4, none⟩ (.bool ir')).setCell ⟨g, 5, none⟩ (U sc')).setCell ⟨g, 6, none⟩ (U ph')) g #[U l', U v', .bool en', .bool re', .bool ir', U sc', U ph', .bool st] 27 := h6.set 6 (U ph')
  have h8 : Blk ((((((((w.setCell ⟨g, 0, none⟩ (U l')).setCell ⟨g, 1, none⟩ (U v')).setCell ⟨g, 2, none⟩ (.bool en')).setCell ⟨g, 3, none⟩ (.bool re')).setCell ⟨g, 4, none⟩ (.bool ir')).setCell ⟨g, 5, none⟩ (U sc')).setCell ⟨g, 6, none⟩ (U ph')).setCell ⟨g, 7, none⟩ (.bool st')) g #[U l', U v', .bool en', .bool re', .bool ir', U sc', U ph', .bool st'] 27 := h7.set 7 (.bool st')
  exact h8

theorem plays_cut {w w0 w3 : World} {g b b' : Nat} {s sb s' : CS} (T3 : Stored w0.drew w3 b sb) (H3 : HC w3 b' s') (R3 : Blk w3 g s.rc 27) (hgb : g ≠ b) (hor : b' = b ∨ w0.drew.heap.size ≤ b') (hs : s'.Ok)
    (hlt : g < w0.heap.size) (hwb : w.heap.size ≤ b) (hwg : w.heap.size ≤ g) (hb : Below w.heap.size w w0) :
    PlaysCut w g (.pointer (some ⟨b', 0, none⟩)) (.bool true) ((((((((w3.setCell ⟨g, 0, none⟩ (U s'.load)).setCell ⟨g, 1, none⟩ (U s'.value)).setCell ⟨g, 2, none⟩ (.bool s'.en)).setCell ⟨g, 3, none⟩ (.bool s'.re)).setCell ⟨g, 4, none⟩ (.bool s'.ir)).setCell ⟨g, 5, none⟩ (U s'.scale)).setCell ⟨g, 6, none⟩ (U s'.phase)).setCell ⟨g, 7, none⟩ (.bool s'.st)) := by
  have hz : w0.drew.heap.size = w0.heap.size := rfl
  rw [hz] at hor
  have hs0 := hb.size
  refine ⟨b', s', rfl, rfl, hs, ?_, rc_set8 R3, by omega, by omega, ?_⟩
  · iterate 8 (refine HC.set_ne ?_ (by omega) _ _)
    exact H3
  · iterate 8 (refine bset ?_ hwg)
    exact hb.drew.trans (T3.below_ hwb hs0)

set_option maxHeartbeats 4000000 in
theorem plays_walk (w : World) (A : Option Addr) (len cap : Nat) (hlen : len ≤ maxLen) (ha : Acts w A len) :
    Calls Try.prog 3 #[.slice A len cap] w fun e w' => e = .returned (.bool true) ∧ Below w.heap.size w w' := by
  unfold maxLen at hlen
  have HA := Lib.hid ha; clear ha
  go_enter Try.func3, Try.ntmps3
  go_wp2_with ((go_at_call 11; fail))
  refine (new_any _).mono ?_
  rintro e w1 ⟨rfl, hw1⟩
  have H1 : HC w1 w.heap.size CS.zero := by rw [← hw1]; exact Blk.new _ _ _
  have B1 : Below w.heap.size w w1 := by rw [← hw1]; exact (Below.refl _ _).alloc (Nat.le_refl _) _
  have z1 : w1.heap.size = w.heap.size + 1 := by rw [← hw1]; simp
  clear hw1
  have Z1 := Lib.hid z1; clear z1
  go_wp2_with fail
  have B2 : Hid (Below w.heap.size w (w1.alloc (.cells rz 27))) := Lib.hid (B1.alloc (by have := Z1.out; omega) _)
  have H2 : Hid (HC (w1.alloc (.cells rz 27)) w.heap.size CS.zero) := Lib.hid (H1.alloc _)
  have R2 : Hid (Blk (w1.alloc (.cells rz 27)) w1.heap.size (CS.rc CS.zero) 27) := Lib.hid (Blk.new w1 rz 27)
  have hg : Hid (w1.heap.size ≠ w.heap.size ∧ w.heap.size ≤ w1.heap.size) := Lib.hid (by have := Z1.out; omega)
  clear H1 B1 Z1
  change Code.wp _ _ _ _ (w1.alloc (.cells rz 27))
  generalize w1.alloc (.cells rz 27) = w2 at *
  generalize w1.heap.size = g at *
  go_loopg [3, 5] 80 (fun k c i wr => PlaysRel w g len 80 k c i wr)
  case atStart => exact ⟨w.heap.size, CS.zero, 0, rfl, rfl, by omega, by omega, rfl, CS.zero_ok, H2.out, R2.out, hg.out.1, Nat.le_refl _, hg.out.2, B2.out⟩
  case round =>
    obtain ⟨b, s, n, rfl, rfl, hn, hnl, hk, hs, hc, hr, hgb, hwb, hwg, hb⟩ := hrel
    by_cases hlt : n < len
    · by_cases h80 : n < 80
      · have hd1 : decide ((n : Int) < (len : Int)) = true := by simp; omega
        have hd2 : decide ((n : Int) < 80) = true := by simp; omega
        obtain ⟨sb, so, ak, an, ao, av, hA, hat⟩ := HA.out n hlt
        subst hA
        have hlt0 := hat.lt
        have hat' := hat
        obtain ⟨⟨n0, n1, o0, o1, v0, v1⟩, hx1, hx2, hx3, hx4⟩ := hat
        go_upto_region 8 with fail
        obtain ⟨_, a0, a1, a2, a3⟩ := hat'.below hb
        clear hx1 hx2 hx3 hx4 hat'
        have HB := Lib.hid hb
        have HH := Lib.hid hc
        have HR := Lib.hid hr
        have hlt9 := hr.lt
        have hK := Lib.hid hk
        clear hb hc hr hk
        have d0 := HR.out.cell 0 rfl; have d1 := HR.out.cell 1 rfl; have d2 := HR.out.cell 2 rfl; have d3 := HR.out.cell 3 rfl; have d4 := HR.out.cell 4 rfl; have d5 := HR.out.cell 5 rfl; have d6 := HR.out.cell 6 rfl; have d7 := HR.out.cell 7 rfl
        have b0 : (0 : Int) ≤ (n : Int) := by omega
        have b1 : (n : Int) < (len : Int) := by omega
        go_cut [3, 6] from 11 to 43 (fun c ok wx => PlaysCut w g c ok wx)
        case first =>
          go_region_with (go_at_call 12; refine (do_any hs (HC.drew HH.out) ak an ao av n0 n1 o0 o1 v0 v1).mono ?_; rintro e w3 ⟨b', sb', rfl, T3, H3, hor⟩; have R3 := Blk.stored (Blk.drew HR.out) T3 hgb; have d30 := R3.cell 0 rfl; have y30 := R3.free 0; have d31 := R3.cell 1 rfl; have y31 := R3.free 1; have d32 := R3.cell 2 rfl; have y32 := R3.free 2; have d33 := R3.cell 3 rfl; have y33 := R3.free 3; have d34 := R3.cell 4 rfl; have y34 := R3.free 4; have d35 := R3.cell 5 rfl; have y35 := R3.free 5; have d36 := R3.cell 6 rfl; have y36 := R3.free 6; have d37 := R3.cell 7 rfl; have y37 := R3.free 7)
          all_goals go_simp
          all_goals go_wp2
          all_goals go_meet
          all_goals exact plays_cut T3 H3 R3 hgb hor (doB_ok hs ak an ao av n0 v0 v1) hlt9 hwb hwg HB.out
        case rest =>
          obtain ⟨b', s', rfl, rfl, hs', hc', hr', hgb', hwb', hb'⟩ := hcut
          clear HH HR hlt9 HB d0 d1 d2 d3 d4 d5 d6 d7 a0 a1 a2 a3
          have d0 := hr'.cell 0 rfl; have d1 := hr'.cell 1 rfl; have d2 := hr'.cell 2 rfl; have d3 := hr'.cell 3 rfl; have d4 := hr'.cell 4 rfl; have d5 := hr'.cell 5 rfl; have d6 := hr'.cell 6 rfl; have d7 := hr'.cell 7 rfl
          go_wp2_with (go_at_call 13; refine (alike_any hs' hc').mono ?_; rintro e w4 ⟨rfl, hb4⟩)
          go_roundg (80 - (n + 1))
          case measure => have := hK.out; omega
          case rel => exact ⟨b', s', n + 1, rfl, by go_num, by omega, by omega, rfl, hs', hc'.below hb4 hc'.lt, hr'.below hb4 hr'.lt, hgb', hwb', hwg, hb'.trans (hb4.mono hb'.size)⟩
      · have hd1 : decide ((n : Int) < (len : Int)) = true := by simp; omega
        have hd2 : decide ((n : Int) < 80) = false := by simp; omega
        have HB := Lib.hid hb
        clear hb hc hr hk
        go_wp2_with (go_at_call 14; refine (known_count _).mono ?_; rintro e w4 ⟨rfl, hb4⟩)
        go_ret
        exact ⟨rfl, HB.out.trans (hb4.mono HB.out.size)⟩
    · have hd1 : decide ((n : Int) < (len : Int)) = false := by simp; omega
      have HB := Lib.hid hb
      clear hb hc hr hk
      go_wp2_with (go_at_call 14; refine (known_count _).mono ?_; rintro e w4 ⟨rfl, hb4⟩)
      go_ret
      exact ⟨rfl, HB.out.trans (hb4.mono HB.out.size)⟩
end Go.Proofs.Ytfjkfigjenalgaa
