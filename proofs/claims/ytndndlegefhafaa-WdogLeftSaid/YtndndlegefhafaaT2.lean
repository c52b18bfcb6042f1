/- The walk of the law WdogLeft. Its conditions: those that its statement shows. -/
import Derived.Test.YtndndlegefhafaaT1
import Derived.Deep.CutBlock
namespace Go.Proofs.Ytndndlegefhafaa
open Go.RowKit
set_option linter.unusedVariables false

theorem u64_bd {n : Int} (h : (Lit.int .u64 n).wf = true) : 0 ≤ n ∧ n ≤ 18446744073709551615 := by
  simp [Lit.wf, IntKind.min, IntKind.max, IntKind.signed, IntKind.bits] at h; omega

/-- Ticks in two calls are as in one. -/
theorem tick_two (s : WS) (h : s.Ok) (a c : Int) (a0 : 0 ≤ a) (c0 : 0 ≤ c) : ∃ (x1 x2 : WS) (r1 r2 : Int), Hid (s.tickB a = (x1, r1)) ∧ Hid (x1.tickB c = (x2, r2)) ∧ Hid (s.tickB (a + c) = (x2, r1 + r2)) ∧ x1.Ok ∧ x2.Ok ∧ 0 ≤ r1 ∧ r1 ≤ a ∧ 0 ≤ r2 ∧ r2 ≤ c := by
  have o1 := s.tickB_ok h a a0
  have o2 := (s.tickB a).1.tickB_ok o1 c c0
  obtain ⟨en, lk, ar, shut, all, since, fault⟩ := s
  have hon := h.on
  try dsimp only at hon
  by_cases hf : fault = 0
  · subst hf
    cases en
    · exact ⟨_, _, a, c, Lib.hid rfl, Lib.hid rfl, Lib.hid rfl, o1, o2, a0, Int.le_refl _, c0, Int.le_refl _⟩
    · have hlt := hon rfl rfl
      by_cases h1 : all - since ≤ a
      · have e1 : WS.tickB ⟨true, lk, ar, shut, all, since, 0⟩ a = (⟨true, lk, ar, shut, all, all, 2⟩, all - since) := by simp [WS.tickB, h1]
        have e2 : WS.tickB ⟨true, lk, ar, shut, all, all, 2⟩ c = (⟨true, lk, ar, shut, all, all, 2⟩, 0) := by simp [WS.tickB]
        have e3 : WS.tickB ⟨true, lk, ar, shut, all, since, 0⟩ (a + c) = (⟨true, lk, ar, shut, all, all, 2⟩, all - since + 0) := by
          have : all - since ≤ a + c := by omega
          simp [WS.tickB, this]
        rw [e1] at o1 o2
        rw [e2] at o2
        exact ⟨_, _, _, _, Lib.hid e1, Lib.hid e2, Lib.hid e3, o1, o2, by omega, h1, by omega, c0⟩
      · have e1 : WS.tickB ⟨true, lk, ar, shut, all, since, 0⟩ a = (⟨true, lk, ar, shut, all, since + a, 0⟩, a) := by simp [WS.tickB, h1]
        rw [e1] at o1 o2
        by_cases h2 : all - (since + a) ≤ c
        · have e2 : WS.tickB ⟨true, lk, ar, shut, all, since + a, 0⟩ c = (⟨true, lk, ar, shut, all, all, 2⟩, all - (since + a)) := by simp [WS.tickB, h2]
          have e3 : WS.tickB ⟨true, lk, ar, shut, all, since, 0⟩ (a + c) = (⟨true, lk, ar, shut, all, all, 2⟩, a + (all - (since + a))) := by
            have : all - since ≤ a + c := by omega
            simp [WS.tickB, this]; omega
          rw [e2] at o2
          exact ⟨_, _, _, _, Lib.hid e1, Lib.hid e2, Lib.hid e3, o1, o2, a0, Int.le_refl _, by omega, h2⟩
        · have e2 : WS.tickB ⟨true, lk, ar, shut, all, since + a, 0⟩ c = (⟨true, lk, ar, shut, all, since + a + c, 0⟩, c) := by simp [WS.tickB, h2]
          have e3 : WS.tickB ⟨true, lk, ar, shut, all, since, 0⟩ (a + c) = (⟨true, lk, ar, shut, all, since + a + c, 0⟩, a + c) := by
            have : ¬ all - since ≤ a + c := by omega
            simp [WS.tickB, this]; omega
          rw [e2] at o2
          exact ⟨_, _, _, _, Lib.hid e1, Lib.hid e2, Lib.hid e3, o1, o2, a0, Int.le_refl _, c0, Int.le_refl _⟩
  · have e : ∀ n, WS.tickB ⟨en, lk, ar, shut, all, since, fault⟩ n = (⟨en, lk, ar, shut, all, since, fault⟩, 0) := fun n => by simp [WS.tickB, hf]
    exact ⟨_, _, 0, 0, Lib.hid (e a), Lib.hid (e c), Lib.hid (e (a + c)), h, h, by omega, a0, by omega, c0⟩

/-- A running watchdog without a fault: just at 'left' ticks it is Timeout. -/
theorem left_law (s : WS) (h : s.Ok) (he : s.en = true) (hf : s.fault = 0) : ∃ (n : Int) (s1 s2 : WS), Hid (s.left = n) ∧ 1 ≤ n ∧ n ≤ 4294967295 ∧ Hid (s.tickB (n - 1) = (s1, n - 1)) ∧ s1.Ok ∧ Hid (s1.fault = 0) ∧ Hid (s1.left = 1) ∧
    Hid (s1.tickB 9 = (s2, 1)) ∧ s2.Ok ∧ Hid (s2.fault = 2) ∧ Hid (s2.tickB 9 = (s2, 0)) := by
  have hlt := h.on he hf
  have a1 := h.a1
  have s0 := h.s0
  obtain ⟨en, lk, ar, shut, all, since, fault⟩ := s
  dsimp only at he hf hlt a1 s0
  subst he hf
  have e1 : WS.tickB ⟨true, lk, ar, shut, all, since, 0⟩ (all - since - 1) = (⟨true, lk, ar, shut, all, all - 1, 0⟩, all - since - 1) := by
    have hn : ¬ all - since ≤ all - since - 1 := by omega
    have hs : since + (all - since - 1) = all - 1 := by omega
    unfold WS.tickB
    dsimp only
    rw [if_neg (by decide), if_neg (by decide), if_neg hn, hs]
  have o1 := WS.tickB_ok _ h (all - since - 1) (by omega)
  rw [e1] at o1
  have e2 : WS.tickB ⟨true, lk, ar, shut, all, all - 1, 0⟩ 9 = (⟨true, lk, ar, shut, all, all, 2⟩, 1) := by
    have : all - (all - 1) ≤ 9 := by omega
    simp [WS.tickB, this]; omega
  have o2 := WS.tickB_ok _ o1 9 (by decide)
  rw [e2] at o2
  refine ⟨all - since, _, _, Lib.hid (by simp [WS.left]), by omega, by omega, Lib.hid e1, o1, Lib.hid rfl, Lib.hid (by simp [WS.left]; omega), Lib.hid e2, o2, Lib.hid rfl, Lib.hid (by simp [WS.tickB])⟩

/-- What holds ahead of each round, and behind all of them. -/
def StepsEnd (w : World) (g : Nat) (c : Value) (wx : World) : Prop :=
  ∃ b s, c = .pointer (some ⟨b, 0, none⟩) ∧ WS.Ok s ∧ HW wx b s ∧ Blk wx g s.cs 40 ∧ g ≠ b ∧ w.heap.size ≤ b ∧ Below w.heap.size w wx

theorem steps_cut {w w0 w3 : World} {g b b' : Nat} {s sb s' : WS} (T3 : Stored w0.drew w3 b sb) (H3 : HW w3 b' s') (R3 : Blk w3 g s.cs 40) (hgb : g ≠ b) (hor : b' = b ∨ w0.drew.heap.size ≤ b') (hs : s'.Ok)
    (hlt : g < w0.heap.size) (hwb : w.heap.size ≤ b) (hwg : w.heap.size ≤ g) (hb : Below w.heap.size w w0) :
    StepsEnd w g (.pointer (some ⟨b', 0, none⟩)) (((((((w3.setCell ⟨g, 0, none⟩ (.bool s'.en)).setCell ⟨g, 1, none⟩ (.bool s'.lk)).setCell ⟨g, 2, none⟩ (.bool s'.ar)).setCell ⟨g, 3, none⟩ (U s'.shut)).setCell ⟨g, 4, none⟩ (U s'.all)).setCell ⟨g, 5, none⟩ (L s'.since)).setCell ⟨g, 6, none⟩ (I s'.fault)) := by
  obtain ⟨b1, s1, h1, _, h2, h3, h4, h5, h6, h7⟩ := plays_cut T3 H3 R3 hgb hor hs hlt hwb hwg hb
  exact ⟨b1, s1, h1, h2, h3, h4, h5, h6, h7⟩

set_option maxHeartbeats 4000000 in
theorem left_walk (w : World) (A : Option Addr) (len cap : Nat) (a0 b0 : Int) (hlen : len ≤ maxLen) (ha : Acts w A len) (ha1 : (Lit.int .u64 a0).wf = true) (hb1 : (Lit.int .u64 b0).wf = true) :
    Calls Try.prog 6 #[.slice A len cap, L a0, L b0] w fun e w' => e = .returned (.bool true) ∧ Below w.heap.size w w' := by
  unfold maxLen at hlen
  obtain ⟨alo, ahi⟩ := u64_bd ha1
  obtain ⟨blo, bhi⟩ := u64_bd hb1
  clear ha1 hb1
  have HA := Lib.hid ha; clear ha
  go_enter Try.func6, Try.ntmps6
  go_wp2_with ((go_at_call 8; fail))
  refine (new_any _).mono ?_
  rintro e w1 ⟨rfl, hw1⟩
  have H1 : HW w1 w.heap.size WS.zero := by rw [← hw1]; exact Blk.new _ _ _
  have B1 : Below w.heap.size w w1 := by rw [← hw1]; exact (Below.refl _ _).alloc (Nat.le_refl _) _
  have z1 : w1.heap.size = w.heap.size + 1 := by rw [← hw1]; simp
  clear hw1
  have Z1 := Lib.hid z1; clear z1
  go_upto_block 0 with fail
  have B2 : Hid (Below w.heap.size w (w1.alloc (.cells wz 40))) := Lib.hid (B1.alloc (by have := Z1.out; omega) _)
  have H2 : Hid (HW (w1.alloc (.cells wz 40)) w.heap.size WS.zero) := Lib.hid (H1.alloc _)
  have R2 : Hid (Blk (w1.alloc (.cells wz 40)) w1.heap.size (WS.cs WS.zero) 40) := Lib.hid (Blk.new w1 wz 40)
  have hg : Hid (w1.heap.size ≠ w.heap.size ∧ w.heap.size ≤ w1.heap.size) := Lib.hid (by have := Z1.out; omega)
  clear H1 B1 Z1
  change Code.wp _ _ _ _ (w1.alloc (.cells wz 40))
  generalize w1.alloc (.cells wz 40) = w2 at *
  generalize w1.heap.size = g at *
  go_cut [7] (fun c wx => StepsEnd w g c wx)
  case first =>
    go_wp2_with fail
    go_loopg [7, 9] 30 (fun k c i wr => PlaysRel w g len 30 k c i wr)
    case atStart => exact ⟨w.heap.size, WS.zero, 0, rfl, rfl, by omega, by omega, rfl, WS.zero_ok, H2.out, R2.out, hg.out.1, Nat.le_refl _, hg.out.2, B2.out⟩
    case round =>
      obtain ⟨b, s, n, rfl, rfl, hn, hnl, hk, hs, hc, hr, hgb, hwb, hwg, hb⟩ := hrel
      by_cases hlt : n < len
      · by_cases h80 : n < 30
        · have hd1 : decide ((n : Int) < (len : Int)) = true := by simp; omega
          have hd2 : decide ((n : Int) < 30) = true := by simp; omega
          obtain ⟨sb, so, ak, an, ao, av, hA, hat⟩ := HA.out n hlt
          subst hA
          have hat' := hat
          obtain ⟨⟨n0, n1, o0, o1, v0, v1⟩, hx1, hx2, hx3, hx4⟩ := hat
          go_upto_region 7 with fail
          obtain ⟨_, a0, a1, a2, a3⟩ := hat'.below hb
          clear hx1 hx2 hx3 hx4 hat'
          have HB := Lib.hid hb
          have HH := Lib.hid hc
          have HR := Lib.hid hr
          have hlt9 := hr.lt
          have hK := Lib.hid hk
          clear hb hc hr hk
          have d0 := HR.out.cell 0 rfl; have d1 := HR.out.cell 1 rfl; have d2 := HR.out.cell 2 rfl; have d3 := HR.out.cell 3 rfl; have d4 := HR.out.cell 4 rfl; have d5 := HR.out.cell 5 rfl; have d6 := HR.out.cell 6 rfl
          have nn0 : (0 : Int) ≤ (n : Int) := by omega
          have nn1 : (n : Int) < (len : Int) := by omega
          go_cut [7] from 17 to 39 (fun c wx => StepsEnd w g c wx)
          case first =>
            go_region_with (go_at_call 19; refine (do_any hs (HW.drew HH.out) ak an ao av n0 n1 o0 o1 v0 v1).mono ?_; rintro e w3 ⟨b', sb', rfl, T3, H3, hor⟩; have R3 := Blk.stored (Blk.drew HR.out) T3 hgb; have d30 := R3.cell 0 rfl; have d31 := R3.cell 1 rfl; have d32 := R3.cell 2 rfl; have d33 := R3.cell 3 rfl; have d34 := R3.cell 4 rfl; have d35 := R3.cell 5 rfl; have d36 := R3.cell 6 rfl; have y30 := R3.free 0; have y31 := R3.free 1; have y32 := R3.free 2; have y33 := R3.free 3; have y34 := R3.free 4; have y35 := R3.free 5; have y36 := R3.free 6)
            all_goals go_simp
            all_goals go_wp2
            all_goals go_meet
            all_goals exact steps_cut T3 H3 R3 hgb hor (doB_ok hs ak an ao av n0 v0 v1) hlt9 hwb hwg HB.out
          case rest =>
            obtain ⟨b', s', rfl, hs', hc', hr', hgb', hwb', hb'⟩ := hcut
            clear HH HR hlt9 HB d0 d1 d2 d3 d4 d5 d6 a0 a1 a2 a3
            go_wp2_with fail
            go_roundg (30 - (n + 1))
            case measure => have := hK.out; omega
            case rel => exact ⟨b', s', n + 1, rfl, by go_num, by omega, by omega, rfl, hs', hc', hr', hgb', hwb', hwg, hb'⟩
        · have hd1 : decide ((n : Int) < (len : Int)) = true := by simp; omega
          have hd2 : decide ((n : Int) < 30) = false := by simp; omega
          have HB := Lib.hid hb
          clear hb hk
          go_wp2_with fail
          go_meet
          exact ⟨b, s, rfl, hs, hc, hr, hgb, hwb, HB.out⟩
      · have hd1 : decide ((n : Int) < (len : Int)) = false := by simp; omega
        have HB := Lib.hid hb
        clear hb hk
        go_wp2_with fail
        go_meet
        exact ⟨b, s, rfl, hs, hc, hr, hgb, hwb, HB.out⟩
  case rest =>
    obtain ⟨b, s, rfl, hs, hc, hr, hgb, hwb, hb⟩ := hcut
    have hwg := hg.out.2
    clear B2 H2 R2 hg HA
    obtain ⟨a, ha⟩ : ∃ a : Int, a0 % 4611686018427387904 = a := ⟨_, rfl⟩
    obtain ⟨c, hcq⟩ : ∃ c : Int, b0 % 4611686018427387904 = c := ⟨_, rfl⟩
    have a1 : 0 ≤ a := by omega
    have a2 : a ≤ 4611686018427387903 := by omega
    have c1 : 0 ≤ c := by omega
    have c2 : c ≤ 4611686018427387903 := by omega
    have ha' : a0.tmod 4611686018427387904 = a := by rw [Int.tmod_eq_emod_of_nonneg alo]; exact ha
    have hc' : b0.tmod 4611686018427387904 = c := by rw [Int.tmod_eq_emod_of_nonneg blo]; exact hcq
    obtain ⟨x1, x2, r1, r2, t1, t2, t3, or1, or2, rl1, rh1, rl2, rh2⟩ := tick_two s hs a c a1 c1
    obtain ⟨sn, hsn⟩ : ∃ n, Hid (x2.since = n) := ⟨_, Lib.hid rfl⟩
    obtain ⟨sf, hsf⟩ : ∃ n, Hid (x2.fault = n) := ⟨_, Lib.hid rfl⟩
    go_wp2_with ((go_at_call 21; fail))
    refine (copy_any hc).mono ?_
    rintro e w3 ⟨rfl, hw3⟩
    have x3 : HW w3 wc.heap.size s := by rw [← hw3]; exact Blk.new _ _ _
    have k3 : HW w3 b s := by rw [← hw3]; exact hc.alloc _
    have b3 := show Below w.heap.size w w3 by rw [← hw3]; exact hb.alloc hb.size _
    have hxb : wc.heap.size ≠ b ∧ w.heap.size ≤ wc.heap.size := ⟨by have := hc.lt; omega, hb.size⟩
    clear hw3 hc hr hb
    generalize wc.heap.size = bx at *
    obtain ⟨hbxb, hwbx⟩ := hxb
    go_wp2_with ((go_at_call 21; fail))
    refine (copy_any k3).mono ?_
    rintro e w4 ⟨rfl, hw4⟩
    have y4 : HW w4 w3.heap.size s := by rw [← hw4]; exact Blk.new _ _ _
    have k4 : HW w4 b s := by rw [← hw4]; exact k3.alloc _
    have x4 : HW w4 bx s := by rw [← hw4]; exact x3.alloc _
    have b4 := show Below w.heap.size w w4 by rw [← hw4]; exact b3.alloc b3.size _
    have hyb : w3.heap.size ≠ b ∧ w3.heap.size ≠ bx ∧ w.heap.size ≤ w3.heap.size := ⟨by have := k3.lt; omega, by have := x3.lt; omega, b3.size⟩
    clear hw4 k3 x3 b3
    generalize w3.heap.size = by_ at *
    obtain ⟨hybb, hybx, hwby⟩ := hyb
    go_wp2_with ((go_at_call 10; fail))
    clear ha ha' hcq hc'
    refine (tick_of hs x4 _ _ _ a1 (by omega) t1).mono ?_
    rintro e w5 ⟨rfl, T5⟩
    have k5 := Blk.stored k4 T5 (Ne.symm hbxb)
    have y5 := Blk.stored y4 T5 hybx
    have b5 := b4.trans (T5.below_ hwbx b4.size)
    have x5 := T5.hc
    clear k4 y4 b4 x4 T5
    go_wp2_with ((go_at_call 10; fail))
    refine (tick_of or1 x5 _ _ _ c1 (by omega) t2).mono ?_
    rintro e w6 ⟨rfl, T6⟩
    have k6 := Blk.stored k5 T6 (Ne.symm hbxb)
    have y6 := Blk.stored y5 T6 hybx
    have b6 := b5.trans (T6.below_ hwbx b5.size)
    have x6 := T6.hc
    clear k5 y5 b5 x5 T6
    go_wp2_with ((go_at_call 10; fail))
    refine (tick_of hs y6 _ _ _ (by omega) (by omega) t3).mono ?_
    rintro e w7 ⟨rfl, T7⟩
    have K : HW w7 b s := Blk.stored k6 T7 (Ne.symm hybb)
    have X : HW w7 bx x2 := Blk.stored x6 T7 (Ne.symm hybx)
    have B := b6.trans (T7.below_ hwby b6.size)
    have Y := T7.hc
    clear k6 y6 b6 x6 T7
    go_wp2_with ((go_at_call 14; fail))
    refine (since_of X _ hsn).mono ?_
    rintro e wr1 ⟨rfl, hr1⟩
    replace K := HW.below K hr1 K.lt; replace X := HW.below X hr1 X.lt; replace Y := HW.below Y hr1 Y.lt; replace B := B.trans (hr1.mono B.size)
    clear hr1
    go_wp2_with ((go_at_call 14; fail))
    refine (since_of Y _ hsn).mono ?_
    rintro e wr2 ⟨rfl, hr2⟩
    replace K := HW.below K hr2 K.lt; replace X := HW.below X hr2 X.lt; replace Y := HW.below Y hr2 Y.lt; replace B := B.trans (hr2.mono B.size)
    clear hr2
    go_wp2_with ((go_at_call 12; fail))
    refine (fault_of X _ hsf).mono ?_
    rintro e wr3 ⟨rfl, hr3⟩
    replace K := HW.below K hr3 K.lt; replace X := HW.below X hr3 X.lt; replace Y := HW.below Y hr3 Y.lt; replace B := B.trans (hr3.mono B.size)
    clear hr3
    go_wp2_with ((go_at_call 12; fail))
    refine (fault_of Y _ hsf).mono ?_
    rintro e wr4 ⟨rfl, hr4⟩
    replace K := HW.below K hr4 K.lt; replace X := HW.below X hr4 X.lt; replace Y := HW.below Y hr4 Y.lt; replace B := B.trans (hr4.mono B.size)
    clear hr4
    clear X Y
    cases he : s.en
    · have hl : Hid (s.left = 18446744073709551615) := Lib.hid (by unfold WS.left; rw [he]; rfl)
      have HE := Lib.hid he
      clear he
      go_wp2_with ((go_at_call 15; fail))
      refine (left_of hs K _ hl).mono ?_
      rintro e wr5 ⟨rfl, hr5⟩
      replace K := HW.below K hr5 K.lt; replace B := B.trans (hr5.mono B.size)
      clear hr5
      go_wp2_with ((go_at_call 16; fail))
      refine (enabled_of K _ HE).mono ?_
      rintro e wr9 ⟨rfl, hr9⟩
      replace K := HW.below K hr9 K.lt; replace B := B.trans (hr9.mono B.size)
      clear hr9
      go_wp2_with (go_at_call 11; refine (known_any _).mono ?_; rintro e wk ⟨rfl, hbk⟩)
      go_ret
      exact ⟨rfl, B.trans (hbk.mono B.size)⟩
    · by_cases hf : s.fault = 0
      · obtain ⟨n, s1, s2, hl, n0, n1, q1, p1, f1, l1, q2, p2, f2, q3⟩ := left_law s hs he hf
        have HE := Lib.hid he
        have HF := Lib.hid hf
        clear he hf
        go_wp2_with ((go_at_call 15; fail))
        refine (left_of hs K _ hl).mono ?_
        rintro e wr6 ⟨rfl, hr6⟩
        replace K := HW.below K hr6 K.lt; replace B := B.trans (hr6.mono B.size)
        clear hr6
        go_wp2_with ((go_at_call 16; fail))
        refine (enabled_of K _ HE).mono ?_
        rintro e wr10 ⟨rfl, hr10⟩
        replace K := HW.below K hr10 K.lt; replace B := B.trans (hr10.mono B.size)
        clear hr10
        go_wp2_with ((go_at_call 12; fail))
        refine (fault_of K _ HF).mono ?_
        rintro e wr12 ⟨rfl, hr12⟩
        replace K := HW.below K hr12 K.lt; replace B := B.trans (hr12.mono B.size)
        clear hr12
        have z1 : (n == 0) = false := by simp; omega
        have z2 : ((n - 1) == (n - 1)) = true := by simp
        go_wp2_with ((go_at_call 10; fail))
        refine (tick_of hs K _ _ _ (by omega) (by omega) q1).mono ?_
        rintro e wt1 ⟨rfl, T1⟩
        replace B := B.trans (T1.below_ hwb B.size)
        replace K := T1.hc
        clear T1
        go_wp2_with ((go_at_call 12; fail))
        refine (fault_of K _ f1).mono ?_
        rintro e wr13 ⟨rfl, hr13⟩
        replace K := HW.below K hr13 K.lt; replace B := B.trans (hr13.mono B.size)
        clear hr13
        go_wp2_with ((go_at_call 15; fail))
        refine (left_of p1 K _ l1).mono ?_
        rintro e wr8 ⟨rfl, hr8⟩
        replace K := HW.below K hr8 K.lt; replace B := B.trans (hr8.mono B.size)
        clear hr8
        go_wp2_with ((go_at_call 11; fail))
        refine (known_any _).mono ?_
        rintro e wk ⟨rfl, hbk⟩
        replace K := HW.below K hbk K.lt; replace B := B.trans (hbk.mono B.size)
        clear hbk
        go_wp2_with ((go_at_call 10; fail))
        refine (tick_of p1 K _ _ _ (by decide) (by decide) q2).mono ?_
        rintro e wt2 ⟨rfl, T2⟩
        replace B := B.trans (T2.below_ hwb B.size)
        replace K := T2.hc
        clear T2
        go_wp2_with ((go_at_call 12; fail))
        refine (fault_of K _ f2).mono ?_
        rintro e wr14 ⟨rfl, hr14⟩
        replace K := HW.below K hr14 K.lt; replace B := B.trans (hr14.mono B.size)
        clear hr14
        go_wp2_with ((go_at_call 10; fail))
        refine (tick_of p2 K _ _ _ (by decide) (by decide) q3).mono ?_
        rintro e wt3 ⟨rfl, T3⟩
        replace B := B.trans (T3.below_ hwb B.size)
        clear T3
        go_wp2_with fail
        go_ret
        exact ⟨rfl, B⟩
      · have hl : Hid (s.left = 18446744073709551615) := Lib.hid (by unfold WS.left; rw [he, show (s.fault == 0) = false by simpa using hf]; rfl)
        obtain ⟨fv, hfv⟩ : ∃ n, s.fault = n := ⟨_, rfl⟩
        rw [hfv] at hf
        have hf1 : (fv == 0) = false := by simpa using hf
        have hf2 : (fv != 0) = true := by simpa using hf
        have HE := Lib.hid he
        have HF := Lib.hid hfv
        clear he hf hfv
        go_wp2_with ((go_at_call 15; fail))
        refine (left_of hs K _ hl).mono ?_
        rintro e wr7 ⟨rfl, hr7⟩
        replace K := HW.below K hr7 K.lt; replace B := B.trans (hr7.mono B.size)
        clear hr7
        go_wp2_with ((go_at_call 16; fail))
        refine (enabled_of K _ HE).mono ?_
        rintro e wr11 ⟨rfl, hr11⟩
        replace K := HW.below K hr11 K.lt; replace B := B.trans (hr11.mono B.size)
        clear hr11
        go_wp2_with ((go_at_call 12; fail))
        refine (fault_of K _ HF).mono ?_
        rintro e wr15 ⟨rfl, hr15⟩
        replace K := HW.below K hr15 K.lt; replace B := B.trans (hr15.mono B.size)
        clear hr15
        go_wp2_with (go_at_call 11; refine (known_any _).mono ?_; rintro e wk ⟨rfl, hbk⟩)
        all_goals (go_ret; exact ⟨rfl, B.trans (hbk.mono B.size)⟩)
end Go.Proofs.Ytndndlegefhafaa
