/- The walk of the law CountLeft. Its conditions: those that its statement shows. -/
import Derived.Test.YtfjkfigjenalgaaT2
namespace Go.Proofs.Ytfjkfigjenalgaa
open Go.RowKit
set_option linter.unusedVariables false

theorem u64_bd {n : Int} (h : (Lit.int .u64 n).wf = true) : 0 ≤ n ∧ n ≤ 18446744073709551615 := by
  simp [Lit.wf, IntKind.min, IntKind.max, IntKind.signed, IntKind.bits] at h; omega

theorem runs_of {b : Nat} {s : CS} {w : World} (h : s.Ok) (hc : HC w b s) (v : Bool) (hv : Hid (s.en = v)) :
    Calls Try.prog 21 #[.pointer (some ⟨b, 0, none⟩)] w fun e w' => e = .returned (.bool v) ∧ Below w.heap.size w w' := by
  have := runs_any h hc
  rw [hv.out] at this; exact this

theorem store_clear (s : CS) (h : s.Ok) : ∃ s1, Hid (s.storeB 12 1 = (s1, 0)) ∧ s1.Ok ∧ s1.st = false :=
  ⟨{ s with st := false }, Lib.hid rfl, ⟨h.l0, h.l1, h.v0, h.v1, h.s0, h.s1, h.p0, h.p1⟩, rfl⟩

/-- A running timer without its flag: just at 'left' ticks it is set. -/
theorem left_law (s : CS) (h : s.Ok) (hf : s.st = false) (he : s.en = true) : ∃ (n : Int) (s2 s3 : CS), Hid (s.left = n) ∧ 1 ≤ n ∧ n ≤ 1099511627520 ∧ Hid (s.tick (n - 1) = s2) ∧ s2.Ok ∧ Hid (s2.left = 1) ∧
    Hid (s2.loadB 12 = (0, 0)) ∧ Hid (s2.tick 1 = s3) ∧ Hid (s3.loadB 12 = (1, 0)) := by
  have n0 := CS.left_pos s h
  have n1 := CS.left_max s h he
  refine ⟨s.left, s.tick (s.left - 1), s.tick s.left, Lib.hid rfl, n0, n1, Lib.hid rfl, s.tick_ok h _ (by omega), Lib.hid ?_, Lib.hid ?_, Lib.hid ?_, Lib.hid ?_⟩
  · rw [s.left_before h he _ (by omega) (by omega)]; omega
  · show (bI (s.tick (s.left - 1)).st, (0 : Int)) = (0, 0)
    rw [s.tick_st_before h he _ (by omega), hf]; rfl
  · rw [s.tick_add h _ _ (by omega) (by omega)]; congr 1; omega
  · show (bI (s.tick s.left).st, (0 : Int)) = (1, 0)
    rw [s.tick_st_after h he _ (Int.le_refl _)]; rfl

set_option maxHeartbeats 4000000 in
theorem left_walk (w : World) (A : Option Addr) (len cap : Nat) (a0 b0 : Int) (hlen : len ≤ maxLen) (ha : Acts w A len) (ha1 : (Lit.int .u64 a0).wf = true) (hb1 : (Lit.int .u64 b0).wf = true) :
    Calls Try.prog 5 #[.slice A len cap, L a0, L b0] w fun e w' => e = .returned (.bool true) ∧ Below w.heap.size w w' := by
  unfold maxLen at hlen
  obtain ⟨alo, ahi⟩ := u64_bd ha1
  obtain ⟨blo, bhi⟩ := u64_bd hb1
  clear ha1 hb1
  have HA := Lib.hid ha; clear ha
  go_enter Try.func5, Try.ntmps5
  go_wp2_with ((go_at_call 11; fail))
  refine (new_any _).mono ?_
  rintro e w1 ⟨rfl, hw1⟩
  have H1 : HC w1 w.heap.size CS.zero := by rw [← hw1]; exact Blk.new _ _ _
  have B1 : Below w.heap.size w w1 := by rw [← hw1]; exact (Below.refl _ _).alloc (Nat.le_refl _) _
  have z1 : w1.heap.size = w.heap.size + 1 := by rw [← hw1]; simp
  clear hw1
  have Z1 := Lib.hid z1; clear z1
  go_upto_block 0 with fail
  have B2 : Hid (Below w.heap.size w (w1.alloc (.cells rz 27))) := Lib.hid (B1.alloc (by have := Z1.out; omega) _)
  have H2 : Hid (HC (w1.alloc (.cells rz 27)) w.heap.size CS.zero) := Lib.hid (H1.alloc _)
  have R2 : Hid (Blk (w1.alloc (.cells rz 27)) w1.heap.size (CS.rc CS.zero) 27) := Lib.hid (Blk.new w1 rz 27)
  have hg : Hid (w1.heap.size ≠ w.heap.size ∧ w.heap.size ≤ w1.heap.size) := Lib.hid (by have := Z1.out; omega)
  clear H1 B1 Z1
  change Code.wp _ _ _ _ (w1.alloc (.cells rz 27))
  generalize w1.alloc (.cells rz 27) = w2 at *
  generalize w1.heap.size = g at *
  go_cut [7] (fun c wx => StepsEnd w g c wx)
  case first =>
    go_wp2_with fail
    go_loopg [7, 9] 20 (fun k c i wr => PlaysRel w g len 20 k c i wr)
    case atStart => exact ⟨w.heap.size, CS.zero, 0, rfl, rfl, by omega, by omega, rfl, CS.zero_ok, H2.out, R2.out, hg.out.1, Nat.le_refl _, hg.out.2, B2.out⟩
    case round =>
      obtain ⟨b, s, n, rfl, rfl, hn, hnl, hk, hs, hc, hr, hgb, hwb, hwg, hb⟩ := hrel
      by_cases hlt : n < len
      · by_cases h80 : n < 20
        · have hd1 : decide ((n : Int) < (len : Int)) = true := by simp; omega
          have hd2 : decide ((n : Int) < 20) = true := by simp; omega
          obtain ⟨sb, so, ak, an, ao, av, hA, hat⟩ := HA.out n hlt
          subst hA
          have hat' := hat
          obtain ⟨⟨n0, n1, o0, o1, v0, v1⟩, hx1, hx2, hx3, hx4⟩ := hat
          go_upto_region 7 with fail
          obtain ⟨_, a0, a1, a2, a3⟩ := hat'.below hb
          clear hx1 hx2 hx3 hx4 hat'
          have HB := Lib.hid hb
          have HH := Lib.hid hc
          have HR := Lib.hid hr
          have hlt9 := hr.lt
          have hK := Lib.hid hk
          clear hb hc hr hk
          have d0 := HR.out.cell 0 rfl; have d1 := HR.out.cell 1 rfl; have d2 := HR.out.cell 2 rfl; have d3 := HR.out.cell 3 rfl; have d4 := HR.out.cell 4 rfl; have d5 := HR.out.cell 5 rfl; have d6 := HR.out.cell 6 rfl; have d7 := HR.out.cell 7 rfl
          have nn0 : (0 : Int) ≤ (n : Int) := by omega
          have nn1 : (n : Int) < (len : Int) := by omega
          go_cut [7] from 27 to 49 (fun c wx => StepsEnd w g c wx)
          case first =>
            go_region_with (go_at_call 12; refine (do_any hs (HC.drew HH.out) ak an ao av n0 n1 o0 o1 v0 v1).mono ?_; rintro e w3 ⟨b', sb', rfl, T3, H3, hor⟩; have R3 := Blk.stored (Blk.drew HR.out) T3 hgb; have d30 := R3.cell 0 rfl; have d31 := R3.cell 1 rfl; have d32 := R3.cell 2 rfl; have d33 := R3.cell 3 rfl; have d34 := R3.cell 4 rfl; have d35 := R3.cell 5 rfl; have d36 := R3.cell 6 rfl; have d37 := R3.cell 7 rfl; have y30 := R3.free 0; have y31 := R3.free 1; have y32 := R3.free 2; have y33 := R3.free 3; have y34 := R3.free 4; have y35 := R3.free 5; have y36 := R3.free 6; have y37 := R3.free 7)
            all_goals go_simp
            all_goals go_wp2
            all_goals go_meet
            all_goals exact steps_cut T3 H3 R3 hgb hor (doB_ok hs ak an ao av n0 v0 v1) hlt9 hwb hwg HB.out
          case rest =>
            obtain ⟨b', s', rfl, hs', hc', hr', hgb', hwb', hb'⟩ := hcut
            clear HH HR hlt9 HB d0 d1 d2 d3 d4 d5 d6 d7 a0 a1 a2 a3
            go_wp2_with fail
            go_roundg (20 - (n + 1))
            case measure => have := hK.out; omega
            case rel => exact ⟨b', s', n + 1, rfl, by go_num, by omega, by omega, rfl, hs', hc', hr', hgb', hwb', hwg, hb'⟩
        · have hd1 : decide ((n : Int) < (len : Int)) = true := by simp; omega
          have hd2 : decide ((n : Int) < 20) = false := by simp; omega
          have HB := Lib.hid hb
          clear hb hk
          go_wp2_with fail
          go_meet
          exact ⟨b, s, rfl, hs, hc, hr, hgb, hwb, HB.out⟩
      · have hd1 : decide ((n : Int) < (len : Int)) = false := by simp; omega
        have HB := Lib.hid hb
        clear hb hk
        go_wp2_with fail
        go_meet
        exact ⟨b, s, rfl, hs, hc, hr, hgb, hwb, HB.out⟩
  case rest =>
    obtain ⟨b, s, rfl, hs, hc, hr, hgb, hwb, hb⟩ := hcut
    have hwg := hg.out.2
    clear B2 H2 R2 hg HA
    obtain ⟨a, ha⟩ : ∃ a : Int, a0 % 4611686018427387904 = a := ⟨_, rfl⟩
    obtain ⟨c, hcq⟩ : ∃ c : Int, b0 % 4611686018427387904 = c := ⟨_, rfl⟩
    have a1 : 0 ≤ a := by omega
    have a2 : a ≤ 4611686018427387903 := by omega
    have c1 : 0 ≤ c := by omega
    have c2 : c ≤ 4611686018427387903 := by omega
    have ha' : a0.tmod 4611686018427387904 = a := by rw [Int.tmod_eq_emod_of_nonneg alo]; exact ha
    have hc' : b0.tmod 4611686018427387904 = c := by rw [Int.tmod_eq_emod_of_nonneg blo]; exact hcq
    obtain ⟨s1, hS, o1, f1⟩ := store_clear s hs
    have hX1 := s.tick_ok hs a a1
    have hadd := s.tick_add hs a c a1 c1
    have hX2 := s.tick_ok hs (a + c) (by omega)
    obtain ⟨x1, hx1⟩ : ∃ x1, Hid (s.tick a = x1) := ⟨_, Lib.hid rfl⟩
    obtain ⟨x2, hx2⟩ : ∃ x2, Hid (s.tick (a + c) = x2) := ⟨_, Lib.hid rfl⟩
    rw [hx1.out] at hX1 hadd
    rw [hx2.out] at hX2 hadd
    have hx12 : Hid (x1.tick c = x2) := Lib.hid hadd
    clear hadd
    obtain ⟨v0, e0, l0⟩ : ∃ v e, Hid (x2.loadB 0 = (v, e)) := ⟨_, _, Lib.hid rfl⟩
    obtain ⟨v1, e1, l1⟩ : ∃ v e, Hid (x2.loadB 4 = (v, e)) := ⟨_, _, Lib.hid rfl⟩
    obtain ⟨v2, e2, l2⟩ : ∃ v e, Hid (x2.loadB 8 = (v, e)) := ⟨_, _, Lib.hid rfl⟩
    obtain ⟨v3, e3, l3⟩ : ∃ v e, Hid (x2.loadB 12 = (v, e)) := ⟨_, _, Lib.hid rfl⟩
    obtain ⟨xl, hxl⟩ : ∃ n, Hid (x2.left = n) := ⟨_, Lib.hid rfl⟩
    go_wp2_with ((go_at_call 15; fail))
    refine (copy_any hc).mono ?_
    rintro e w3 ⟨rfl, hw3⟩
    have x3 : HC w3 wc.heap.size s := by rw [← hw3]; exact Blk.new _ _ _
    have k3 : HC w3 b s := by rw [← hw3]; exact hc.alloc _
    have b3 := show Below w.heap.size w w3 by rw [← hw3]; exact hb.alloc hb.size _
    have hxb : wc.heap.size ≠ b ∧ w.heap.size ≤ wc.heap.size := ⟨by have := hc.lt; omega, hb.size⟩
    clear hw3 hc hr hb
    generalize wc.heap.size = bx at *
    obtain ⟨hbxb, hwbx⟩ := hxb
    go_wp2_with ((go_at_call 15; fail))
    refine (copy_any k3).mono ?_
    rintro e w4 ⟨rfl, hw4⟩
    have y4 : HC w4 w3.heap.size s := by rw [← hw4]; exact Blk.new _ _ _
    have k4 : HC w4 b s := by rw [← hw4]; exact k3.alloc _
    have x4 : HC w4 bx s := by rw [← hw4]; exact x3.alloc _
    have b4 := show Below w.heap.size w w4 by rw [← hw4]; exact b3.alloc b3.size _
    have hyb : w3.heap.size ≠ b ∧ w3.heap.size ≠ bx ∧ w.heap.size ≤ w3.heap.size := ⟨by have := k3.lt; omega, by have := x3.lt; omega, b3.size⟩
    clear hw4 k3 x3 b3
    generalize w3.heap.size = by_ at *
    obtain ⟨hybb, hybx, hwby⟩ := hyb
    go_wp2_with ((go_at_call 16; fail))
    clear ha ha' hcq hc'
    refine (tick_of hs x4 _ _ a1 (by omega) hx1).mono ?_
    rintro e w5 ⟨rfl, T5⟩
    have k5 := Blk.stored k4 T5 (Ne.symm hbxb)
    have y5 := Blk.stored y4 T5 hybx
    have b5 := b4.trans (T5.below_ hwbx b4.size)
    have x5 := T5.hc
    clear k4 y4 b4 x4 T5
    go_wp2_with ((go_at_call 16; fail))
    refine (tick_of hX1 x5 _ _ c1 (by omega) hx12).mono ?_
    rintro e w6 ⟨rfl, T6⟩
    have k6 := Blk.stored k5 T6 (Ne.symm hbxb)
    have y6 := Blk.stored y5 T6 hybx
    have b6 := b5.trans (T6.below_ hwbx b5.size)
    have x6 := T6.hc
    clear k5 y5 b5 x5 T6
    go_wp2_with ((go_at_call 16; fail))
    refine (tick_of hs y6 _ _ (by omega) (by omega) hx2).mono ?_
    rintro e w7 ⟨rfl, T7⟩
    have k7 := Blk.stored k6 T7 (Ne.symm hybb)
    have x7 := Blk.stored x6 T7 (Ne.symm hybx)
    have b7 := b6.trans (T7.below_ hwby b6.size)
    have y7 := T7.hc
    clear k6 y6 b6 x6 T7
    have K7 := Lib.hid k7
    have X7 := Lib.hid x7
    have Y7 := Lib.hid y7
    have B7 := Lib.hid b7
    clear k7 x7 y7 b7
    go_wp2_with fail
    refine wp_loop_rounds 5 ?_
    rw [rounds_succ]
    go_wp2_with ((go_at_call 18; fail))
    refine (load_of X7.out _ _ _ (by decide) (by decide) l0).mono ?_
    rintro e wa0 ⟨rfl, rfl⟩
    go_wp2_with ((go_at_call 18; fail))
    refine (load_of Y7.out _ _ _ (by decide) (by decide) l0).mono ?_
    rintro e wb0 ⟨rfl, rfl⟩
    go_wp2_with fail
    rw [rounds_succ]
    go_wp2_with ((go_at_call 18; fail))
    refine (load_of X7.out _ _ _ (by decide) (by decide) l1).mono ?_
    rintro e wa1 ⟨rfl, rfl⟩
    go_wp2_with ((go_at_call 18; fail))
    refine (load_of Y7.out _ _ _ (by decide) (by decide) l1).mono ?_
    rintro e wb1 ⟨rfl, rfl⟩
    go_wp2_with fail
    rw [rounds_succ]
    go_wp2_with ((go_at_call 18; fail))
    refine (load_of X7.out _ _ _ (by decide) (by decide) l2).mono ?_
    rintro e wa2 ⟨rfl, rfl⟩
    go_wp2_with ((go_at_call 18; fail))
    refine (load_of Y7.out _ _ _ (by decide) (by decide) l2).mono ?_
    rintro e wb2 ⟨rfl, rfl⟩
    go_wp2_with fail
    rw [rounds_succ]
    go_wp2_with ((go_at_call 18; fail))
    refine (load_of X7.out _ _ _ (by decide) (by decide) l3).mono ?_
    rintro e wa3 ⟨rfl, rfl⟩
    go_wp2_with ((go_at_call 18; fail))
    refine (load_of Y7.out _ _ _ (by decide) (by decide) l3).mono ?_
    rintro e wb3 ⟨rfl, rfl⟩
    go_wp2_with fail
    rw [rounds_succ]
    go_wp2_with ((go_at_call 19; fail))
    refine (leftA_of hX2 X7.out _ hxl).mono ?_
    rintro e w8 ⟨rfl, hb8⟩
    have k8 := K7.out.below hb8 K7.out.lt
    have y8 := Y7.out.below hb8 Y7.out.lt
    have b8 := B7.out.trans (hb8.mono B7.out.size)
    go_wp2_with ((go_at_call 19; fail))
    refine (leftA_of hX2 y8 _ hxl).mono ?_
    rintro e w9 ⟨rfl, hb9⟩
    have k9 := k8.below hb9 k8.lt
    have b9 := b8.trans (hb9.mono b8.size)
    clear k8 y8 b8
    go_wp2_with ((go_at_call 20; fail))
    refine (store_of hs k9 _ _ _ _ (by decide) (by decide) (by decide) (by decide) hS).mono ?_
    rintro e w10 ⟨rfl, T10⟩
    have b10 := b9.trans (T10.below_ hwb b9.size)
    have k10 := T10.hc
    clear T10 k9 b9
    cases he : s1.en
    · have hl : Hid (s1.left = 18446744073709551615) := Lib.hid (by unfold CS.left; rw [he]; rfl)
      have HE := Lib.hid he
      clear he
      go_wp2_with ((go_at_call 19; fail))
      refine (leftA_of o1 k10 _ hl).mono ?_
      rintro e w11 ⟨rfl, hb11⟩
      have k11 := k10.below hb11 k10.lt
      have b11 := b10.trans (hb11.mono b10.size)
      go_wp2_with ((go_at_call 21; fail))
      refine (runs_of o1 k11 _ HE).mono ?_
      rintro e w12 ⟨rfl, hb12⟩
      have b12 := b11.trans (hb12.mono b11.size)
      go_wp2_with (go_at_call 14; refine (known_count _).mono ?_; rintro e w13 ⟨rfl, hb13⟩)
      go_ret
      exact ⟨rfl, b12.trans (hb13.mono b12.size)⟩
    · obtain ⟨n, s2, s3, hl, n0, n1, t2, o2, l2', ld2, t3, ld3⟩ := left_law s1 o1 f1 he
      have HE := Lib.hid he
      clear he
      go_wp2_with ((go_at_call 19; fail))
      refine (leftA_of o1 k10 _ hl).mono ?_
      rintro e w11 ⟨rfl, hb11⟩
      have k11 := k10.below hb11 k10.lt
      have b11 := b10.trans (hb11.mono b10.size)
      go_wp2_with ((go_at_call 21; fail))
      refine (runs_of o1 k11 _ HE).mono ?_
      rintro e w12 ⟨rfl, hb12⟩
      have k12 := k11.below hb12 k11.lt
      have b12 := b11.trans (hb12.mono b11.size)
      go_wp2_with ((go_at_call 16; fail))
      refine (tick_of o1 k12 _ _ (by omega) (by omega) t2).mono ?_
      rintro e w13 ⟨rfl, T13⟩
      have b13 := b12.trans (T13.below_ hwb b12.size)
      have k13 := T13.hc
      clear T13
      go_wp2_with ((go_at_call 18; fail))
      refine (load_of k13 _ _ _ (by decide) (by decide) ld2).mono ?_
      rintro e w14 ⟨rfl, rfl⟩
      go_wp2_with ((go_at_call 19; fail))
      refine (leftA_of o2 k13 _ l2').mono ?_
      rintro e w15 ⟨rfl, hb15⟩
      have k15 := k13.below hb15 k13.lt
      have b15 := b13.trans (hb15.mono b13.size)
      go_wp2_with ((go_at_call 16; fail))
      refine (tick_of o2 k15 _ _ (by decide) (by decide) t3).mono ?_
      rintro e w16 ⟨rfl, T16⟩
      have b16 := b15.trans (T16.below_ hwb b15.size)
      have k16 := T16.hc
      clear T16
      go_wp2_with ((go_at_call 18; fail))
      refine (load_of k16 _ _ _ (by decide) (by decide) ld3).mono ?_
      rintro e w17 ⟨rfl, rfl⟩
      have hpos : decide (0 < n) = true := by simp; omega
      go_wp2_with (go_at_call 14; refine (known_count _).mono ?_; rintro e w18 ⟨rfl, hb18⟩)
      go_ret
      exact ⟨rfl, b16.trans (hb18.mono b16.size)⟩
end Go.Proofs.Ytfjkfigjenalgaa
