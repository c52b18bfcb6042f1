/- The walk of the law CountSteps. Its conditions: those that its statement shows. -/
import Derived.Test.YtfjkfigjenalgaaT1
import Derived.Deep.CutBlock
namespace Go.Proofs.Ytfjkfigjenalgaa
open Go.RowKit
set_option linter.unusedVariables false

/-- What holds ahead of each round, and behind all of them. -/
def StepsEnd (w : World) (g : Nat) (c : Value) (wx : World) : Prop :=
  ∃ b s, c = .pointer (some ⟨b, 0, none⟩) ∧ CS.Ok s ∧ HC wx b s ∧ Blk wx g s.rc 27 ∧ g ≠ b ∧ w.heap.size ≤ b ∧ Below w.heap.size w wx

theorem steps_cut {w w0 w3 : World} {g b b' : Nat} {s sb s' : CS} (T3 : Stored w0.drew w3 b sb) (H3 : HC w3 b' s') (R3 : Blk w3 g s.rc 27) (hgb : g ≠ b) (hor : b' = b ∨ w0.drew.heap.size ≤ b') (hs : s'.Ok)
    (hlt : g < w0.heap.size) (hwb : w.heap.size ≤ b) (hwg : w.heap.size ≤ g) (hb : Below w.heap.size w w0) :
    StepsEnd w g (.pointer (some ⟨b', 0, none⟩)) ((((((((w3.setCell ⟨g, 0, none⟩ (U s'.load)).setCell ⟨g, 1, none⟩ (U s'.value)).setCell ⟨g, 2, none⟩ (.bool s'.en)).setCell ⟨g, 3, none⟩ (.bool s'.re)).setCell ⟨g, 4, none⟩ (.bool s'.ir)).setCell ⟨g, 5, none⟩ (U s'.scale)).setCell ⟨g, 6, none⟩ (U s'.phase)).setCell ⟨g, 7, none⟩ (.bool s'.st)) := by
  obtain ⟨b1, s1, h1, _, h2, h3, h4, h5, h6, h7⟩ := plays_cut T3 H3 R3 hgb hor hs hlt hwb hwg hb
  exact ⟨b1, s1, h1, h2, h3, h4, h5, h6, h7⟩

abbrev W8 (w : World) (g : Nat) (s' : CS) : World := ((((((((w.setCell ⟨g, 0, none⟩ (U s'.load)).setCell ⟨g, 1, none⟩ (U s'.value)).setCell ⟨g, 2, none⟩ (.bool s'.en)).setCell ⟨g, 3, none⟩ (.bool s'.re)).setCell ⟨g, 4, none⟩ (.bool s'.ir)).setCell ⟨g, 5, none⟩ (U s'.scale)).setCell ⟨g, 6, none⟩ (U s'.phase)).setCell ⟨g, 7, none⟩ (.bool s'.st))
theorem W8.below {w0 w : World} {g B : Nat} {s' : CS} (h : Below B w0 w) (hg : B ≤ g) : Below B w0 (W8 w g s') := by
  iterate 8 (refine bset ?_ hg)
  exact h
theorem W8.hc {w : World} {g b : Nat} {s' s : CS} (h : HC w b s) (hne : g ≠ b) : HC (W8 w g s') b s := by
  iterate 8 (refine HC.set_ne ?_ hne _ _)
  exact h

theorem one_ofs (s : CS) (h : s.Ok) (s' : CS) (hv : Hid (s.one = s')) (w : World) : Calls Try.prog 17 #[.agg s.rc] w fun e w' => e = .returned (.agg s'.rc) ∧ Below w.heap.size w w' := by
  have := one_ref s h w
  rw [hv.out] at this; exact this

/-- What holds ahead of each single tick. -/
def TickRel (w : World) (s : CS) (b b2 g N : Nat) (k : Nat) (i : Value) (wr : World) : Prop :=
  ∃ m : Nat, i = L (m : Nat) ∧ m ≤ N ∧ k = N - m ∧ HC wr b (s.tick N) ∧ HC wr b2 (s.tick m) ∧ Blk wr g (s.tick m).rc 27 ∧ Below w.heap.size w wr

set_option maxHeartbeats 4000000 in
theorem steps_walk (w : World) (A : Option Addr) (len cap : Nat) (n1 : Int) (hlen : len ≤ maxLen) (ha : Acts w A len) (hn1 : (Lit.int .u64 n1).wf = true) :
    Calls Try.prog 4 #[.slice A len cap, L n1] w fun e w' => e = .returned (.bool true) ∧ Below w.heap.size w w' := by
  unfold maxLen at hlen
  have hn := (show 0 ≤ n1 ∧ n1 ≤ 18446744073709551615 by simp [Lit.wf, IntKind.min, IntKind.max, IntKind.signed, IntKind.bits] at hn1; omega)
  obtain ⟨nlo, nhi⟩ := hn
  clear hn1
  have HA := Lib.hid ha; clear ha
  go_enter Try.func4, Try.ntmps4
  go_wp2_with ((go_at_call 11; fail))
  refine (new_any _).mono ?_
  rintro e w1 ⟨rfl, hw1⟩
  have H1 : HC w1 w.heap.size CS.zero := by rw [← hw1]; exact Blk.new _ _ _
  have B1 : Below w.heap.size w w1 := by rw [← hw1]; exact (Below.refl _ _).alloc (Nat.le_refl _) _
  have z1 : w1.heap.size = w.heap.size + 1 := by rw [← hw1]; simp
  clear hw1
  have Z1 := Lib.hid z1; clear z1
  go_upto_block 0 with fail
  have B2 : Hid (Below w.heap.size w (w1.alloc (.cells rz 27))) := Lib.hid (B1.alloc (by have := Z1.out; omega) _)
  have H2 : Hid (HC (w1.alloc (.cells rz 27)) w.heap.size CS.zero) := Lib.hid (H1.alloc _)
  have R2 : Hid (Blk (w1.alloc (.cells rz 27)) w1.heap.size (CS.rc CS.zero) 27) := Lib.hid (Blk.new w1 rz 27)
  have hg : Hid (w1.heap.size ≠ w.heap.size ∧ w.heap.size ≤ w1.heap.size) := Lib.hid (by have := Z1.out; omega)
  clear H1 B1 Z1
  change Code.wp _ _ _ _ (w1.alloc (.cells rz 27))
  generalize w1.alloc (.cells rz 27) = w2 at *
  generalize w1.heap.size = g at *
  go_cut [5] (fun c wx => StepsEnd w g c wx)
  case first =>
    go_wp2_with fail
    go_loopg [5, 7] 20 (fun k c i wr => PlaysRel w g len 20 k c i wr)
    case atStart => exact ⟨w.heap.size, CS.zero, 0, rfl, rfl, by omega, by omega, rfl, CS.zero_ok, H2.out, R2.out, hg.out.1, Nat.le_refl _, hg.out.2, B2.out⟩
    case round =>
      obtain ⟨b, s, n, rfl, rfl, hn, hnl, hk, hs, hc, hr, hgb, hwb, hwg, hb⟩ := hrel
      by_cases hlt : n < len
      · by_cases h80 : n < 20
        · have hd1 : decide ((n : Int) < (len : Int)) = true := by simp; omega
          have hd2 : decide ((n : Int) < 20) = true := by simp; omega
          obtain ⟨sb, so, ak, an, ao, av, hA, hat⟩ := HA.out n hlt
          subst hA
          have hat' := hat
          obtain ⟨⟨n0, n1, o0, o1, v0, v1⟩, hx1, hx2, hx3, hx4⟩ := hat
          go_upto_region 7 with fail
          obtain ⟨_, a0, a1, a2, a3⟩ := hat'.below hb
          clear hx1 hx2 hx3 hx4 hat'
          have HB := Lib.hid hb
          have HH := Lib.hid hc
          have HR := Lib.hid hr
          have hlt9 := hr.lt
          have hK := Lib.hid hk
          clear hb hc hr hk
          have d0 := HR.out.cell 0 rfl; have d1 := HR.out.cell 1 rfl; have d2 := HR.out.cell 2 rfl; have d3 := HR.out.cell 3 rfl; have d4 := HR.out.cell 4 rfl; have d5 := HR.out.cell 5 rfl; have d6 := HR.out.cell 6 rfl; have d7 := HR.out.cell 7 rfl
          have b0 : (0 : Int) ≤ (n : Int) := by omega
          have b1 : (n : Int) < (len : Int) := by omega
          go_cut [5] from 14 to 36 (fun c wx => StepsEnd w g c wx)
          case first =>
            go_region_with (go_at_call 12; refine (do_any hs (HC.drew HH.out) ak an ao av n0 n1 o0 o1 v0 v1).mono ?_; rintro e w3 ⟨b', sb', rfl, T3, H3, hor⟩; have R3 := Blk.stored (Blk.drew HR.out) T3 hgb; have d30 := R3.cell 0 rfl; have d31 := R3.cell 1 rfl; have d32 := R3.cell 2 rfl; have d33 := R3.cell 3 rfl; have d34 := R3.cell 4 rfl; have d35 := R3.cell 5 rfl; have d36 := R3.cell 6 rfl; have d37 := R3.cell 7 rfl; have y30 := R3.free 0; have y31 := R3.free 1; have y32 := R3.free 2; have y33 := R3.free 3; have y34 := R3.free 4; have y35 := R3.free 5; have y36 := R3.free 6; have y37 := R3.free 7)
            all_goals go_simp
            all_goals go_wp2
            all_goals go_meet
            all_goals exact steps_cut T3 H3 R3 hgb hor (doB_ok hs ak an ao av n0 v0 v1) hlt9 hwb hwg HB.out
          case rest =>
            obtain ⟨b', s', rfl, hs', hc', hr', hgb', hwb', hb'⟩ := hcut
            clear HH HR hlt9 HB d0 d1 d2 d3 d4 d5 d6 d7 a0 a1 a2 a3
            go_wp2_with fail
            go_roundg (20 - (n + 1))
            case measure => have := hK.out; omega
            case rel => exact ⟨b', s', n + 1, rfl, by go_num, by omega, by omega, rfl, hs', hc', hr', hgb', hwb', hwg, hb'⟩
        · have hd1 : decide ((n : Int) < (len : Int)) = true := by simp; omega
          have hd2 : decide ((n : Int) < 20) = false := by simp; omega
          have HB := Lib.hid hb
          clear hb hk
          go_wp2_with fail
          go_meet
          exact ⟨b, s, rfl, hs, hc, hr, hgb, hwb, HB.out⟩
      · have hd1 : decide ((n : Int) < (len : Int)) = false := by simp; omega
        have HB := Lib.hid hb
        clear hb hk
        go_wp2_with fail
        go_meet
        exact ⟨b, s, rfl, hs, hc, hr, hgb, hwb, HB.out⟩
  case rest =>
    obtain ⟨b, s, rfl, hs, hc, hr, hgb, hwb, hb⟩ := hcut
    have hwg := hg.out.2
    clear B2 H2 R2 hg HA
    obtain ⟨N, hN⟩ : ∃ N : Nat, n1 % 401 = N := ⟨(n1 % 401).toNat, by omega⟩
    have hNb : N ≤ 400 := by omega
    have HN := Lib.hid hN
    have hN' : n1.tmod 401 = N := by rw [Int.tmod_eq_emod_of_nonneg nlo]; exact hN
    go_wp2_with ((go_at_call 15; fail))
    clear hN hN'
    refine (copy_any hc).mono ?_
    rintro e w3 ⟨rfl, hw3⟩
    have h2 : HC w3 wc.heap.size s := by rw [← hw3]; exact Blk.new _ _ _
    have h1 : HC w3 b s := by rw [← hw3]; exact hc.alloc _
    have r1 := show Blk w3 g s.rc 27 by rw [← hw3]; exact hr.alloc _
    have b3 := show Below w.heap.size w w3 by rw [← hw3]; exact hb.alloc hb.size _
    have hbb : wc.heap.size ≠ b ∧ g ≠ wc.heap.size ∧ w.heap.size ≤ wc.heap.size := ⟨by have := hc.lt; omega, by have := hr.lt; omega, hb.size⟩
    clear hw3 hc hr hb
    generalize wc.heap.size = b2 at *
    obtain ⟨hb2b, hgb2, hwb2⟩ := hbb
    go_wp2_with ((go_at_call 16; fail))
    refine (tick_any hs h1 (N : Int) (by omega) (by omega)).mono ?_
    rintro e w4 ⟨rfl, T4⟩
    have h2' := Blk.stored h2 T4 hb2b
    have r2 := Blk.stored r1 T4 hgb
    have b4 := b3.trans (T4.below_ hwb b3.size)
    have h1' := T4.hc
    clear h1 h2 r1 b3 T4
    have HH1 := Lib.hid h1'
    have HH2 := Lib.hid h2'
    have HR2 := Lib.hid r2
    have HB4 := Lib.hid b4
    clear h1' h2' r2 b4
    go_wp2_with fail
    go_loopg [9] N (fun k i wr => TickRel w s b b2 g N k i wr)
    case atStart => exact ⟨0, rfl, by omega, rfl, HH1.out, by rw [show ((0 : Nat) : Int) = 0 from rfl, CS.tick_zero s hs]; exact HH2.out, by rw [show ((0 : Nat) : Int) = 0 from rfl, CS.tick_zero s hs]; exact HR2.out, HB4.out⟩
    case round =>
      obtain ⟨m, rfl, hm, hk, q1, q2, q3, q4⟩ := hrel
      have hsm := s.tick_ok hs m (by omega)
      by_cases hlt : m < N
      · have hd : decide ((m : Int) < (N : Int)) = true := by simp; omega
        have hadd : (s.tick m).tick 1 = s.tick ((m + 1 : Nat) : Int) := by rw [s.tick_add hs _ _ (by omega) (by omega)]; rfl
        have hone := CS.one_eq _ hsm
        rw [hadd] at hone
        have HO := Lib.hid hone
        have HT := Lib.hid hadd
        have hK := Lib.hid hk
        clear hadd hone hk
        have Q1 := Lib.hid q1
        have Q2 := Lib.hid q2
        have Q3 := Lib.hid q3
        have Q4 := Lib.hid q4
        have q00 := q3.cell 0 rfl; have q01 := q3.cell 1 rfl; have q02 := q3.cell 2 rfl; have q03 := q3.cell 3 rfl; have q04 := q3.cell 4 rfl; have q05 := q3.cell 5 rfl; have q06 := q3.cell 6 rfl; have q07 := q3.cell 7 rfl; have y00 := q3.free 0; have y01 := q3.free 1; have y02 := q3.free 2; have y03 := q3.free 3; have y04 := q3.free 4; have y05 := q3.free 5; have y06 := q3.free 6; have y07 := q3.free 7
        clear q1 q2 q3 q4
        have tok := s.tick_ok hs ((m + 1 : Nat) : Int) (by omega)
        have hoT : ∃ s1 t1, Hid (s1 = s.tick ((m + 1 : Nat) : Int)) ∧ Hid ((s.tick m).one = s1) ∧ Hid (t1 = s.tick m) := ⟨_, _, Lib.hid rfl, HO, Lib.hid rfl⟩
        obtain ⟨s1, t1, hs1, ho1, ht1⟩ := hoT
        go_wp2_with ((go_at_call 17; fail))
        refine (one_ofs _ hsm s1 ho1 _).mono ?_
        rintro e w5 ⟨rfl, hb5⟩
        have R5 := Q3.out.below hb5 Q3.out.lt
        have H5 := Q1.out.below hb5 Q1.out.lt
        have H52 := Q2.out.below hb5 Q2.out.lt
        have B5 := Q4.out.trans (hb5.mono Q4.out.size)
        have c50 := R5.cell 0 rfl; have c51 := R5.cell 1 rfl; have c52 := R5.cell 2 rfl; have c53 := R5.cell 3 rfl; have c54 := R5.cell 4 rfl; have c55 := R5.cell 5 rfl; have c56 := R5.cell 6 rfl; have c57 := R5.cell 7 rfl; have z50 := R5.free 0; have z51 := R5.free 1; have z52 := R5.free 2; have z53 := R5.free 3; have z54 := R5.free 4; have z55 := R5.free 5; have z56 := R5.free 6; have z57 := R5.free 7
        clear q00 y00 q01 y01 q02 y02 q03 y03 q04 y04 q05 y05 q06 y06 q07 y07
        go_wp2_with ((go_at_call 16; fail))
        refine (tick_any (w := W8 w5 g s1) hsm (W8.hc H52 hgb2) 1 (by omega) (by omega)).mono ?_
        rintro e w6 ⟨rfl, T6⟩
        have R6 := Blk.stored (rc_set8 (s' := s1) R5) T6 hgb2
        have H6 := Blk.stored (W8.hc (s' := s1) H5 hgb) T6 (Ne.symm hb2b)
        have B6 := (W8.below (s' := s1) B5 hwg).trans (T6.below_ hwb2 (by have := (W8.below (s' := s1) B5 hwg).size; exact this))
        have H62 := T6.hc
        rw [HT.out] at H62
        rw [hs1.out] at R6
        clear c50 z50 c51 z51 c52 z52 c53 z53 c54 z54 c55 z55 c56 z56 c57 z57
        go_wp2_with fail
        go_roundg (N - (m + 1))
        case measure => have := hK.out; omega
        case rel => exact ⟨m + 1, by go_num, by omega, rfl, H6, H62, R6, B6⟩
      · obtain rfl : m = N := by omega
        have hd : decide ((m : Int) < (m : Int)) = false := by simp
        have Q1 := Lib.hid q1
        have Q2 := Lib.hid q2
        have Q3 := Lib.hid q3
        have Q4 := Lib.hid q4
        clear q1 q2 q3 q4 hk
        go_wp2_with ((go_at_call 14; fail))
        refine (known_count _).mono ?_
        rintro e w5 ⟨rfl, hb5⟩
        have R5 := Q3.out.below hb5 Q3.out.lt
        have H5 := Q1.out.below hb5 Q1.out.lt
        have H52 := Q2.out.below hb5 Q2.out.lt
        have B5 := Q4.out.trans (hb5.mono Q4.out.size)
        have c50 := R5.cell 0 rfl; have c51 := R5.cell 1 rfl; have c52 := R5.cell 2 rfl; have c53 := R5.cell 3 rfl; have c54 := R5.cell 4 rfl; have c55 := R5.cell 5 rfl; have c56 := R5.cell 6 rfl; have c57 := R5.cell 7 rfl
        go_wp2_with ((go_at_call 13; fail))
        clear c50 c51 c52 c53 c54 c55 c56 c57
        refine (alike_any hsm H5).mono ?_
        rintro e w6 ⟨rfl, hb6⟩
        have R6 := R5.below hb6 R5.lt
        have H62 := H52.below hb6 H52.lt
        have B6 := B5.trans (hb6.mono B5.size)
        have c60 := R6.cell 0 rfl; have c61 := R6.cell 1 rfl; have c62 := R6.cell 2 rfl; have c63 := R6.cell 3 rfl; have c64 := R6.cell 4 rfl; have c65 := R6.cell 5 rfl; have c66 := R6.cell 6 rfl; have c67 := R6.cell 7 rfl
        go_wp2_with ((go_at_call 13; fail))
        refine (alike_any hsm H62).mono ?_
        rintro e w7 ⟨rfl, hb7⟩
        go_wp2_with fail
        go_ret
        exact ⟨rfl, B6.trans (hb7.mono B6.size)⟩
end Go.Proofs.Ytfjkfigjenalgaa
