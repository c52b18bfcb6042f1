/- The law's own functions: a bank and the document's timers are alike. No conditions beyond those that each statement shows. -/
import Derived.Test.YtfjkfigjenalgaaX6
import Derived.Deep.RegionHeld3
namespace Go.Proofs.Ytfjkfigjenalgaa
open Go.RowKit
set_option linter.unusedVariables false
set_option linter.unusedSimpArgs false

section
variable {w w' : World} {bb ab cap g gc : Nat} {cs : List Nat} {ss : List CS}

theorem lines_of (h : BK w bb ab cap cs ss) {a : Int} (hv : Hid (wordN ss (fun s => s.st && s.ir) ss.length = a)) : Calls Try.prog 36 #[.pointer (some ⟨bb, 0, none⟩)] w fun e w' => e = .returned (U a) ∧ Below w.heap.size w w' := by
  rw [← hv.out]; exact blines_any h
theorem runs_of (h : BK w bb ab cap cs ss) {a : Int} (hv : Hid (wordN ss (fun s => s.en) ss.length = a)) : Calls Try.prog 30 #[.pointer (some ⟨bb, 0, none⟩)] w fun e w' => e = .returned (U a) ∧ Below w.heap.size w w' := by
  rw [← hv.out]; exact bruns_any h
theorem words_of (h : RL w g ss) {a b : Int} (hv : Hid (wordN ss (fun s => s.st && s.ir) ss.length = a)) (hv2 : Hid (wordN ss (fun s => s.en) ss.length = b)) : Calls Try.prog 51 #[.slice (some ⟨g, 0, none⟩) ss.length gc] w fun e w' => e = .returned (.tuple #[U a, U b]) ∧ w = w' := by
  rw [← hv.out, ← hv2.out]; exact rwords_any h
theorem bleft_of (h : BK w bb ab cap cs ss) {a b : Int} (hv : Hid (leftN ss ss.length = (a, b))) : Calls Try.prog 29 #[.pointer (some ⟨bb, 0, none⟩)] w fun e w' => e = .returned (.tuple #[L a, I b]) ∧ Below w.heap.size w w' := by
  have := bleft_any h
  rw [hv.out] at this; exact this
theorem rleft_of (h : RL w g ss) {a b : Int} (hv : Hid (leftN ss ss.length = (a, b))) : Calls Try.prog 52 #[.slice (some ⟨g, 0, none⟩) ss.length gc] w fun e w' => e = .returned (.tuple #[L a, I b]) ∧ Below w.heap.size w w' := by
  have := rleft_any (cap := gc) h
  rw [leftD_eq ss h.ok, hv.out] at this; exact this

def RelAl (w0 : World) (ss : List CS) (k : Nat) (i : Value) (wr : World) : Prop :=
  ∃ q : Nat, i = I (q : Nat) ∧ q ≤ ss.length ∧ k = ss.length - q ∧ Below w0.heap.size w0 wr

set_option maxRecDepth 100000 in
set_option maxHeartbeats 600000 in
theorem balike_any (h : BK w bb ab cap cs ss) (r : RL w g ss) :
    Calls Try.prog 27 #[.pointer (some ⟨bb, 0, none⟩), .slice (some ⟨g, 0, none⟩) ss.length gc] w fun e w' => e = .returned (.bool true) ∧ Below w.heap.size w w' := by
  have hhi := h.hi
  have hlo := h.lo
  have HH := Lib.hid h
  have RR := Lib.hid r
  obtain ⟨hi, H1⟩ : ∃ a, Hid (wordN ss (fun s => s.st && s.ir) ss.length = a) := ⟨_, Lib.hid rfl⟩
  obtain ⟨ru, H2⟩ : ∃ a, Hid (wordN ss (fun s => s.en) ss.length = a) := ⟨_, Lib.hid rfl⟩
  obtain ⟨lf, at', H3⟩ : ∃ a b, Hid (leftN ss ss.length = (a, b)) := ⟨_, _, Lib.hid rfl⟩
  clear h r
  go_enter Try.func27, Try.ntmps27
  go_wp2_with (first | (go_at_call 35; refine (len_any HH.out).mono ?_; rintro e w2 ⟨rfl, rfl⟩) | (go_at_call 51; refine (words_of RR.out H1 H2).mono ?_; rintro e w2 ⟨rfl, rfl⟩) | (go_at_call 52; fail))
  refine (rleft_of RR.out H3).mono ?_
  rintro e w2 ⟨rfl, b2⟩
  have B2 := Lib.hid b2
  clear b2
  go_wp2_with (go_at_call 29; fail)
  refine (bleft_of (HH.out.below B2.out) H3).mono ?_
  rintro e w3 ⟨rfl, b3⟩
  have B3 := Lib.hid (B2.out.trans (b3.mono B2.out.size))
  clear b3 B2
  go_wp2_with (go_at_call 36; fail)
  refine (lines_of (HH.out.below B3.out) H1).mono ?_
  rintro e w4 ⟨rfl, b4⟩
  have B4 := Lib.hid (B3.out.trans (b4.mono B3.out.size))
  clear b4 B3
  go_wp2_with (go_at_call 30; fail)
  refine (runs_of (HH.out.below B4.out) H2).mono ?_
  rintro e w5 ⟨rfl, b5⟩
  have B5 := Lib.hid (B4.out.trans (b5.mono B4.out.size))
  clear b5 B4
  have HH5 := Lib.hid (HH.out.below B5.out)
  go_wp2_with (go_at_call 33; fail)
  refine (timer_low HH5.out).mono ?_
  rintro e w6 ⟨rfl, rfl⟩
  go_wp2_with (go_at_call 33; fail)
  refine (timer_high HH5.out).mono ?_
  rintro e w6 ⟨rfl, rfl⟩
  go_wp2_with fail
  go_loopg [11] ss.length (fun k i wr => RelAl w ss k i wr)
  case atStart => exact ⟨0, rfl, by omega, rfl, B5.out⟩
  case round =>
    obtain ⟨q, rfl, hq, hk, hb⟩ := hrel
    have HK := Lib.hid hk
    have HB := Lib.hid hb
    clear hk B5 HH5
    by_cases hlt : q < ss.length
    · have hd : decide ((q : Int) < (ss.length : Int)) = true := by simp; omega
      have hB := HH.out.below hb
      have hR := RR.out.below hb RR.out.lt
      obtain ⟨c, s, e1, e2, hm, hc, ok, hcell⟩ := hB.nth (k := q) hlt
      have E2 := Lib.hid e2
      have b1 := (Below.refl wr.heap.size wr).alloc (Nat.le_refl _) (.cells s.cells 67)
      have hR1 := hR.below b1 hR.lt
      have hR2 := hR1.below (Below.refl (wr.alloc (.cells s.cells 67)).heap.size (wr.alloc (.cells s.cells 67))).drew hR1.lt
      have c0 : wr.cell? ⟨g, q * 8, none⟩ = some (U s.load) := hR.at_ q s E2.out 0 _ rfl; have c1 := hR.at_ q s E2.out 1 _ rfl; have c2 := hR.at_ q s E2.out 2 _ rfl; have c3 := hR.at_ q s E2.out 3 _ rfl; have c4 := hR.at_ q s E2.out 4 _ rfl; have c5 := hR.at_ q s E2.out 5 _ rfl; have c6 := hR.at_ q s E2.out 6 _ rfl; have c7 := hR.at_ q s E2.out 7 _ rfl
      have d0 : (wr.alloc (.cells s.cells 67)).cell? ⟨g, q * 8, none⟩ = some (U s.load) := hR1.at_ q s E2.out 0 _ rfl; have d1 := hR1.at_ q s E2.out 1 _ rfl; have d2 := hR1.at_ q s E2.out 2 _ rfl; have d3 := hR1.at_ q s E2.out 3 _ rfl; have d4 := hR1.at_ q s E2.out 4 _ rfl; have d5 := hR1.at_ q s E2.out 5 _ rfl; have d6 := hR1.at_ q s E2.out 6 _ rfl; have d7 := hR1.at_ q s E2.out 7 _ rfl
      have f0 : (wr.alloc (.cells s.cells 67)).drew.cell? ⟨g, q * 8, none⟩ = some (U s.load) := hR2.at_ q s E2.out 0 _ rfl; have f1 := hR2.at_ q s E2.out 1 _ rfl; have f2 := hR2.at_ q s E2.out 2 _ rfl; have f3 := hR2.at_ q s E2.out 3 _ rfl; have f4 := hR2.at_ q s E2.out 4 _ rfl; have f5 := hR2.at_ q s E2.out 5 _ rfl; have f6 := hR2.at_ q s E2.out 6 _ rfl; have f7 := hR2.at_ q s E2.out 7 _ rfl
      have HT := Lib.hid (timer_ok (hB.below (Below.refl wr.heap.size wr).drew) q c s hlt e1 e2)
      have HA := Lib.hid (alike_any ok (show HC ((wr.alloc (.cells s.cells 67)).drew) wr.heap.size s from HC.drew (Blk.new wr s.cells 67)))
      have HR2 := Lib.hid hR2
      have HB2 := Lib.hid (hb.trans ((b1.drew).mono hb.size))
      have nn0 : (0 : Int) ≤ (q : Int) := by omega
      have nn1 : (q : Int) < (ss.length : Int) := by omega
      clear hb hB hR hR1 hR2 e1 e2 hm hc ok hcell b1
      obtain ⟨ld, va, en, re, ir, sc, ph, st⟩ := s
      dsimp only at c0 c1 c2 c3 c4 c5 c6 c7 d0 d1 d2 d3 d4 d5 d6 d7 f0 f1 f2 f3 f4 f5 f6 f7
      go_wp2_with fail
      go_region_held3 (fun W => W.cell? ⟨g, q * 8, none⟩ = some (U ld) ∧ W.cell? ⟨g, q * 8 + 1, none⟩ = some (U va) ∧ W.cell? ⟨g, q * 8 + 2, none⟩ = some (.bool en) ∧ W.cell? ⟨g, q * 8 + 3, none⟩ = some (.bool re) ∧ W.cell? ⟨g, q * 8 + 4, none⟩ = some (.bool ir) ∧ W.cell? ⟨g, q * 8 + 5, none⟩ = some (U sc) ∧ W.cell? ⟨g, q * 8 + 6, none⟩ = some (U ph) ∧ W.cell? ⟨g, q * 8 + 7, none⟩ = some (.bool st)) (go_keep) (first | (go_at_call 33; refine HT.out.mono ?_; rintro e w6 ⟨rfl, rfl⟩) | (go_at_call 13; refine HA.out.mono ?_; rintro e w6 ⟨rfl, hb6⟩; (have R6 := HR2.out.below hb6 HR2.out.lt); (have k0 : w6.cell? ⟨g, q * 8, none⟩ = some (U ld) := R6.at_ q _ E2.out 0 _ rfl); (have k1 := R6.at_ q _ E2.out 1 _ rfl); (have k2 := R6.at_ q _ E2.out 2 _ rfl); (have k3 := R6.at_ q _ E2.out 3 _ rfl); (have k4 := R6.at_ q _ E2.out 4 _ rfl); (have k5 := R6.at_ q _ E2.out 5 _ rfl); (have k6 := R6.at_ q _ E2.out 6 _ rfl); (have k7 := R6.at_ q _ E2.out 7 _ rfl); (have HB6 := Lib.hid (HB2.out.trans (hb6.mono HB2.out.size))); (clear hb6 R6)))
      clear k0 k1 k2 k3 k4 k5 k6 k7 c0 c1 c2 c3 c4 c5 c6 c7 d0 d1 d2 d3 d4 d5 d6 d7 f0 f1 f2 f3 f4 f5 f6 f7
      go_wp2_with fail
      go_roundg (ss.length - (q + 1))
      case measure => have := HK.out; omega
      case rel => exact ⟨q + 1, by go_num, by omega, rfl, HB6.out⟩
    · have hqe : q = ss.length := by omega
      have hd : decide ((q : Int) < (ss.length : Int)) = false := by simp; omega
      rw [hqe]
      rw [hqe] at hd
      clear hqe hlt hq hb
      go_wp2_with fail
      go_ret
      exact ⟨rfl, HB.out⟩
end
end Go.Proofs.Ytfjkfigjenalgaa
