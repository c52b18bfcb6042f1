/- The contract of the document's ticks, continued. Its conditions: those that its statement shows. -/
import Derived.Test.YtfjkfigjenalgaaR7
import Derived.StillTailTactics
namespace Go.Proofs.Ytfjkfigjenalgaa
open Go.RowKit
set_option linter.unusedVariables false

section
variable (l v sc ph : Int) (ir st : Bool) (w : World)

set_option maxHeartbeats 4000000 in
theorem tref_again (h : CS.Ok ⟨l, v, true, true, ir, sc, ph, st⟩) (n Lf : Int) (hL : Hid (CS.left ⟨l, v, true, true, ir, sc, ph, st⟩ = Lf)) (l1 : 1 ≤ Lf) (hge : Lf ≤ n) (n1 : n ≤ 18446744073709551615) (c P : Int) (hl : 0 < l) (hP : l * (sc + 1) = P) (hPb : P ≤ 1099511627520) (hPL : Hid (CS.left ⟨l, l, true, true, ir, sc, 0, true⟩ = P)) (hc : (n - Lf) % P = c) (c0 : 0 < c) (c1 : c < P) (ht : Hid (CS.one ⟨l, 1, true, true, ir, sc, sc, st⟩ = ⟨l, l, true, true, ir, sc, 0, true⟩)) (q r : Int) (hq : c / (sc + 1) = q) (hr : c % (sc + 1) = r) (q0 : 0 ≤ q) (q1 : q ≤ l) :
    Calls Try.prog 38 #[.agg (CS.rc ⟨l, v, true, true, ir, sc, ph, st⟩), L n] w fun e w' => e = .returned (.agg #[U l, U (l - q), .bool true, .bool true, .bool ir, U sc, U (r), .bool true]) ∧ Below w.heap.size w w' := by
  have s0 : 0 ≤ sc := h.s0
  have s1 : sc ≤ 255 := h.s1
  have ll0 : 0 ≤ l := h.l0
  have ll1 : l ≤ 4294967295 := h.l1
  have hok' : CS.Ok ⟨l, 1, true, true, ir, sc, sc, st⟩ := ⟨h.l0, h.l1, by show (0 : Int) ≤ 1; omega, by show (1 : Int) ≤ _; omega, h.s0, h.s1, h.s0, Int.le_refl _⟩
  have hok1 : CS.Ok ⟨l, l, true, true, ir, sc, 0, true⟩ := ⟨h.l0, h.l1, by first | (show (0 : Int) ≤ 0; omega) | (show (0 : Int) ≤ l; omega), by first | (show (0 : Int) ≤ 4294967295; omega) | (show l ≤ (4294967295 : Int); omega), h.s0, h.s1, by show (0 : Int) ≤ 0; omega, h.s0⟩
  have hB := Blk.new w (CS.rc ⟨l, v, true, true, ir, sc, ph, st⟩) 27
  have hD := hB.alloc (.cells rz 27)
  have hZ : Blk ((w.alloc (.cells (CS.rc ⟨l, v, true, true, ir, sc, ph, st⟩) 27)).alloc (.cells rz 27)) (w.heap.size + 1) rz 27 := by simpa using Blk.new (w.alloc (.cells (CS.rc ⟨l, v, true, true, ir, sc, ph, st⟩) 27)) rz 27
  have hb0 : Below w.heap.size w ((w.alloc (.cells (CS.rc ⟨l, v, true, true, ir, sc, ph, st⟩) 27)).alloc (.cells rz 27)) := ((Below.refl _ _).alloc (Nat.le_refl _) _).alloc (by simp) _
  clear hB
  have HD := Lib.hid hD; have HZ := Lib.hid hZ; have HB := Lib.hid hb0; clear hD hZ hb0
  go_enter Try.func38, Try.ntmps38
  go_wp2_with fail
  refine wp_loop_rounds 2 ?_
  rw [rounds_succ]
  go_wp2_with ((go_at_call 41; fail))
  refine (left_of ⟨l, v, true, true, ir, sc, ph, st⟩ h _ hL _).mono ?_
  rintro e w2 ⟨rfl, hb2⟩
  have D2 := HD.out.below hb2 HD.out.lt; have Z2 := HZ.out.below hb2 HZ.out.lt; have B2 := HB.out.trans (hb2.mono HB.out.size)
  have d20 := D2.cell 0 rfl; have d21 := D2.cell 1 rfl; have d22 := D2.cell 2 rfl; have d23 := D2.cell 3 rfl; have d24 := D2.cell 4 rfl; have d25 := D2.cell 5 rfl; have d26 := D2.cell 6 rfl; have d27 := D2.cell 7 rfl; have x20 := D2.free 0; have x21 := D2.free 1; have x22 := D2.free 2; have x23 := D2.free 3; have x24 := D2.free 4; have x25 := D2.free 5; have x26 := D2.free 6; have x27 := D2.free 7
  go_wp2_with ((go_at_call 41; fail))
  refine (left_of ⟨l, v, true, true, ir, sc, ph, st⟩ h _ hL _).mono ?_
  rintro e w3 ⟨rfl, hb3⟩
  have D3 := D2.below hb3 D2.lt; have Z3 := Z2.below hb3 Z2.lt; have B3 := B2.trans (hb3.mono B2.size)
  clear d20 d21 d22 d23 d24 d25 d26 d27 x20 x21 x22 x23 x24 x25 x26 x27
  have d30 := D3.cell 0 rfl; have d31 := D3.cell 1 rfl; have d32 := D3.cell 2 rfl; have d33 := D3.cell 3 rfl; have d34 := D3.cell 4 rfl; have d35 := D3.cell 5 rfl; have d36 := D3.cell 6 rfl; have d37 := D3.cell 7 rfl; have x30 := D3.free 0; have x31 := D3.free 1; have x32 := D3.free 2; have x33 := D3.free 3; have x34 := D3.free 4; have x35 := D3.free 5; have x36 := D3.free 6; have x37 := D3.free 7
  go_wp2_with ((go_at_call 17; fail))
  have D4 : Blk ((w3.setCell ⟨w.heap.size, 6, none⟩ (U sc)).setCell ⟨w.heap.size, 1, none⟩ (U 1)) w.heap.size (CS.rc ⟨l, 1, true, true, ir, sc, sc, st⟩) 27 := by
    have a1 : Blk (w3.setCell ⟨w.heap.size, 6, none⟩ (U sc)) w.heap.size #[U l, U v, .bool true, .bool true, .bool ir, U sc, U sc, .bool st] 27 := D3.set 6 (U sc)
    exact a1.set 1 (U 1)
  have Z4 : Blk ((w3.setCell ⟨w.heap.size, 6, none⟩ (U sc)).setCell ⟨w.heap.size, 1, none⟩ (U 1)) (w.heap.size + 1) rz 27 := (Z3.set_ne 6 (U sc) (by omega)).set_ne 1 (U 1) (by omega)
  have B4 : Below w.heap.size w ((w3.setCell ⟨w.heap.size, 6, none⟩ (U sc)).setCell ⟨w.heap.size, 1, none⟩ (U 1)) := bset (bset B3 (Nat.le_refl _)) (Nat.le_refl _)
  clear d30 d31 d32 d33 d34 d35 d36 d37 x30 x31 x32 x33 x34 x35 x36 x37
  generalize (w3.setCell ⟨w.heap.size, 6, none⟩ (U sc)).setCell ⟨w.heap.size, 1, none⟩ (U 1) = w4 at *
  refine (one_of ⟨l, 1, true, true, ir, sc, sc, st⟩ ⟨l, l, true, true, ir, sc, 0, true⟩ hok' ht _).mono ?_
  rintro e w5 ⟨rfl, hb5⟩
  have D5 := D4.below hb5 D4.lt; have Z5 := Z4.below hb5 Z4.lt; have B5 := B4.trans (hb5.mono B4.size)
  have d50 := D5.cell 0 rfl; have x50 := D5.free 0; have d51 := D5.cell 1 rfl; have x51 := D5.free 1; have d52 := D5.cell 2 rfl; have x52 := D5.free 2; have d53 := D5.cell 3 rfl; have x53 := D5.free 3; have d54 := D5.cell 4 rfl; have x54 := D5.free 4; have d55 := D5.cell 5 rfl; have x55 := D5.free 5; have d56 := D5.cell 6 rfl; have x56 := D5.free 6; have d57 := D5.cell 7 rfl; have x57 := D5.free 7; have z50 := Z5.cell 0 rfl; have y50 := Z5.free 0; have z51 := Z5.cell 1 rfl; have y51 := Z5.free 1; have z52 := Z5.cell 2 rfl; have y52 := Z5.free 2; have z53 := Z5.cell 3 rfl; have y53 := Z5.free 3; have z54 := Z5.cell 4 rfl; have y54 := Z5.free 4; have z55 := Z5.cell 5 rfl; have y55 := Z5.free 5; have z56 := Z5.cell 6 rfl; have y56 := Z5.free 6; have z57 := Z5.cell 7 rfl; have y57 := Z5.free 7
  go_wp2_with fail
  rw [rounds_succ]
  go_wp2_with ((go_at_call 41; fail))
  have D6 := blk_set8 (u0 := U l) (u1 := U l) (u2 := .bool true) (u3 := .bool true) (u4 := .bool ir) (u5 := U sc) (u6 := U 0) (u7 := .bool true) D5
  have Z6 := blk_set8_ne (u0 := U l) (u1 := U l) (u2 := .bool true) (u3 := .bool true) (u4 := .bool ir) (u5 := U sc) (u6 := U 0) (u7 := .bool true) Z5 (by omega : w.heap.size ≠ w.heap.size + 1)
  have B6 := below_set8 (u0 := U l) (u1 := U l) (u2 := .bool true) (u3 := .bool true) (u4 := .bool ir) (u5 := U sc) (u6 := U 0) (u7 := .bool true) B5 (Nat.le_refl w.heap.size)
  clear d50 x50 z50 y50 d51 x51 z51 y51 d52 x52 z52 y52 d53 x53 z53 y53 d54 x54 z54 y54 d55 x55 z55 y55 d56 x56 z56 y56 d57 x57 z57 y57
  generalize (((((((w5.setCell ⟨w.heap.size, 0, none⟩ (U l)).setCell ⟨w.heap.size, 1, none⟩ (U l)).setCell ⟨w.heap.size, 2, none⟩ (.bool true)).setCell ⟨w.heap.size, 3, none⟩ (.bool true)).setCell ⟨w.heap.size, 4, none⟩ (.bool ir)).setCell ⟨w.heap.size, 5, none⟩ (U sc)).setCell ⟨w.heap.size, 6, none⟩ (U 0)).setCell ⟨w.heap.size, 7, none⟩ (.bool true) = w6 at *
  refine (left_of ⟨l, l, true, true, ir, sc, 0, true⟩ hok1 _ hPL _).mono ?_
  rintro e w7 ⟨rfl, hb7⟩
  have D7 := D6.below hb7 D6.lt; have Z7 := Z6.below hb7 Z6.lt; have B7 := B6.trans (hb7.mono B6.size)
  have d70 := D7.cell 0 rfl; have x70 := D7.free 0; have d71 := D7.cell 1 rfl; have x71 := D7.free 1; have d72 := D7.cell 2 rfl; have x72 := D7.free 2; have d73 := D7.cell 3 rfl; have x73 := D7.free 3; have d74 := D7.cell 4 rfl; have x74 := D7.free 4; have d75 := D7.cell 5 rfl; have x75 := D7.free 5; have d76 := D7.cell 6 rfl; have x76 := D7.free 6; have d77 := D7.cell 7 rfl; have x77 := D7.free 7; have z70 := Z7.cell 0 rfl; have y70 := Z7.free 0; have z71 := Z7.cell 1 rfl; have y71 := Z7.free 1; have z72 := Z7.cell 2 rfl; have y72 := Z7.free 2; have z73 := Z7.cell 3 rfl; have y73 := Z7.free 3; have z74 := Z7.cell 4 rfl; have y74 := Z7.free 4; have z75 := Z7.cell 5 rfl; have y75 := Z7.free 5; have z76 := Z7.cell 6 rfl; have y76 := Z7.free 6; have z77 := Z7.cell 7 rfl; have y77 := Z7.free 7
  have e1 : IntKind.u32.wrap q = q := by rw [IntKind.wrap_u32]; omega
  have e2 : IntKind.u32.wrap (l - q) = l - q := by rw [IntKind.wrap_u32]; omega
  have e3 : c.tdiv (sc + 1) = q := by rw [Int.tdiv_eq_ediv_of_nonneg (by omega)]; exact hq
  have e4 : IntKind.u64.wrap q = q := by rw [IntKind.wrap_u64]; omega
  have r0 : 0 ≤ r := by rw [← hr]; exact Int.emod_nonneg _ (by omega)
  have r1 : r ≤ 255 := by have := Int.emod_lt_of_pos c (by omega : 0 < sc + 1); omega
  have hu0 : ¬ sc + 1 = 0 := by omega
  have hn0 : (c == 0) = false := by simp; omega
  simp only [hc]
  have hlt : decide (c ≥ P) = false := by simp; omega
  have hlt' : ¬ (P ≤ c) := by omega
  go_wp2_with fail
  go_still_tail 8, (by kernel_rfl)
  go_wp2
  refine bodyPost_ret (v := .agg #[U l, U (l - q), .bool true, .bool true, .bool ir, U sc, U (r), .bool true]) (by simp [results, Try.results38, go_sem, z70, z71, z72, z73, z74, z75, z76, z77]) rfl ⟨by first | rfl | simp [*], ?_⟩
  refine Below.drew ?_
  iterate 8 (refine bset ?_ (Nat.le_succ _))
  iterate 2 (refine bset ?_ (Nat.le_refl _))
  exact B7

set_option maxHeartbeats 4000000 in
theorem tref_again0 (h : CS.Ok ⟨l, v, true, true, ir, sc, ph, st⟩) (n Lf : Int) (hL : Hid (CS.left ⟨l, v, true, true, ir, sc, ph, st⟩ = Lf)) (l1 : 1 ≤ Lf) (hge : Lf ≤ n) (n1 : n ≤ 18446744073709551615) (P : Int) (hl : 0 < l) (hP : l * (sc + 1) = P) (hP0 : 0 < P) (hPb : P ≤ 1099511627520) (hPL : Hid (CS.left ⟨l, l, true, true, ir, sc, 0, true⟩ = P)) (hc : (n - Lf) % P = 0) (ht : Hid (CS.one ⟨l, 1, true, true, ir, sc, sc, st⟩ = ⟨l, l, true, true, ir, sc, 0, true⟩)) :
    Calls Try.prog 38 #[.agg (CS.rc ⟨l, v, true, true, ir, sc, ph, st⟩), L n] w fun e w' => e = .returned (.agg #[U l, U l, .bool true, .bool true, .bool ir, U sc, U 0, .bool true]) ∧ Below w.heap.size w w' := by
  have s0 : 0 ≤ sc := h.s0
  have s1 : sc ≤ 255 := h.s1
  have ll0 : 0 ≤ l := h.l0
  have ll1 : l ≤ 4294967295 := h.l1
  have hok' : CS.Ok ⟨l, 1, true, true, ir, sc, sc, st⟩ := ⟨h.l0, h.l1, by show (0 : Int) ≤ 1; omega, by show (1 : Int) ≤ _; omega, h.s0, h.s1, h.s0, Int.le_refl _⟩
  have hok1 : CS.Ok ⟨l, l, true, true, ir, sc, 0, true⟩ := ⟨h.l0, h.l1, by first | (show (0 : Int) ≤ 0; omega) | (show (0 : Int) ≤ l; omega), by first | (show (0 : Int) ≤ 4294967295; omega) | (show l ≤ (4294967295 : Int); omega), h.s0, h.s1, by show (0 : Int) ≤ 0; omega, h.s0⟩
  have hB := Blk.new w (CS.rc ⟨l, v, true, true, ir, sc, ph, st⟩) 27
  have hD := hB.alloc (.cells rz 27)
  have hZ : Blk ((w.alloc (.cells (CS.rc ⟨l, v, true, true, ir, sc, ph, st⟩) 27)).alloc (.cells rz 27)) (w.heap.size + 1) rz 27 := by simpa using Blk.new (w.alloc (.cells (CS.rc ⟨l, v, true, true, ir, sc, ph, st⟩) 27)) rz 27
  have hb0 : Below w.heap.size w ((w.alloc (.cells (CS.rc ⟨l, v, true, true, ir, sc, ph, st⟩) 27)).alloc (.cells rz 27)) := ((Below.refl _ _).alloc (Nat.le_refl _) _).alloc (by simp) _
  clear hB
  have HD := Lib.hid hD; have HZ := Lib.hid hZ; have HB := Lib.hid hb0; clear hD hZ hb0
  go_enter Try.func38, Try.ntmps38
  go_wp2_with fail
  refine wp_loop_rounds 2 ?_
  rw [rounds_succ]
  go_wp2_with ((go_at_call 41; fail))
  refine (left_of ⟨l, v, true, true, ir, sc, ph, st⟩ h _ hL _).mono ?_
  rintro e w2 ⟨rfl, hb2⟩
  have D2 := HD.out.below hb2 HD.out.lt; have Z2 := HZ.out.below hb2 HZ.out.lt; have B2 := HB.out.trans (hb2.mono HB.out.size)
  have d20 := D2.cell 0 rfl; have d21 := D2.cell 1 rfl; have d22 := D2.cell 2 rfl; have d23 := D2.cell 3 rfl; have d24 := D2.cell 4 rfl; have d25 := D2.cell 5 rfl; have d26 := D2.cell 6 rfl; have d27 := D2.cell 7 rfl; have x20 := D2.free 0; have x21 := D2.free 1; have x22 := D2.free 2; have x23 := D2.free 3; have x24 := D2.free 4; have x25 := D2.free 5; have x26 := D2.free 6; have x27 := D2.free 7
  go_wp2_with ((go_at_call 41; fail))
  refine (left_of ⟨l, v, true, true, ir, sc, ph, st⟩ h _ hL _).mono ?_
  rintro e w3 ⟨rfl, hb3⟩
  have D3 := D2.below hb3 D2.lt; have Z3 := Z2.below hb3 Z2.lt; have B3 := B2.trans (hb3.mono B2.size)
  clear d20 d21 d22 d23 d24 d25 d26 d27 x20 x21 x22 x23 x24 x25 x26 x27
  have d30 := D3.cell 0 rfl; have d31 := D3.cell 1 rfl; have d32 := D3.cell 2 rfl; have d33 := D3.cell 3 rfl; have d34 := D3.cell 4 rfl; have d35 := D3.cell 5 rfl; have d36 := D3.cell 6 rfl; have d37 := D3.cell 7 rfl; have x30 := D3.free 0; have x31 := D3.free 1; have x32 := D3.free 2; have x33 := D3.free 3; have x34 := D3.free 4; have x35 := D3.free 5; have x36 := D3.free 6; have x37 := D3.free 7
  go_wp2_with ((go_at_call 17; fail))
  have D4 : Blk ((w3.setCell ⟨w.heap.size, 6, none⟩ (U sc)).setCell ⟨w.heap.size, 1, none⟩ (U 1)) w.heap.size (CS.rc ⟨l, 1, true, true, ir, sc, sc, st⟩) 27 := by
    have a1 : Blk (w3.setCell ⟨w.heap.size, 6, none⟩ (U sc)) w.heap.size #[U l, U v, .bool true, .bool true, .bool ir, U sc, U sc, .bool st] 27 := D3.set 6 (U sc)
    exact a1.set 1 (U 1)
  have Z4 : Blk ((w3.setCell ⟨w.heap.size, 6, none⟩ (U sc)).setCell ⟨w.heap.size, 1, none⟩ (U 1)) (w.heap.size + 1) rz 27 := (Z3.set_ne 6 (U sc) (by omega)).set_ne 1 (U 1) (by omega)
  have B4 : Below w.heap.size w ((w3.setCell ⟨w.heap.size, 6, none⟩ (U sc)).setCell ⟨w.heap.size, 1, none⟩ (U 1)) := bset (bset B3 (Nat.le_refl _)) (Nat.le_refl _)
  clear d30 d31 d32 d33 d34 d35 d36 d37 x30 x31 x32 x33 x34 x35 x36 x37
  generalize (w3.setCell ⟨w.heap.size, 6, none⟩ (U sc)).setCell ⟨w.heap.size, 1, none⟩ (U 1) = w4 at *
  refine (one_of ⟨l, 1, true, true, ir, sc, sc, st⟩ ⟨l, l, true, true, ir, sc, 0, true⟩ hok' ht _).mono ?_
  rintro e w5 ⟨rfl, hb5⟩
  have D5 := D4.below hb5 D4.lt; have Z5 := Z4.below hb5 Z4.lt; have B5 := B4.trans (hb5.mono B4.size)
  have d50 := D5.cell 0 rfl; have x50 := D5.free 0; have d51 := D5.cell 1 rfl; have x51 := D5.free 1; have d52 := D5.cell 2 rfl; have x52 := D5.free 2; have d53 := D5.cell 3 rfl; have x53 := D5.free 3; have d54 := D5.cell 4 rfl; have x54 := D5.free 4; have d55 := D5.cell 5 rfl; have x55 := D5.free 5; have d56 := D5.cell 6 rfl; have x56 := D5.free 6; have d57 := D5.cell 7 rfl; have x57 := D5.free 7; have z50 := Z5.cell 0 rfl; have y50 := Z5.free 0; have z51 := Z5.cell 1 rfl; have y51 := Z5.free 1; have z52 := Z5.cell 2 rfl; have y52 := Z5.free 2; have z53 := Z5.cell 3 rfl; have y53 := Z5.free 3; have z54 := Z5.cell 4 rfl; have y54 := Z5.free 4; have z55 := Z5.cell 5 rfl; have y55 := Z5.free 5; have z56 := Z5.cell 6 rfl; have y56 := Z5.free 6; have z57 := Z5.cell 7 rfl; have y57 := Z5.free 7
  go_wp2_with fail
  try simp only [hc]
  rw [rounds_succ]
  go_wp2_with fail
  trace "F"
  all_goals (refine bodyPost_ret (v := .agg #[U l, U l, .bool true, .bool true, .bool ir, U sc, U 0, .bool true]) (by simp [results, Try.results38, go_sem, z50, z51, z52, z53, z54, z55, z56, z57]) rfl ⟨by first | rfl | simp [*], ?_⟩
             trace "G"
             iterate 8 (refine bset ?_ (Nat.le_succ _))
             iterate 8 (refine bset ?_ (Nat.le_refl _))
             exact B5)
end
end Go.Proofs.Ytfjkfigjenalgaa
