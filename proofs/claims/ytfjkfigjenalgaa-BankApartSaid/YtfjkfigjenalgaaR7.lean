/- The contract of the document's ticks, continued. Its conditions: those that its statement shows. -/
import Derived.Test.YtfjkfigjenalgaaR5
import Derived.StillTailTactics
namespace Go.Proofs.Ytfjkfigjenalgaa
open Go.RowKit
set_option linter.unusedVariables false

theorem blk_set8 {w : World} {b : Nat} {v0 v1 v2 v3 v4 v5 v6 v7 u0 u1 u2 u3 u4 u5 u6 u7 : Value} {T : TypeId} (h : Blk w b #[v0, v1, v2, v3, v4, v5, v6, v7] T) :
    Blk ((((((((w.setCell ⟨b, 0, none⟩ u0).setCell ⟨b, 1, none⟩ u1).setCell ⟨b, 2, none⟩ u2).setCell ⟨b, 3, none⟩ u3).setCell ⟨b, 4, none⟩ u4).setCell ⟨b, 5, none⟩ u5).setCell ⟨b, 6, none⟩ u6).setCell ⟨b, 7, none⟩ u7) b #[u0, u1, u2, u3, u4, u5, u6, u7] T := by
  have h0 : Blk (w.setCell ⟨b, 0, none⟩ u0) b #[u0, v1, v2, v3, v4, v5, v6, v7] T := h.set 0 u0
  have h1 : Blk ((w.setCell ⟨b, 0, none⟩ u0).setCell ⟨b, 1, none⟩ u1) b #[u0, u1, v2, v3, v4, v5, v6, v7] T := h0.set 1 u1
  have h2 : Blk (((w.setCell ⟨b, 0, none⟩ u0).setCell ⟨b, 1, none⟩ u1).setCell ⟨b, 2, none⟩ u2) b #[u0, u1, u2, v3, v4, v5, v6, v7] T := h1.set 2 u2
  have h3 : Blk ((((w.setCell ⟨b, 0, none⟩ u0).setCell ⟨b, 1, none⟩ u1).setCell ⟨b, 2, none⟩ u2).setCell ⟨b, 3, none⟩ u3) b #[u0, u1, u2, u3, v4, v5, v6, v7] T := h2.set 3 u3
  have h4 : Blk (((((w.setCell ⟨b, 0, none⟩ u0).setCell ⟨b, 1, none⟩ u1).setCell ⟨b, 2, none⟩ u2).setCell ⟨b, 3, none⟩ u3).setCell ⟨b, 4, none⟩ u4) b #[u0, u1, u2, u3, u4, v5, v6, v7] T := h3.set 4 u4
  have h5 : Blk ((((((w.setCell ⟨b, 0, none⟩ u0).setCell ⟨b, 1, none⟩ u1).setCell ⟨b, 2, none⟩ u2).setCell ⟨b, 3, none⟩ u3).setCell ⟨b, 4, none⟩ u4).setCell ⟨b, 5, none⟩ u5) b #[u0, u1, u2, u3, u4, u5, v6, v7] T := h4.set 5 u5
  have h6 : Blk (((((((w.setCell ⟨b, 0, none⟩ u0).setCell ⟨b, 1, none⟩ u1).setCell ⟨b, 2, none⟩ u2).setCell ⟨b, 3, none⟩ u3).setCell ⟨b, 4, none⟩ u4).setCell ⟨b, 5, none⟩ u5).setCell ⟨b, 6, none⟩ u6) b #[u0, u1, u2, u3, u4, u5, u6, v7] T := h5.set 6 u6
  have h7 : Blk ((((((((w.setCell ⟨b, 0, none⟩ u0).setCell ⟨b, 1, none⟩ u1).setCell ⟨b, 2, none⟩ u2).setCell ⟨b, 3, none⟩ u3).setCell ⟨b, 4, none⟩ u4).setCell ⟨b, 5, none⟩ u5).setCell ⟨b, 6, none⟩ u6).setCell ⟨b, 7, none⟩ u7) b #[u0, u1, u2, u3, u4, u5, u6, u7] T := h6.set 7 u7
  exact h7
theorem blk_set8_ne {w : World} {b c : Nat} {vs : Array Value} {u0 u1 u2 u3 u4 u5 u6 u7 : Value} {T : TypeId} (h : Blk w c vs T) (hne : b ≠ c) :
    Blk ((((((((w.setCell ⟨b, 0, none⟩ u0).setCell ⟨b, 1, none⟩ u1).setCell ⟨b, 2, none⟩ u2).setCell ⟨b, 3, none⟩ u3).setCell ⟨b, 4, none⟩ u4).setCell ⟨b, 5, none⟩ u5).setCell ⟨b, 6, none⟩ u6).setCell ⟨b, 7, none⟩ u7) c vs T :=
  (((((((h.set_ne 0 u0 hne).set_ne 1 u1 hne).set_ne 2 u2 hne).set_ne 3 u3 hne).set_ne 4 u4 hne).set_ne 5 u5 hne).set_ne 6 u6 hne).set_ne 7 u7 hne
theorem below_set8 {B b : Nat} {a w : World} {u0 u1 u2 u3 u4 u5 u6 u7 : Value} (h : Below B a w) (hb : B ≤ b) :
    Below B a ((((((((w.setCell ⟨b, 0, none⟩ u0).setCell ⟨b, 1, none⟩ u1).setCell ⟨b, 2, none⟩ u2).setCell ⟨b, 3, none⟩ u3).setCell ⟨b, 4, none⟩ u4).setCell ⟨b, 5, none⟩ u5).setCell ⟨b, 6, none⟩ u6).setCell ⟨b, 7, none⟩ u7) :=
  bset (bset (bset (bset (bset (bset (bset (bset h hb) hb) hb) hb) hb) hb) hb) hb

section
variable (l v sc ph : Int) (ir st : Bool) (w : World)

set_option maxHeartbeats 2000000 in
theorem tref_stop (re : Bool) (h : CS.Ok ⟨l, v, true, re, ir, sc, ph, st⟩) (n Lf : Int) (hL : Hid (CS.left ⟨l, v, true, re, ir, sc, ph, st⟩ = Lf)) (l1 : 1 ≤ Lf) (hge : Lf ≤ n) (n1 : n ≤ 18446744073709551615) (ht : Hid (CS.one ⟨l, 1, true, re, ir, sc, sc, st⟩ = ⟨l, 0, false, re, ir, sc, 0, true⟩)) :
    Calls Try.prog 38 #[.agg (CS.rc ⟨l, v, true, re, ir, sc, ph, st⟩), L n] w fun e w' => e = .returned (.agg #[U l, U (0), .bool false, .bool re, .bool ir, U sc, U (0), .bool true]) ∧ Below w.heap.size w w' := by
  have s0 : 0 ≤ sc := h.s0
  have s1 : sc ≤ 255 := h.s1
  have ll0 : 0 ≤ l := h.l0
  have ll1 : l ≤ 4294967295 := h.l1
  have hok' : CS.Ok ⟨l, 1, true, re, ir, sc, sc, st⟩ := ⟨h.l0, h.l1, by show (0 : Int) ≤ 1; omega, by show (1 : Int) ≤ _; omega, h.s0, h.s1, h.s0, Int.le_refl _⟩
  have hok1 : CS.Ok ⟨l, 0, false, re, ir, sc, 0, true⟩ := ⟨h.l0, h.l1, by first | (show (0 : Int) ≤ 0; omega) | (show (0 : Int) ≤ l; omega), by first | (show (0 : Int) ≤ 4294967295; omega) | (show l ≤ (4294967295 : Int); omega), h.s0, h.s1, by show (0 : Int) ≤ 0; omega, h.s0⟩
  have hB := Blk.new w (CS.rc ⟨l, v, true, re, ir, sc, ph, st⟩) 27
  have hD := hB.alloc (.cells rz 27)
  have hZ : Blk ((w.alloc (.cells (CS.rc ⟨l, v, true, re, ir, sc, ph, st⟩) 27)).alloc (.cells rz 27)) (w.heap.size + 1) rz 27 := by simpa using Blk.new (w.alloc (.cells (CS.rc ⟨l, v, true, re, ir, sc, ph, st⟩) 27)) rz 27
  have hb0 : Below w.heap.size w ((w.alloc (.cells (CS.rc ⟨l, v, true, re, ir, sc, ph, st⟩) 27)).alloc (.cells rz 27)) := ((Below.refl _ _).alloc (Nat.le_refl _) _).alloc (by simp) _
  clear hB
  have HD := Lib.hid hD; have HZ := Lib.hid hZ; have HB := Lib.hid hb0; clear hD hZ hb0
  go_enter Try.func38, Try.ntmps38
  go_wp2_with fail
  refine wp_loop_rounds 2 ?_
  rw [rounds_succ]
  go_wp2_with ((go_at_call 41; fail))
  refine (left_of ⟨l, v, true, re, ir, sc, ph, st⟩ h _ hL _).mono ?_
  rintro e w2 ⟨rfl, hb2⟩
  have D2 := HD.out.below hb2 HD.out.lt; have Z2 := HZ.out.below hb2 HZ.out.lt; have B2 := HB.out.trans (hb2.mono HB.out.size)
  have d20 := D2.cell 0 rfl; have d21 := D2.cell 1 rfl; have d22 := D2.cell 2 rfl; have d23 := D2.cell 3 rfl; have d24 := D2.cell 4 rfl; have d25 := D2.cell 5 rfl; have d26 := D2.cell 6 rfl; have d27 := D2.cell 7 rfl; have x20 := D2.free 0; have x21 := D2.free 1; have x22 := D2.free 2; have x23 := D2.free 3; have x24 := D2.free 4; have x25 := D2.free 5; have x26 := D2.free 6; have x27 := D2.free 7
  go_wp2_with ((go_at_call 41; fail))
  refine (left_of ⟨l, v, true, re, ir, sc, ph, st⟩ h _ hL _).mono ?_
  rintro e w3 ⟨rfl, hb3⟩
  have D3 := D2.below hb3 D2.lt; have Z3 := Z2.below hb3 Z2.lt; have B3 := B2.trans (hb3.mono B2.size)
  clear d20 d21 d22 d23 d24 d25 d26 d27 x20 x21 x22 x23 x24 x25 x26 x27
  have d30 := D3.cell 0 rfl; have d31 := D3.cell 1 rfl; have d32 := D3.cell 2 rfl; have d33 := D3.cell 3 rfl; have d34 := D3.cell 4 rfl; have d35 := D3.cell 5 rfl; have d36 := D3.cell 6 rfl; have d37 := D3.cell 7 rfl; have x30 := D3.free 0; have x31 := D3.free 1; have x32 := D3.free 2; have x33 := D3.free 3; have x34 := D3.free 4; have x35 := D3.free 5; have x36 := D3.free 6; have x37 := D3.free 7
  go_wp2_with ((go_at_call 17; fail))
  have D4 : Blk ((w3.setCell ⟨w.heap.size, 6, none⟩ (U sc)).setCell ⟨w.heap.size, 1, none⟩ (U 1)) w.heap.size (CS.rc ⟨l, 1, true, re, ir, sc, sc, st⟩) 27 := by
    have a1 : Blk (w3.setCell ⟨w.heap.size, 6, none⟩ (U sc)) w.heap.size #[U l, U v, .bool true, .bool re, .bool ir, U sc, U sc, .bool st] 27 := D3.set 6 (U sc)
    exact a1.set 1 (U 1)
  have Z4 : Blk ((w3.setCell ⟨w.heap.size, 6, none⟩ (U sc)).setCell ⟨w.heap.size, 1, none⟩ (U 1)) (w.heap.size + 1) rz 27 := (Z3.set_ne 6 (U sc) (by omega)).set_ne 1 (U 1) (by omega)
  have B4 : Below w.heap.size w ((w3.setCell ⟨w.heap.size, 6, none⟩ (U sc)).setCell ⟨w.heap.size, 1, none⟩ (U 1)) := bset (bset B3 (Nat.le_refl _)) (Nat.le_refl _)
  clear d30 d31 d32 d33 d34 d35 d36 d37 x30 x31 x32 x33 x34 x35 x36 x37
  generalize (w3.setCell ⟨w.heap.size, 6, none⟩ (U sc)).setCell ⟨w.heap.size, 1, none⟩ (U 1) = w4 at *
  refine (one_of ⟨l, 1, true, re, ir, sc, sc, st⟩ ⟨l, 0, false, re, ir, sc, 0, true⟩ hok' ht _).mono ?_
  rintro e w5 ⟨rfl, hb5⟩
  have D5 := D4.below hb5 D4.lt; have Z5 := Z4.below hb5 Z4.lt; have B5 := B4.trans (hb5.mono B4.size)
  have d50 := D5.cell 0 rfl; have x50 := D5.free 0; have d51 := D5.cell 1 rfl; have x51 := D5.free 1; have d52 := D5.cell 2 rfl; have x52 := D5.free 2; have d53 := D5.cell 3 rfl; have x53 := D5.free 3; have d54 := D5.cell 4 rfl; have x54 := D5.free 4; have d55 := D5.cell 5 rfl; have x55 := D5.free 5; have d56 := D5.cell 6 rfl; have x56 := D5.free 6; have d57 := D5.cell 7 rfl; have x57 := D5.free 7; have z50 := Z5.cell 0 rfl; have y50 := Z5.free 0; have z51 := Z5.cell 1 rfl; have y51 := Z5.free 1; have z52 := Z5.cell 2 rfl; have y52 := Z5.free 2; have z53 := Z5.cell 3 rfl; have y53 := Z5.free 3; have z54 := Z5.cell 4 rfl; have y54 := Z5.free 4; have z55 := Z5.cell 5 rfl; have y55 := Z5.free 5; have z56 := Z5.cell 6 rfl; have y56 := Z5.free 6; have z57 := Z5.cell 7 rfl; have y57 := Z5.free 7
  go_wp2_with fail
  rw [rounds_succ]
  go_wp2_with fail
  · refine bodyPost_ret (v := .agg #[U l, U 0, .bool false, .bool re, .bool ir, U sc, U 0, .bool true]) (by simp [results, Try.results38, go_sem, z50, z51, z52, z53, z54, z55, z56, z57]) rfl ⟨rfl, ?_⟩
    iterate 8 (refine bset ?_ (Nat.le_succ _))
    iterate 8 (refine bset ?_ (Nat.le_refl _))
    exact B5
  · refine bodyPost_ret (v := .agg #[U l, U 0, .bool false, .bool re, .bool ir, U sc, U 0, .bool true]) (by simp [results, Try.results38, go_sem, z50, z51, z52, z53, z54, z55, z56, z57]) rfl ⟨rfl, ?_⟩
    iterate 8 (refine bset ?_ (Nat.le_succ _))
    iterate 8 (refine bset ?_ (Nat.le_refl _))
    exact B5
end
end Go.Proofs.Ytfjkfigjenalgaa
