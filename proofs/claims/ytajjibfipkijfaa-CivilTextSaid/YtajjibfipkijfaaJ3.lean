/- The date of a text: the document's. Each under the premises that its own statement shows. -/
import Derived.Test.YtajjibfipkijfaaJ0
import Derived.RegionTactic
import Derived.Deep.CutRange
import Derived.Deep.DeepCutAuto
set_option linter.unusedVariables false
set_option linter.unusedSimpArgs false
namespace Go.Proofs.Ytajjibfipkijfaa
open Go.RowKit

theorem bset {B : Nat} {a w : World} (h : Below B a w) {c : Nat} (hc : B ≤ c) {j : Nat} {v : Value} : Below B a (w.setCell ⟨c, j, none⟩ v) := h.setCell hc v

/-- What has been read ahead of a byte. -/
def partOf (b : Nat → Int) : Nat → Array Value
  | 0 => #[I 0, I 0, I 0, I 0, I 0, I 0]
  | 1 => #[I (b 0 - 48), I 0, I 0, I 0, I 0, I 0]
  | 2 => #[I (10 * (b 0 - 48) + (b 1 - 48)), I 0, I 0, I 0, I 0, I 0]
  | 3 => #[I (100 * (b 0 - 48) + 10 * (b 1 - 48) + (b 2 - 48)), I 0, I 0, I 0, I 0, I 0]
  | 4 => #[I (1000 * (b 0 - 48) + 100 * (b 1 - 48) + 10 * (b 2 - 48) + (b 3 - 48)), I 0, I 0, I 0, I 0, I 0]
  | 5 => #[I (1000 * (b 0 - 48) + 100 * (b 1 - 48) + 10 * (b 2 - 48) + (b 3 - 48)), I 0, I 0, I 0, I 0, I 0]
  | 6 => #[I (1000 * (b 0 - 48) + 100 * (b 1 - 48) + 10 * (b 2 - 48) + (b 3 - 48)), I (b 5 - 48), I 0, I 0, I 0, I 0]
  | 7 => #[I (1000 * (b 0 - 48) + 100 * (b 1 - 48) + 10 * (b 2 - 48) + (b 3 - 48)), I (10 * (b 5 - 48) + (b 6 - 48)), I 0, I 0, I 0, I 0]
  | 8 => #[I (1000 * (b 0 - 48) + 100 * (b 1 - 48) + 10 * (b 2 - 48) + (b 3 - 48)), I (10 * (b 5 - 48) + (b 6 - 48)), I 0, I 0, I 0, I 0]
  | 9 => #[I (1000 * (b 0 - 48) + 100 * (b 1 - 48) + 10 * (b 2 - 48) + (b 3 - 48)), I (10 * (b 5 - 48) + (b 6 - 48)), I (b 8 - 48), I 0, I 0, I 0]
  | 10 => #[I (1000 * (b 0 - 48) + 100 * (b 1 - 48) + 10 * (b 2 - 48) + (b 3 - 48)), I (10 * (b 5 - 48) + (b 6 - 48)), I (10 * (b 8 - 48) + (b 9 - 48)), I 0, I 0, I 0]
  | 11 => #[I (1000 * (b 0 - 48) + 100 * (b 1 - 48) + 10 * (b 2 - 48) + (b 3 - 48)), I (10 * (b 5 - 48) + (b 6 - 48)), I (10 * (b 8 - 48) + (b 9 - 48)), I 0, I 0, I 0]
  | 12 => #[I (1000 * (b 0 - 48) + 100 * (b 1 - 48) + 10 * (b 2 - 48) + (b 3 - 48)), I (10 * (b 5 - 48) + (b 6 - 48)), I (10 * (b 8 - 48) + (b 9 - 48)), I (b 11 - 48), I 0, I 0]
  | 13 => #[I (1000 * (b 0 - 48) + 100 * (b 1 - 48) + 10 * (b 2 - 48) + (b 3 - 48)), I (10 * (b 5 - 48) + (b 6 - 48)), I (10 * (b 8 - 48) + (b 9 - 48)), I (10 * (b 11 - 48) + (b 12 - 48)), I 0, I 0]
  | 14 => #[I (1000 * (b 0 - 48) + 100 * (b 1 - 48) + 10 * (b 2 - 48) + (b 3 - 48)), I (10 * (b 5 - 48) + (b 6 - 48)), I (10 * (b 8 - 48) + (b 9 - 48)), I (10 * (b 11 - 48) + (b 12 - 48)), I 0, I 0]
  | 15 => #[I (1000 * (b 0 - 48) + 100 * (b 1 - 48) + 10 * (b 2 - 48) + (b 3 - 48)), I (10 * (b 5 - 48) + (b 6 - 48)), I (10 * (b 8 - 48) + (b 9 - 48)), I (10 * (b 11 - 48) + (b 12 - 48)), I (b 14 - 48), I 0]
  | 16 => #[I (1000 * (b 0 - 48) + 100 * (b 1 - 48) + 10 * (b 2 - 48) + (b 3 - 48)), I (10 * (b 5 - 48) + (b 6 - 48)), I (10 * (b 8 - 48) + (b 9 - 48)), I (10 * (b 11 - 48) + (b 12 - 48)), I (10 * (b 14 - 48) + (b 15 - 48)), I 0]
  | 17 => #[I (1000 * (b 0 - 48) + 100 * (b 1 - 48) + 10 * (b 2 - 48) + (b 3 - 48)), I (10 * (b 5 - 48) + (b 6 - 48)), I (10 * (b 8 - 48) + (b 9 - 48)), I (10 * (b 11 - 48) + (b 12 - 48)), I (10 * (b 14 - 48) + (b 15 - 48)), I 0]
  | 18 => #[I (1000 * (b 0 - 48) + 100 * (b 1 - 48) + 10 * (b 2 - 48) + (b 3 - 48)), I (10 * (b 5 - 48) + (b 6 - 48)), I (10 * (b 8 - 48) + (b 9 - 48)), I (10 * (b 11 - 48) + (b 12 - 48)), I (10 * (b 14 - 48) + (b 15 - 48)), I (b 17 - 48)]
  | 19 => #[I (1000 * (b 0 - 48) + 100 * (b 1 - 48) + 10 * (b 2 - 48) + (b 3 - 48)), I (10 * (b 5 - 48) + (b 6 - 48)), I (10 * (b 8 - 48) + (b 9 - 48)), I (10 * (b 11 - 48) + (b 12 - 48)), I (10 * (b 14 - 48) + (b 15 - 48)), I (10 * (b 17 - 48) + (b 18 - 48))]
  | _ => #[I 0, I 0, I 0, I 0, I 0, I 0]
def cntOf : Nat → Int
  | 0 => 0
  | 1 => 0
  | 2 => 0
  | 3 => 0
  | 4 => 0
  | 5 => 1
  | 6 => 1
  | 7 => 1
  | 8 => 2
  | 9 => 2
  | 10 => 2
  | 11 => 3
  | 12 => 3
  | 13 => 3
  | 14 => 4
  | 15 => 4
  | 16 => 4
  | 17 => 5
  | 18 => 5
  | 19 => 5
  | _ => 0

/-- What holds ahead of each byte. -/
def RelD3 (w0 : World) (zb db : Nat) (b : Nat → Int) (k : Nat) (c i : Value) (wr : World) : Prop :=
  ∃ n : Nat, i = I (n : Nat) ∧ c = I (cntOf n) ∧ n ≤ 19 ∧ k = 19 - n ∧ (∀ j, j < n → okAt b j) ∧ Blk wr db (partOf b n) 29 ∧ Blk wr zb #[I 0, I 0, I 0, I 0, I 0, I 0] 29 ∧ Below w0.heap.size w0 wr

section
variable {s : ByteArray} {b : Nat → Int}

theorem rparse_len (hs : s.size ≠ 19) (w : World) : Calls Try.prog 23 #[.string s] w fun e w' => e = .returned (.tuple #[.agg DT.zero.cs, .int .i64 3]) ∧ Below w.heap.size w w' := by
  have q : ((s.size : Int) == 19) = false := by simp; omega
  have q' : ((s.size : Int) != 19) = true := by simp; omega
  go_enter Try.func23, Try.ntmps23
  go_wp2
  all_goals exact bodyPost_ret (v := .tuple #[.agg #[I 0, I 0, I 0, I 0, I 0, I 0], .int .i64 3]) (by simp [results, Try.results23, go_sem]) rfl ⟨rfl, (Below.refl _ _).alloc (Nat.le_refl _) _⟩

/-- A wrong sign between the numbers. -/
theorem rparse_sep (h : S19 s b) (hb : ¬ (b 4 = 45 ∧ b 7 = 45 ∧ b 10 = 84 ∧ b 13 = 58 ∧ b 16 = 58)) (w : World) : Calls Try.prog 23 #[.string s] w fun e w' => e = .returned (.tuple #[.agg DT.zero.cs, .int .i64 3]) ∧ Below w.heap.size w w' := by
  have q : ((s.size : Int) == 19) = true := by simp [h.size]
  have q' : ((s.size : Int) != 19) = false := by simp [h.size]
  have hx4 : ∀ w : World, (Instr.index 9 (.string s) (I 4)).run Try.prog w = .ok (.int .u8 (b 4)) w := h.ix 4 (by decide)
  have hx7 : ∀ w : World, (Instr.index 9 (.string s) (I 7)).run Try.prog w = .ok (.int .u8 (b 7)) w := h.ix 7 (by decide)
  have hx10 : ∀ w : World, (Instr.index 9 (.string s) (I 10)).run Try.prog w = .ok (.int .u8 (b 10)) w := h.ix 10 (by decide)
  have hx13 : ∀ w : World, (Instr.index 9 (.string s) (I 13)).run Try.prog w = .ok (.int .u8 (b 13)) w := h.ix 13 (by decide)
  have hx16 : ∀ w : World, (Instr.index 9 (.string s) (I 16)).run Try.prog w = .ok (.int .u8 (b 16)) w := h.ix 16 (by decide)
  by_cases g4 : b 4 = 45
  · rw [g4] at hx4
    by_cases g7 : b 7 = 45
    · rw [g7] at hx7
      by_cases g10 : b 10 = 84
      · rw [g10] at hx10
        by_cases g13 : b 13 = 58
        · rw [g13] at hx13
          by_cases g16 : b 16 = 58
          · exact absurd ⟨g4, g7, g10, g13, g16⟩ hb
          · have e1 : (b 16 == 58) = false := by simpa using g16
            have e2 : (b 16 != 58) = true := by simpa using g16
            clear hb g4 g7 g10 g13 g16 h
            go_enter Try.func23, Try.ntmps23
            go_wp2
            all_goals exact bodyPost_ret (v := .tuple #[.agg #[I 0, I 0, I 0, I 0, I 0, I 0], .int .i64 3]) (by simp [results, Try.results23, go_sem]) rfl ⟨rfl, (Below.refl _ _).alloc (Nat.le_refl _) _⟩
        · have e1 : (b 13 == 58) = false := by simpa using g13
          have e2 : (b 13 != 58) = true := by simpa using g13
          clear hb g4 g7 g10 g13 h
          go_enter Try.func23, Try.ntmps23
          go_wp2
          all_goals exact bodyPost_ret (v := .tuple #[.agg #[I 0, I 0, I 0, I 0, I 0, I 0], .int .i64 3]) (by simp [results, Try.results23, go_sem]) rfl ⟨rfl, (Below.refl _ _).alloc (Nat.le_refl _) _⟩
      · have e1 : (b 10 == 84) = false := by simpa using g10
        have e2 : (b 10 != 84) = true := by simpa using g10
        clear hb g4 g7 g10 h
        go_enter Try.func23, Try.ntmps23
        go_wp2
        all_goals exact bodyPost_ret (v := .tuple #[.agg #[I 0, I 0, I 0, I 0, I 0, I 0], .int .i64 3]) (by simp [results, Try.results23, go_sem]) rfl ⟨rfl, (Below.refl _ _).alloc (Nat.le_refl _) _⟩
    · have e1 : (b 7 == 45) = false := by simpa using g7
      have e2 : (b 7 != 45) = true := by simpa using g7
      clear hb g4 g7 h
      go_enter Try.func23, Try.ntmps23
      go_wp2
      all_goals exact bodyPost_ret (v := .tuple #[.agg #[I 0, I 0, I 0, I 0, I 0, I 0], .int .i64 3]) (by simp [results, Try.results23, go_sem]) rfl ⟨rfl, (Below.refl _ _).alloc (Nat.le_refl _) _⟩
  · have e1 : (b 4 == 45) = false := by simpa using g4
    have e2 : (b 4 != 45) = true := by simpa using g4
    clear hb g4 h
    go_enter Try.func23, Try.ntmps23
    go_wp2
    all_goals exact bodyPost_ret (v := .tuple #[.agg #[I 0, I 0, I 0, I 0, I 0, I 0], .int .i64 3]) (by simp [results, Try.results23, go_sem]) rfl ⟨rfl, (Below.refl _ _).alloc (Nat.le_refl _) _⟩

set_option maxRecDepth 100000 in
set_option maxHeartbeats 8000000 in
theorem rparse_walk (h : S19 s b) (g4 : b 4 = 45) (g7 : b 7 = 45) (g10 : b 10 = 84) (g13 : b 13 = 58) (g16 : b 16 = 58) (r : DT) (er : Int) (hr : Res b r er) (w : World) : Calls Try.prog 23 #[.string s] w fun e w' => e = .returned (.tuple #[.agg r.cs, .int .i64 er]) ∧ Below w.heap.size w w' := by
  have q : ((s.size : Int) == 19) = true := by simp [h.size]
  have q' : ((s.size : Int) != 19) = false := by simp [h.size]
  have hx4 : ∀ w : World, (Instr.index 9 (.string s) (I 4)).run Try.prog w = .ok (.int .u8 (b 4)) w := h.ix 4 (by decide)
  have hx7 : ∀ w : World, (Instr.index 9 (.string s) (I 7)).run Try.prog w = .ok (.int .u8 (b 7)) w := h.ix 7 (by decide)
  have hx10 : ∀ w : World, (Instr.index 9 (.string s) (I 10)).run Try.prog w = .ok (.int .u8 (b 10)) w := h.ix 10 (by decide)
  have hx13 : ∀ w : World, (Instr.index 9 (.string s) (I 13)).run Try.prog w = .ok (.int .u8 (b 13)) w := h.ix 13 (by decide)
  have hx16 : ∀ w : World, (Instr.index 9 (.string s) (I 16)).run Try.prog w = .ok (.int .u8 (b 16)) w := h.ix 16 (by decide)
  rw [g4] at hx4
  rw [g7] at hx7
  rw [g10] at hx10
  rw [g13] at hx13
  rw [g16] at hx16
  have Z2 : Hid (Blk ((w.alloc (.cells #[I 0, I 0, I 0, I 0, I 0, I 0] 29)).alloc (.cells #[I 0, I 0, I 0, I 0, I 0, I 0] 29)) w.heap.size #[I 0, I 0, I 0, I 0, I 0, I 0] 29) := Lib.hid ((Blk.new w #[I 0, I 0, I 0, I 0, I 0, I 0] 29).alloc _)
  have D2 : Hid (Blk ((w.alloc (.cells #[I 0, I 0, I 0, I 0, I 0, I 0] 29)).alloc (.cells #[I 0, I 0, I 0, I 0, I 0, I 0] 29)) (w.heap.size + 1) #[I 0, I 0, I 0, I 0, I 0, I 0] 29) := Lib.hid (by simpa using Blk.new (w.alloc (.cells #[I 0, I 0, I 0, I 0, I 0, I 0] 29)) #[I 0, I 0, I 0, I 0, I 0, I 0] 29)
  have B2 : Hid (Below w.heap.size w ((w.alloc (.cells #[I 0, I 0, I 0, I 0, I 0, I 0] 29)).alloc (.cells #[I 0, I 0, I 0, I 0, I 0, I 0] 29))) := Lib.hid (((Below.refl _ _).alloc (Nat.le_refl _) _).alloc (by simp) _)
  have HR := Lib.hid hr
  have G4 := Lib.hid g4; have G7 := Lib.hid g7; have G10 := Lib.hid g10; have G13 := Lib.hid g13; have G16 := Lib.hid g16
  clear hr g4 g7 g10 g13 g16
  go_enter Try.func23, Try.ntmps23
  go_wp2_with fail
  clear q q' hx4 hx7 hx10 hx13 hx16
  go_loopg [5, 6] 19 (fun k c i wr => RelD3 w w.heap.size (w.heap.size + 1) b k c i wr)
  case atStart => exact ⟨0, rfl, rfl, by omega, rfl, fun j hj => absurd hj (Nat.not_lt_zero j), D2.out, Z2.out, B2.out⟩
  case round =>
    clear Z2 D2 B2
    obtain ⟨n, rfl, rfl, hn, hk, hok, hD, hZ, hB⟩ := hrel
    have hK := Lib.hid hk
    have OK := Lib.hid hok
    clear hk hok
    have HB := Lib.hid hB
    have HD := Lib.hid hD
    have HZ := Lib.hid hZ
    clear hB hD hZ
    have hcases : n = 0 ∨ n = 1 ∨ n = 2 ∨ n = 3 ∨ n = 4 ∨ n = 5 ∨ n = 6 ∨ n = 7 ∨ n = 8 ∨ n = 9 ∨ n = 10 ∨ n = 11 ∨ n = 12 ∨ n = 13 ∨ n = 14 ∨ n = 15 ∨ n = 16 ∨ n = 17 ∨ n = 18 ∨ n = 19 := by omega
    clear hn
    rcases hcases with rfl | rfl | rfl | rfl | rfl | rfl | rfl | rfl | rfl | rfl | rfl | rfl | rfl | rfl | rfl | rfl | rfl | rfl | rfl | rfl
    · have hx : ∀ w : World, (Instr.index 9 (.string s) (I 0)).run Try.prog w = .ok (.int .u8 (b 0)) w := h.ix 0 (by decide)
      have hbd := h.bd 0
      by_cases hg : DG b 0
      · have hcnt : cntOf 0 = 0 := rfl
        have HG := Lib.hid hg
        have e1 : decide (b 0 < 48) = false := by simp; exact hg.1
        have e2 : decide (57 < b 0) = false := by simp; exact hg.2
        have f2 : IntKind.i64.wrap (b 0) = b 0 := by unfold DG at *; rw [IntKind.wrap_i64]; omega
        have f3 : IntKind.i64.wrap (0 + b 0) = b 0 := by unfold DG at *; rw [IntKind.wrap_i64]; omega
        have f4 : IntKind.i64.wrap (b 0 - 48) = b 0 - 48 := by unfold DG at *; rw [IntKind.wrap_i64]; omega
        clear hg hbd
        have d0 : wr.cell? ⟨w.heap.size + 1, 0, none⟩ = some (I (0)) := HD.out.cell 0 rfl
        have y0 := HD.out.free 0
        go_wp2_with fail
        go_region
        go_wp2_with fail
        clear hx e1 e2 f2 f3 f4 hcnt
        go_roundg (19 - (0 + 1))
        case measure => have := hK.out; omega
        case rel => exact ⟨0 + 1, by go_num, rfl, by omega, rfl, okAll_up OK.out (by unfold okAt; rw [if_neg (by decide), if_neg (by decide), if_neg (by decide)]; exact HG.out), (HD.out.set 0 (I (b 0 - 48))).drew, (HZ.out.set_ne 0 (I (b 0 - 48)) (by omega)).drew, (bset HB.out (Nat.le_succ _)).drew⟩
      · obtain ⟨rfl, rfl⟩ := HR.out.bad (fun all => by have hh := all 0 (by decide); unfold okAt at hh; rw [if_neg (by decide), if_neg (by decide), if_neg (by decide)] at hh; exact hg hh)
        by_cases h1 : b 0 < 48
        · have e1 : decide (b 0 < 48) = true := by simpa using h1
          clear h1 hg hbd
          have y50 := HZ.out.free 0; have y51 := HZ.out.free 1; have y52 := HZ.out.free 2; have y53 := HZ.out.free 3; have y54 := HZ.out.free 4; have y55 := HZ.out.free 5
          have z50 := HZ.out.cell 0 rfl; have z51 := HZ.out.cell 1 rfl; have z52 := HZ.out.cell 2 rfl; have z53 := HZ.out.cell 3 rfl; have z54 := HZ.out.cell 4 rfl; have z55 := HZ.out.cell 5 rfl
          go_wp2_with fail
          refine bodyPost_ret (v := .tuple #[.agg #[I 0, I 0, I 0, I 0, I 0, I 0], .int .i64 3]) (by simp [results, Try.results23, go_sem, z50, z51, z52, z53, z54, z55]) rfl ⟨rfl, ?_⟩
          iterate 6 (refine bset ?_ (Nat.le_refl _))
          exact HB.out
        · have e1 : decide (b 0 < 48) = false := by simpa using h1
          have e2 : decide (57 < b 0) = true := by simp; unfold DG at hg; omega
          clear h1 hg hbd
          have y50 := HZ.out.free 0; have y51 := HZ.out.free 1; have y52 := HZ.out.free 2; have y53 := HZ.out.free 3; have y54 := HZ.out.free 4; have y55 := HZ.out.free 5
          have z50 := HZ.out.cell 0 rfl; have z51 := HZ.out.cell 1 rfl; have z52 := HZ.out.cell 2 rfl; have z53 := HZ.out.cell 3 rfl; have z54 := HZ.out.cell 4 rfl; have z55 := HZ.out.cell 5 rfl
          go_wp2_with fail
          refine bodyPost_ret (v := .tuple #[.agg #[I 0, I 0, I 0, I 0, I 0, I 0], .int .i64 3]) (by simp [results, Try.results23, go_sem, z50, z51, z52, z53, z54, z55]) rfl ⟨rfl, ?_⟩
          iterate 6 (refine bset ?_ (Nat.le_refl _))
          exact HB.out
    · have hx : ∀ w : World, (Instr.index 9 (.string s) (I 1)).run Try.prog w = .ok (.int .u8 (b 1)) w := h.ix 1 (by decide)
      have hbd := h.bd 1
      by_cases hg : DG b 1
      · have hcnt : cntOf 1 = 0 := rfl
        have HG := Lib.hid hg
        have e1 : decide (b 1 < 48) = false := by simp; exact hg.1
        have e2 : decide (57 < b 1) = false := by simp; exact hg.2
        have dg0 : DG b 0 := by have := OK.out 0 (by decide); unfold okAt at this; rw [if_neg (by decide), if_neg (by decide), if_neg (by decide)] at this; exact this
        have f1 : IntKind.i64.wrap (10 * (b 0 - 48)) = 10 * (b 0 - 48) := by unfold DG at *; rw [IntKind.wrap_i64]; omega
        have f2 : IntKind.i64.wrap (b 1) = b 1 := by unfold DG at *; rw [IntKind.wrap_i64]; omega
        have f3 : IntKind.i64.wrap (10 * (b 0 - 48) + b 1) = 10 * (b 0 - 48) + b 1 := by unfold DG at *; rw [IntKind.wrap_i64]; omega
        have f4 : IntKind.i64.wrap (10 * (b 0 - 48) + b 1 - 48) = 10 * (b 0 - 48) + (b 1 - 48) := by unfold DG at *; rw [IntKind.wrap_i64]; omega
        clear hg hbd dg0
        have d0 : wr.cell? ⟨w.heap.size + 1, 0, none⟩ = some (I (b 0 - 48)) := HD.out.cell 0 rfl
        have y0 := HD.out.free 0
        go_wp2_with fail
        go_region
        go_wp2_with fail
        clear hx e1 e2 f2 f3 f4 hcnt f1
        go_roundg (19 - (1 + 1))
        case measure => have := hK.out; omega
        case rel => exact ⟨1 + 1, by go_num, rfl, by omega, rfl, okAll_up OK.out (by unfold okAt; rw [if_neg (by decide), if_neg (by decide), if_neg (by decide)]; exact HG.out), (HD.out.set 0 (I (10 * (b 0 - 48) + (b 1 - 48)))).drew, (HZ.out.set_ne 0 (I (10 * (b 0 - 48) + (b 1 - 48))) (by omega)).drew, (bset HB.out (Nat.le_succ _)).drew⟩
      · obtain ⟨rfl, rfl⟩ := HR.out.bad (fun all => by have hh := all 1 (by decide); unfold okAt at hh; rw [if_neg (by decide), if_neg (by decide), if_neg (by decide)] at hh; exact hg hh)
        by_cases h1 : b 1 < 48
        · have e1 : decide (b 1 < 48) = true := by simpa using h1
          clear h1 hg hbd
          have y50 := HZ.out.free 0; have y51 := HZ.out.free 1; have y52 := HZ.out.free 2; have y53 := HZ.out.free 3; have y54 := HZ.out.free 4; have y55 := HZ.out.free 5
          have z50 := HZ.out.cell 0 rfl; have z51 := HZ.out.cell 1 rfl; have z52 := HZ.out.cell 2 rfl; have z53 := HZ.out.cell 3 rfl; have z54 := HZ.out.cell 4 rfl; have z55 := HZ.out.cell 5 rfl
          go_wp2_with fail
          refine bodyPost_ret (v := .tuple #[.agg #[I 0, I 0, I 0, I 0, I 0, I 0], .int .i64 3]) (by simp [results, Try.results23, go_sem, z50, z51, z52, z53, z54, z55]) rfl ⟨rfl, ?_⟩
          iterate 6 (refine bset ?_ (Nat.le_refl _))
          exact HB.out
        · have e1 : decide (b 1 < 48) = false := by simpa using h1
          have e2 : decide (57 < b 1) = true := by simp; unfold DG at hg; omega
          clear h1 hg hbd
          have y50 := HZ.out.free 0; have y51 := HZ.out.free 1; have y52 := HZ.out.free 2; have y53 := HZ.out.free 3; have y54 := HZ.out.free 4; have y55 := HZ.out.free 5
          have z50 := HZ.out.cell 0 rfl; have z51 := HZ.out.cell 1 rfl; have z52 := HZ.out.cell 2 rfl; have z53 := HZ.out.cell 3 rfl; have z54 := HZ.out.cell 4 rfl; have z55 := HZ.out.cell 5 rfl
          go_wp2_with fail
          refine bodyPost_ret (v := .tuple #[.agg #[I 0, I 0, I 0, I 0, I 0, I 0], .int .i64 3]) (by simp [results, Try.results23, go_sem, z50, z51, z52, z53, z54, z55]) rfl ⟨rfl, ?_⟩
          iterate 6 (refine bset ?_ (Nat.le_refl _))
          exact HB.out
    · have hx : ∀ w : World, (Instr.index 9 (.string s) (I 2)).run Try.prog w = .ok (.int .u8 (b 2)) w := h.ix 2 (by decide)
      have hbd := h.bd 2
      by_cases hg : DG b 2
      · have hcnt : cntOf 2 = 0 := rfl
        have HG := Lib.hid hg
        have e1 : decide (b 2 < 48) = false := by simp; exact hg.1
        have e2 : decide (57 < b 2) = false := by simp; exact hg.2
        have dg0 : DG b 0 := by have := OK.out 0 (by decide); unfold okAt at this; rw [if_neg (by decide), if_neg (by decide), if_neg (by decide)] at this; exact this
        have dg1 : DG b 1 := by have := OK.out 1 (by decide); unfold okAt at this; rw [if_neg (by decide), if_neg (by decide), if_neg (by decide)] at this; exact this
        have f1 : IntKind.i64.wrap (10 * (10 * (b 0 - 48) + (b 1 - 48))) = 10 * (10 * (b 0 - 48) + (b 1 - 48)) := by unfold DG at *; rw [IntKind.wrap_i64]; omega
        have f2 : IntKind.i64.wrap (b 2) = b 2 := by unfold DG at *; rw [IntKind.wrap_i64]; omega
        have f3 : IntKind.i64.wrap (10 * (10 * (b 0 - 48) + (b 1 - 48)) + b 2) = 10 * (10 * (b 0 - 48) + (b 1 - 48)) + b 2 := by unfold DG at *; rw [IntKind.wrap_i64]; omega
        have f4 : IntKind.i64.wrap (10 * (10 * (b 0 - 48) + (b 1 - 48)) + b 2 - 48) = 100 * (b 0 - 48) + 10 * (b 1 - 48) + (b 2 - 48) := by unfold DG at *; rw [IntKind.wrap_i64]; omega
        clear hg hbd dg0 dg1
        have d0 : wr.cell? ⟨w.heap.size + 1, 0, none⟩ = some (I (10 * (b 0 - 48) + (b 1 - 48))) := HD.out.cell 0 rfl
        have y0 := HD.out.free 0
        go_wp2_with fail
        go_region
        go_wp2_with fail
        clear hx e1 e2 f2 f3 f4 hcnt f1
        go_roundg (19 - (2 + 1))
        case measure => have := hK.out; omega
        case rel => exact ⟨2 + 1, by go_num, rfl, by omega, rfl, okAll_up OK.out (by unfold okAt; rw [if_neg (by decide), if_neg (by decide), if_neg (by decide)]; exact HG.out), (HD.out.set 0 (I (100 * (b 0 - 48) + 10 * (b 1 - 48) + (b 2 - 48)))).drew, (HZ.out.set_ne 0 (I (100 * (b 0 - 48) + 10 * (b 1 - 48) + (b 2 - 48))) (by omega)).drew, (bset HB.out (Nat.le_succ _)).drew⟩
      · obtain ⟨rfl, rfl⟩ := HR.out.bad (fun all => by have hh := all 2 (by decide); unfold okAt at hh; rw [if_neg (by decide), if_neg (by decide), if_neg (by decide)] at hh; exact hg hh)
        by_cases h1 : b 2 < 48
        · have e1 : decide (b 2 < 48) = true := by simpa using h1
          clear h1 hg hbd
          have y50 := HZ.out.free 0; have y51 := HZ.out.free 1; have y52 := HZ.out.free 2; have y53 := HZ.out.free 3; have y54 := HZ.out.free 4; have y55 := HZ.out.free 5
          have z50 := HZ.out.cell 0 rfl; have z51 := HZ.out.cell 1 rfl; have z52 := HZ.out.cell 2 rfl; have z53 := HZ.out.cell 3 rfl; have z54 := HZ.out.cell 4 rfl; have z55 := HZ.out.cell 5 rfl
          go_wp2_with fail
          refine bodyPost_ret (v := .tuple #[.agg #[I 0, I 0, I 0, I 0, I 0, I 0], .int .i64 3]) (by simp [results, Try.results23, go_sem, z50, z51, z52, z53, z54, z55]) rfl ⟨rfl, ?_⟩
          iterate 6 (refine bset ?_ (Nat.le_refl _))
          exact HB.out
        · have e1 : decide (b 2 < 48) = false := by simpa using h1
          have e2 : decide (57 < b 2) = true := by simp; unfold DG at hg; omega
          clear h1 hg hbd
          have y50 := HZ.out.free 0; have y51 := HZ.out.free 1; have y52 := HZ.out.free 2; have y53 := HZ.out.free 3; have y54 := HZ.out.free 4; have y55 := HZ.out.free 5
          have z50 := HZ.out.cell 0 rfl; have z51 := HZ.out.cell 1 rfl; have z52 := HZ.out.cell 2 rfl; have z53 := HZ.out.cell 3 rfl; have z54 := HZ.out.cell 4 rfl; have z55 := HZ.out.cell 5 rfl
          go_wp2_with fail
          refine bodyPost_ret (v := .tuple #[.agg #[I 0, I 0, I 0, I 0, I 0, I 0], .int .i64 3]) (by simp [results, Try.results23, go_sem, z50, z51, z52, z53, z54, z55]) rfl ⟨rfl, ?_⟩
          iterate 6 (refine bset ?_ (Nat.le_refl _))
          exact HB.out
    · have hx : ∀ w : World, (Instr.index 9 (.string s) (I 3)).run Try.prog w = .ok (.int .u8 (b 3)) w := h.ix 3 (by decide)
      have hbd := h.bd 3
      by_cases hg : DG b 3
      · have hcnt : cntOf 3 = 0 := rfl
        have HG := Lib.hid hg
        have e1 : decide (b 3 < 48) = false := by simp; exact hg.1
        have e2 : decide (57 < b 3) = false := by simp; exact hg.2
        have dg0 : DG b 0 := by have := OK.out 0 (by decide); unfold okAt at this; rw [if_neg (by decide), if_neg (by decide), if_neg (by decide)] at this; exact this
        have dg1 : DG b 1 := by have := OK.out 1 (by decide); unfold okAt at this; rw [if_neg (by decide), if_neg (by decide), if_neg (by decide)] at this; exact this
        have dg2 : DG b 2 := by have := OK.out 2 (by decide); unfold okAt at this; rw [if_neg (by decide), if_neg (by decide), if_neg (by decide)] at this; exact this
        have f1 : IntKind.i64.wrap (10 * (100 * (b 0 - 48) + 10 * (b 1 - 48) + (b 2 - 48))) = 10 * (100 * (b 0 - 48) + 10 * (b 1 - 48) + (b 2 - 48)) := by unfold DG at *; rw [IntKind.wrap_i64]; omega
        have f2 : IntKind.i64.wrap (b 3) = b 3 := by unfold DG at *; rw [IntKind.wrap_i64]; omega
        have f3 : IntKind.i64.wrap (10 * (100 * (b 0 - 48) + 10 * (b 1 - 48) + (b 2 - 48)) + b 3) = 10 * (100 * (b 0 - 48) + 10 * (b 1 - 48) + (b 2 - 48)) + b 3 := by unfold DG at *; rw [IntKind.wrap_i64]; omega
        have f4 : IntKind.i64.wrap (10 * (100 * (b 0 - 48) + 10 * (b 1 - 48) + (b 2 - 48)) + b 3 - 48) = 1000 * (b 0 - 48) + 100 * (b 1 - 48) + 10 * (b 2 - 48) + (b 3 - 48) := by unfold DG at *; rw [IntKind.wrap_i64]; omega
        clear hg hbd dg0 dg1 dg2
        have d0 : wr.cell? ⟨w.heap.size + 1, 0, none⟩ = some (I (100 * (b 0 - 48) + 10 * (b 1 - 48) + (b 2 - 48))) := HD.out.cell 0 rfl
        have y0 := HD.out.free 0
        go_wp2_with fail
        go_region
        go_wp2_with fail
        clear hx e1 e2 f2 f3 f4 hcnt f1
        go_roundg (19 - (3 + 1))
        case measure => have := hK.out; omega
        case rel => exact ⟨3 + 1, by go_num, rfl, by omega, rfl, okAll_up OK.out (by unfold okAt; rw [if_neg (by decide), if_neg (by decide), if_neg (by decide)]; exact HG.out), (HD.out.set 0 (I (1000 * (b 0 - 48) + 100 * (b 1 - 48) + 10 * (b 2 - 48) + (b 3 - 48)))).drew, (HZ.out.set_ne 0 (I (1000 * (b 0 - 48) + 100 * (b 1 - 48) + 10 * (b 2 - 48) + (b 3 - 48))) (by omega)).drew, (bset HB.out (Nat.le_succ _)).drew⟩
      · obtain ⟨rfl, rfl⟩ := HR.out.bad (fun all => by have hh := all 3 (by decide); unfold okAt at hh; rw [if_neg (by decide), if_neg (by decide), if_neg (by decide)] at hh; exact hg hh)
        by_cases h1 : b 3 < 48
        · have e1 : decide (b 3 < 48) = true := by simpa using h1
          clear h1 hg hbd
          have y50 := HZ.out.free 0; have y51 := HZ.out.free 1; have y52 := HZ.out.free 2; have y53 := HZ.out.free 3; have y54 := HZ.out.free 4; have y55 := HZ.out.free 5
          have z50 := HZ.out.cell 0 rfl; have z51 := HZ.out.cell 1 rfl; have z52 := HZ.out.cell 2 rfl; have z53 := HZ.out.cell 3 rfl; have z54 := HZ.out.cell 4 rfl; have z55 := HZ.out.cell 5 rfl
          go_wp2_with fail
          refine bodyPost_ret (v := .tuple #[.agg #[I 0, I 0, I 0, I 0, I 0, I 0], .int .i64 3]) (by simp [results, Try.results23, go_sem, z50, z51, z52, z53, z54, z55]) rfl ⟨rfl, ?_⟩
          iterate 6 (refine bset ?_ (Nat.le_refl _))
          exact HB.out
        · have e1 : decide (b 3 < 48) = false := by simpa using h1
          have e2 : decide (57 < b 3) = true := by simp; unfold DG at hg; omega
          clear h1 hg hbd
          have y50 := HZ.out.free 0; have y51 := HZ.out.free 1; have y52 := HZ.out.free 2; have y53 := HZ.out.free 3; have y54 := HZ.out.free 4; have y55 := HZ.out.free 5
          have z50 := HZ.out.cell 0 rfl; have z51 := HZ.out.cell 1 rfl; have z52 := HZ.out.cell 2 rfl; have z53 := HZ.out.cell 3 rfl; have z54 := HZ.out.cell 4 rfl; have z55 := HZ.out.cell 5 rfl
          go_wp2_with fail
          refine bodyPost_ret (v := .tuple #[.agg #[I 0, I 0, I 0, I 0, I 0, I 0], .int .i64 3]) (by simp [results, Try.results23, go_sem, z50, z51, z52, z53, z54, z55]) rfl ⟨rfl, ?_⟩
          iterate 6 (refine bset ?_ (Nat.le_refl _))
          exact HB.out
    · have hcnt : cntOf 4 = 0 := rfl
      go_wp2_with fail
      clear hcnt
      go_roundg (19 - (4 + 1))
      case measure => have := hK.out; omega
      case rel => exact ⟨4 + 1, by go_num, by first | rfl | go_num, by omega, rfl, okAll_up OK.out (by unfold okAt; rw [if_pos (by decide)]; exact G4.out), HD.out, HZ.out, HB.out⟩
    · have hx : ∀ w : World, (Instr.index 9 (.string s) (I 5)).run Try.prog w = .ok (.int .u8 (b 5)) w := h.ix 5 (by decide)
      have hbd := h.bd 5
      by_cases hg : DG b 5
      · have hcnt : cntOf 5 = 1 := rfl
        have HG := Lib.hid hg
        have e1 : decide (b 5 < 48) = false := by simp; exact hg.1
        have e2 : decide (57 < b 5) = false := by simp; exact hg.2
        have f2 : IntKind.i64.wrap (b 5) = b 5 := by unfold DG at *; rw [IntKind.wrap_i64]; omega
        have f3 : IntKind.i64.wrap (0 + b 5) = b 5 := by unfold DG at *; rw [IntKind.wrap_i64]; omega
        have f4 : IntKind.i64.wrap (b 5 - 48) = b 5 - 48 := by unfold DG at *; rw [IntKind.wrap_i64]; omega
        clear hg hbd
        have d1 : wr.cell? ⟨w.heap.size + 1, 1, none⟩ = some (I (0)) := HD.out.cell 1 rfl
        have y1 := HD.out.free 1
        go_wp2_with fail
        go_region
        go_wp2_with fail
        clear hx e1 e2 f2 f3 f4 hcnt
        go_roundg (19 - (5 + 1))
        case measure => have := hK.out; omega
        case rel => exact ⟨5 + 1, by go_num, rfl, by omega, rfl, okAll_up OK.out (by unfold okAt; rw [if_neg (by decide), if_neg (by decide), if_neg (by decide)]; exact HG.out), (HD.out.set 1 (I (b 5 - 48))).drew, (HZ.out.set_ne 1 (I (b 5 - 48)) (by omega)).drew, (bset HB.out (Nat.le_succ _)).drew⟩
      · obtain ⟨rfl, rfl⟩ := HR.out.bad (fun all => by have hh := all 5 (by decide); unfold okAt at hh; rw [if_neg (by decide), if_neg (by decide), if_neg (by decide)] at hh; exact hg hh)
        by_cases h1 : b 5 < 48
        · have e1 : decide (b 5 < 48) = true := by simpa using h1
          clear h1 hg hbd
          have y50 := HZ.out.free 0; have y51 := HZ.out.free 1; have y52 := HZ.out.free 2; have y53 := HZ.out.free 3; have y54 := HZ.out.free 4; have y55 := HZ.out.free 5
          have z50 := HZ.out.cell 0 rfl; have z51 := HZ.out.cell 1 rfl; have z52 := HZ.out.cell 2 rfl; have z53 := HZ.out.cell 3 rfl; have z54 := HZ.out.cell 4 rfl; have z55 := HZ.out.cell 5 rfl
          go_wp2_with fail
          refine bodyPost_ret (v := .tuple #[.agg #[I 0, I 0, I 0, I 0, I 0, I 0], .int .i64 3]) (by simp [results, Try.results23, go_sem, z50, z51, z52, z53, z54, z55]) rfl ⟨rfl, ?_⟩
          iterate 6 (refine bset ?_ (Nat.le_refl _))
          exact HB.out
        · have e1 : decide (b 5 < 48) = false := by simpa using h1
          have e2 : decide (57 < b 5) = true := by simp; unfold DG at hg; omega
          clear h1 hg hbd
          have y50 := HZ.out.free 0; have y51 := HZ.out.free 1; have y52 := HZ.out.free 2; have y53 := HZ.out.free 3; have y54 := HZ.out.free 4; have y55 := HZ.out.free 5
          have z50 := HZ.out.cell 0 rfl; have z51 := HZ.out.cell 1 rfl; have z52 := HZ.out.cell 2 rfl; have z53 := HZ.out.cell 3 rfl; have z54 := HZ.out.cell 4 rfl; have z55 := HZ.out.cell 5 rfl
          go_wp2_with fail
          refine bodyPost_ret (v := .tuple #[.agg #[I 0, I 0, I 0, I 0, I 0, I 0], .int .i64 3]) (by simp [results, Try.results23, go_sem, z50, z51, z52, z53, z54, z55]) rfl ⟨rfl, ?_⟩
          iterate 6 (refine bset ?_ (Nat.le_refl _))
          exact HB.out
    · have hx : ∀ w : World, (Instr.index 9 (.string s) (I 6)).run Try.prog w = .ok (.int .u8 (b 6)) w := h.ix 6 (by decide)
      have hbd := h.bd 6
      by_cases hg : DG b 6
      · have hcnt : cntOf 6 = 1 := rfl
        have HG := Lib.hid hg
        have e1 : decide (b 6 < 48) = false := by simp; exact hg.1
        have e2 : decide (57 < b 6) = false := by simp; exact hg.2
        have dg5 : DG b 5 := by have := OK.out 5 (by decide); unfold okAt at this; rw [if_neg (by decide), if_neg (by decide), if_neg (by decide)] at this; exact this
        have f1 : IntKind.i64.wrap (10 * (b 5 - 48)) = 10 * (b 5 - 48) := by unfold DG at *; rw [IntKind.wrap_i64]; omega
        have f2 : IntKind.i64.wrap (b 6) = b 6 := by unfold DG at *; rw [IntKind.wrap_i64]; omega
        have f3 : IntKind.i64.wrap (10 * (b 5 - 48) + b 6) = 10 * (b 5 - 48) + b 6 := by unfold DG at *; rw [IntKind.wrap_i64]; omega
        have f4 : IntKind.i64.wrap (10 * (b 5 - 48) + b 6 - 48) = 10 * (b 5 - 48) + (b 6 - 48) := by unfold DG at *; rw [IntKind.wrap_i64]; omega
        clear hg hbd dg5
        have d1 : wr.cell? ⟨w.heap.size + 1, 1, none⟩ = some (I (b 5 - 48)) := HD.out.cell 1 rfl
        have y1 := HD.out.free 1
        go_wp2_with fail
        go_region
        go_wp2_with fail
        clear hx e1 e2 f2 f3 f4 hcnt f1
        go_roundg (19 - (6 + 1))
        case measure => have := hK.out; omega
        case rel => exact ⟨6 + 1, by go_num, rfl, by omega, rfl, okAll_up OK.out (by unfold okAt; rw [if_neg (by decide), if_neg (by decide), if_neg (by decide)]; exact HG.out), (HD.out.set 1 (I (10 * (b 5 - 48) + (b 6 - 48)))).drew, (HZ.out.set_ne 1 (I (10 * (b 5 - 48) + (b 6 - 48))) (by omega)).drew, (bset HB.out (Nat.le_succ _)).drew⟩
      · obtain ⟨rfl, rfl⟩ := HR.out.bad (fun all => by have hh := all 6 (by decide); unfold okAt at hh; rw [if_neg (by decide), if_neg (by decide), if_neg (by decide)] at hh; exact hg hh)
        by_cases h1 : b 6 < 48
        · have e1 : decide (b 6 < 48) = true := by simpa using h1
          clear h1 hg hbd
          have y50 := HZ.out.free 0; have y51 := HZ.out.free 1; have y52 := HZ.out.free 2; have y53 := HZ.out.free 3; have y54 := HZ.out.free 4; have y55 := HZ.out.free 5
          have z50 := HZ.out.cell 0 rfl; have z51 := HZ.out.cell 1 rfl; have z52 := HZ.out.cell 2 rfl; have z53 := HZ.out.cell 3 rfl; have z54 := HZ.out.cell 4 rfl; have z55 := HZ.out.cell 5 rfl
          go_wp2_with fail
          refine bodyPost_ret (v := .tuple #[.agg #[I 0, I 0, I 0, I 0, I 0, I 0], .int .i64 3]) (by simp [results, Try.results23, go_sem, z50, z51, z52, z53, z54, z55]) rfl ⟨rfl, ?_⟩
          iterate 6 (refine bset ?_ (Nat.le_refl _))
          exact HB.out
        · have e1 : decide (b 6 < 48) = false := by simpa using h1
          have e2 : decide (57 < b 6) = true := by simp; unfold DG at hg; omega
          clear h1 hg hbd
          have y50 := HZ.out.free 0; have y51 := HZ.out.free 1; have y52 := HZ.out.free 2; have y53 := HZ.out.free 3; have y54 := HZ.out.free 4; have y55 := HZ.out.free 5
          have z50 := HZ.out.cell 0 rfl; have z51 := HZ.out.cell 1 rfl; have z52 := HZ.out.cell 2 rfl; have z53 := HZ.out.cell 3 rfl; have z54 := HZ.out.cell 4 rfl; have z55 := HZ.out.cell 5 rfl
          go_wp2_with fail
          refine bodyPost_ret (v := .tuple #[.agg #[I 0, I 0, I 0, I 0, I 0, I 0], .int .i64 3]) (by simp [results, Try.results23, go_sem, z50, z51, z52, z53, z54, z55]) rfl ⟨rfl, ?_⟩
          iterate 6 (refine bset ?_ (Nat.le_refl _))
          exact HB.out
    · have hcnt : cntOf 7 = 1 := rfl
      go_wp2_with fail
      clear hcnt
      go_roundg (19 - (7 + 1))
      case measure => have := hK.out; omega
      case rel => exact ⟨7 + 1, by go_num, by first | rfl | go_num, by omega, rfl, okAll_up OK.out (by unfold okAt; rw [if_pos (by decide)]; exact G7.out), HD.out, HZ.out, HB.out⟩
    · have hx : ∀ w : World, (Instr.index 9 (.string s) (I 8)).run Try.prog w = .ok (.int .u8 (b 8)) w := h.ix 8 (by decide)
      have hbd := h.bd 8
      by_cases hg : DG b 8
      · have hcnt : cntOf 8 = 2 := rfl
        have HG := Lib.hid hg
        have e1 : decide (b 8 < 48) = false := by simp; exact hg.1
        have e2 : decide (57 < b 8) = false := by simp; exact hg.2
        have f2 : IntKind.i64.wrap (b 8) = b 8 := by unfold DG at *; rw [IntKind.wrap_i64]; omega
        have f3 : IntKind.i64.wrap (0 + b 8) = b 8 := by unfold DG at *; rw [IntKind.wrap_i64]; omega
        have f4 : IntKind.i64.wrap (b 8 - 48) = b 8 - 48 := by unfold DG at *; rw [IntKind.wrap_i64]; omega
        clear hg hbd
        have d2 : wr.cell? ⟨w.heap.size + 1, 2, none⟩ = some (I (0)) := HD.out.cell 2 rfl
        have y2 := HD.out.free 2
        go_wp2_with fail
        go_region
        go_wp2_with fail
        clear hx e1 e2 f2 f3 f4 hcnt
        go_roundg (19 - (8 + 1))
        case measure => have := hK.out; omega
        case rel => exact ⟨8 + 1, by go_num, rfl, by omega, rfl, okAll_up OK.out (by unfold okAt; rw [if_neg (by decide), if_neg (by decide), if_neg (by decide)]; exact HG.out), (HD.out.set 2 (I (b 8 - 48))).drew, (HZ.out.set_ne 2 (I (b 8 - 48)) (by omega)).drew, (bset HB.out (Nat.le_succ _)).drew⟩
      · obtain ⟨rfl, rfl⟩ := HR.out.bad (fun all => by have hh := all 8 (by decide); unfold okAt at hh; rw [if_neg (by decide), if_neg (by decide), if_neg (by decide)] at hh; exact hg hh)
        by_cases h1 : b 8 < 48
        · have e1 : decide (b 8 < 48) = true := by simpa using h1
          clear h1 hg hbd
          have y50 := HZ.out.free 0; have y51 := HZ.out.free 1; have y52 := HZ.out.free 2; have y53 := HZ.out.free 3; have y54 := HZ.out.free 4; have y55 := HZ.out.free 5
          have z50 := HZ.out.cell 0 rfl; have z51 := HZ.out.cell 1 rfl; have z52 := HZ.out.cell 2 rfl; have z53 := HZ.out.cell 3 rfl; have z54 := HZ.out.cell 4 rfl; have z55 := HZ.out.cell 5 rfl
          go_wp2_with fail
          refine bodyPost_ret (v := .tuple #[.agg #[I 0, I 0, I 0, I 0, I 0, I 0], .int .i64 3]) (by simp [results, Try.results23, go_sem, z50, z51, z52, z53, z54, z55]) rfl ⟨rfl, ?_⟩
          iterate 6 (refine bset ?_ (Nat.le_refl _))
          exact HB.out
        · have e1 : decide (b 8 < 48) = false := by simpa using h1
          have e2 : decide (57 < b 8) = true := by simp; unfold DG at hg; omega
          clear h1 hg hbd
          have y50 := HZ.out.free 0; have y51 := HZ.out.free 1; have y52 := HZ.out.free 2; have y53 := HZ.out.free 3; have y54 := HZ.out.free 4; have y55 := HZ.out.free 5
          have z50 := HZ.out.cell 0 rfl; have z51 := HZ.out.cell 1 rfl; have z52 := HZ.out.cell 2 rfl; have z53 := HZ.out.cell 3 rfl; have z54 := HZ.out.cell 4 rfl; have z55 := HZ.out.cell 5 rfl
          go_wp2_with fail
          refine bodyPost_ret (v := .tuple #[.agg #[I 0, I 0, I 0, I 0, I 0, I 0], .int .i64 3]) (by simp [results, Try.results23, go_sem, z50, z51, z52, z53, z54, z55]) rfl ⟨rfl, ?_⟩
          iterate 6 (refine bset ?_ (Nat.le_refl _))
          exact HB.out
    · have hx : ∀ w : World, (Instr.index 9 (.string s) (I 9)).run Try.prog w = .ok (.int .u8 (b 9)) w := h.ix 9 (by decide)
      have hbd := h.bd 9
      by_cases hg : DG b 9
      · have hcnt : cntOf 9 = 2 := rfl
        have HG := Lib.hid hg
        have e1 : decide (b 9 < 48) = false := by simp; exact hg.1
        have e2 : decide (57 < b 9) = false := by simp; exact hg.2
        have dg8 : DG b 8 := by have := OK.out 8 (by decide); unfold okAt at this; rw [if_neg (by decide), if_neg (by decide), if_neg (by decide)] at this; exact this
        have f1 : IntKind.i64.wrap (10 * (b 8 - 48)) = 10 * (b 8 - 48) := by unfold DG at *; rw [IntKind.wrap_i64]; omega
        have f2 : IntKind.i64.wrap (b 9) = b 9 := by unfold DG at *; rw [IntKind.wrap_i64]; omega
        have f3 : IntKind.i64.wrap (10 * (b 8 - 48) + b 9) = 10 * (b 8 - 48) + b 9 := by unfold DG at *; rw [IntKind.wrap_i64]; omega
        have f4 : IntKind.i64.wrap (10 * (b 8 - 48) + b 9 - 48) = 10 * (b 8 - 48) + (b 9 - 48) := by unfold DG at *; rw [IntKind.wrap_i64]; omega
        clear hg hbd dg8
        have d2 : wr.cell? ⟨w.heap.size + 1, 2, none⟩ = some (I (b 8 - 48)) := HD.out.cell 2 rfl
        have y2 := HD.out.free 2
        go_wp2_with fail
        go_region
        go_wp2_with fail
        clear hx e1 e2 f2 f3 f4 hcnt f1
        go_roundg (19 - (9 + 1))
        case measure => have := hK.out; omega
        case rel => exact ⟨9 + 1, by go_num, rfl, by omega, rfl, okAll_up OK.out (by unfold okAt; rw [if_neg (by decide), if_neg (by decide), if_neg (by decide)]; exact HG.out), (HD.out.set 2 (I (10 * (b 8 - 48) + (b 9 - 48)))).drew, (HZ.out.set_ne 2 (I (10 * (b 8 - 48) + (b 9 - 48))) (by omega)).drew, (bset HB.out (Nat.le_succ _)).drew⟩
      · obtain ⟨rfl, rfl⟩ := HR.out.bad (fun all => by have hh := all 9 (by decide); unfold okAt at hh; rw [if_neg (by decide), if_neg (by decide), if_neg (by decide)] at hh; exact hg hh)
        by_cases h1 : b 9 < 48
        · have e1 : decide (b 9 < 48) = true := by simpa using h1
          clear h1 hg hbd
          have y50 := HZ.out.free 0; have y51 := HZ.out.free 1; have y52 := HZ.out.free 2; have y53 := HZ.out.free 3; have y54 := HZ.out.free 4; have y55 := HZ.out.free 5
          have z50 := HZ.out.cell 0 rfl; have z51 := HZ.out.cell 1 rfl; have z52 := HZ.out.cell 2 rfl; have z53 := HZ.out.cell 3 rfl; have z54 := HZ.out.cell 4 rfl; have z55 := HZ.out.cell 5 rfl
          go_wp2_with fail
          refine bodyPost_ret (v := .tuple #[.agg #[I 0, I 0, I 0, I 0, I 0, I 0], .int .i64 3]) (by simp [results, Try.results23, go_sem, z50, z51, z52, z53, z54, z55]) rfl ⟨rfl, ?_⟩
          iterate 6 (refine bset ?_ (Nat.le_refl _))
          exact HB.out
        · have e1 : decide (b 9 < 48) = false := by simpa using h1
          have e2 : decide (57 < b 9) = true := by simp; unfold DG at hg; omega
          clear h1 hg hbd
          have y50 := HZ.out.free 0; have y51 := HZ.out.free 1; have y52 := HZ.out.free 2; have y53 := HZ.out.free 3; have y54 := HZ.out.free 4; have y55 := HZ.out.free 5
          have z50 := HZ.out.cell 0 rfl; have z51 := HZ.out.cell 1 rfl; have z52 := HZ.out.cell 2 rfl; have z53 := HZ.out.cell 3 rfl; have z54 := HZ.out.cell 4 rfl; have z55 := HZ.out.cell 5 rfl
          go_wp2_with fail
          refine bodyPost_ret (v := .tuple #[.agg #[I 0, I 0, I 0, I 0, I 0, I 0], .int .i64 3]) (by simp [results, Try.results23, go_sem, z50, z51, z52, z53, z54, z55]) rfl ⟨rfl, ?_⟩
          iterate 6 (refine bset ?_ (Nat.le_refl _))
          exact HB.out
    · have hcnt : cntOf 10 = 2 := rfl
      go_wp2_with fail
      clear hcnt
      go_roundg (19 - (10 + 1))
      case measure => have := hK.out; omega
      case rel => exact ⟨10 + 1, by go_num, by first | rfl | go_num, by omega, rfl, okAll_up OK.out (by unfold okAt; rw [if_neg (by decide), if_pos (by decide)]; exact G10.out), HD.out, HZ.out, HB.out⟩
    · have hx : ∀ w : World, (Instr.index 9 (.string s) (I 11)).run Try.prog w = .ok (.int .u8 (b 11)) w := h.ix 11 (by decide)
      have hbd := h.bd 11
      by_cases hg : DG b 11
      · have hcnt : cntOf 11 = 3 := rfl
        have HG := Lib.hid hg
        have e1 : decide (b 11 < 48) = false := by simp; exact hg.1
        have e2 : decide (57 < b 11) = false := by simp; exact hg.2
        have f2 : IntKind.i64.wrap (b 11) = b 11 := by unfold DG at *; rw [IntKind.wrap_i64]; omega
        have f3 : IntKind.i64.wrap (0 + b 11) = b 11 := by unfold DG at *; rw [IntKind.wrap_i64]; omega
        have f4 : IntKind.i64.wrap (b 11 - 48) = b 11 - 48 := by unfold DG at *; rw [IntKind.wrap_i64]; omega
        clear hg hbd
        have d3 : wr.cell? ⟨w.heap.size + 1, 3, none⟩ = some (I (0)) := HD.out.cell 3 rfl
        have y3 := HD.out.free 3
        go_wp2_with fail
        go_region
        go_wp2_with fail
        clear hx e1 e2 f2 f3 f4 hcnt
        go_roundg (19 - (11 + 1))
        case measure => have := hK.out; omega
        case rel => exact ⟨11 + 1, by go_num, rfl, by omega, rfl, okAll_up OK.out (by unfold okAt; rw [if_neg (by decide), if_neg (by decide), if_neg (by decide)]; exact HG.out), (HD.out.set 3 (I (b 11 - 48))).drew, (HZ.out.set_ne 3 (I (b 11 - 48)) (by omega)).drew, (bset HB.out (Nat.le_succ _)).drew⟩
      · obtain ⟨rfl, rfl⟩ := HR.out.bad (fun all => by have hh := all 11 (by decide); unfold okAt at hh; rw [if_neg (by decide), if_neg (by decide), if_neg (by decide)] at hh; exact hg hh)
        by_cases h1 : b 11 < 48
        · have e1 : decide (b 11 < 48) = true := by simpa using h1
          clear h1 hg hbd
          have y50 := HZ.out.free 0; have y51 := HZ.out.free 1; have y52 := HZ.out.free 2; have y53 := HZ.out.free 3; have y54 := HZ.out.free 4; have y55 := HZ.out.free 5
          have z50 := HZ.out.cell 0 rfl; have z51 := HZ.out.cell 1 rfl; have z52 := HZ.out.cell 2 rfl; have z53 := HZ.out.cell 3 rfl; have z54 := HZ.out.cell 4 rfl; have z55 := HZ.out.cell 5 rfl
          go_wp2_with fail
          refine bodyPost_ret (v := .tuple #[.agg #[I 0, I 0, I 0, I 0, I 0, I 0], .int .i64 3]) (by simp [results, Try.results23, go_sem, z50, z51, z52, z53, z54, z55]) rfl ⟨rfl, ?_⟩
          iterate 6 (refine bset ?_ (Nat.le_refl _))
          exact HB.out
        · have e1 : decide (b 11 < 48) = false := by simpa using h1
          have e2 : decide (57 < b 11) = true := by simp; unfold DG at hg; omega
          clear h1 hg hbd
          have y50 := HZ.out.free 0; have y51 := HZ.out.free 1; have y52 := HZ.out.free 2; have y53 := HZ.out.free 3; have y54 := HZ.out.free 4; have y55 := HZ.out.free 5
          have z50 := HZ.out.cell 0 rfl; have z51 := HZ.out.cell 1 rfl; have z52 := HZ.out.cell 2 rfl; have z53 := HZ.out.cell 3 rfl; have z54 := HZ.out.cell 4 rfl; have z55 := HZ.out.cell 5 rfl
          go_wp2_with fail
          refine bodyPost_ret (v := .tuple #[.agg #[I 0, I 0, I 0, I 0, I 0, I 0], .int .i64 3]) (by simp [results, Try.results23, go_sem, z50, z51, z52, z53, z54, z55]) rfl ⟨rfl, ?_⟩
          iterate 6 (refine bset ?_ (Nat.le_refl _))
          exact HB.out
    · have hx : ∀ w : World, (Instr.index 9 (.string s) (I 12)).run Try.prog w = .ok (.int .u8 (b 12)) w := h.ix 12 (by decide)
      have hbd := h.bd 12
      by_cases hg : DG b 12
      · have hcnt : cntOf 12 = 3 := rfl
        have HG := Lib.hid hg
        have e1 : decide (b 12 < 48) = false := by simp; exact hg.1
        have e2 : decide (57 < b 12) = false := by simp; exact hg.2
        have dg11 : DG b 11 := by have := OK.out 11 (by decide); unfold okAt at this; rw [if_neg (by decide), if_neg (by decide), if_neg (by decide)] at this; exact this
        have f1 : IntKind.i64.wrap (10 * (b 11 - 48)) = 10 * (b 11 - 48) := by unfold DG at *; rw [IntKind.wrap_i64]; omega
        have f2 : IntKind.i64.wrap (b 12) = b 12 := by unfold DG at *; rw [IntKind.wrap_i64]; omega
        have f3 : IntKind.i64.wrap (10 * (b 11 - 48) + b 12) = 10 * (b 11 - 48) + b 12 := by unfold DG at *; rw [IntKind.wrap_i64]; omega
        have f4 : IntKind.i64.wrap (10 * (b 11 - 48) + b 12 - 48) = 10 * (b 11 - 48) + (b 12 - 48) := by unfold DG at *; rw [IntKind.wrap_i64]; omega
        clear hg hbd dg11
        have d3 : wr.cell? ⟨w.heap.size + 1, 3, none⟩ = some (I (b 11 - 48)) := HD.out.cell 3 rfl
        have y3 := HD.out.free 3
        go_wp2_with fail
        go_region
        go_wp2_with fail
        clear hx e1 e2 f2 f3 f4 hcnt f1
        go_roundg (19 - (12 + 1))
        case measure => have := hK.out; omega
        case rel => exact ⟨12 + 1, by go_num, rfl, by omega, rfl, okAll_up OK.out (by unfold okAt; rw [if_neg (by decide), if_neg (by decide), if_neg (by decide)]; exact HG.out), (HD.out.set 3 (I (10 * (b 11 - 48) + (b 12 - 48)))).drew, (HZ.out.set_ne 3 (I (10 * (b 11 - 48) + (b 12 - 48))) (by omega)).drew, (bset HB.out (Nat.le_succ _)).drew⟩
      · obtain ⟨rfl, rfl⟩ := HR.out.bad (fun all => by have hh := all 12 (by decide); unfold okAt at hh; rw [if_neg (by decide), if_neg (by decide), if_neg (by decide)] at hh; exact hg hh)
        by_cases h1 : b 12 < 48
        · have e1 : decide (b 12 < 48) = true := by simpa using h1
          clear h1 hg hbd
          have y50 := HZ.out.free 0; have y51 := HZ.out.free 1; have y52 := HZ.out.free 2; have y53 := HZ.out.free 3; have y54 := HZ.out.free 4; have y55 := HZ.out.free 5
          have z50 := HZ.out.cell 0 rfl; have z51 := HZ.out.cell 1 rfl; have z52 := HZ.out.cell 2 rfl; have z53 := HZ.out.cell 3 rfl; have z54 := HZ.out.cell 4 rfl; have z55 := HZ.out.cell 5 rfl
          go_wp2_with fail
          refine bodyPost_ret (v := .tuple #[.agg #[I 0, I 0, I 0, I 0, I 0, I 0], .int .i64 3]) (by simp [results, Try.results23, go_sem, z50, z51, z52, z53, z54, z55]) rfl ⟨rfl, ?_⟩
          iterate 6 (refine bset ?_ (Nat.le_refl _))
          exact HB.out
        · have e1 : decide (b 12 < 48) = false := by simpa using h1
          have e2 : decide (57 < b 12) = true := by simp; unfold DG at hg; omega
          clear h1 hg hbd
          have y50 := HZ.out.free 0; have y51 := HZ.out.free 1; have y52 := HZ.out.free 2; have y53 := HZ.out.free 3; have y54 := HZ.out.free 4; have y55 := HZ.out.free 5
          have z50 := HZ.out.cell 0 rfl; have z51 := HZ.out.cell 1 rfl; have z52 := HZ.out.cell 2 rfl; have z53 := HZ.out.cell 3 rfl; have z54 := HZ.out.cell 4 rfl; have z55 := HZ.out.cell 5 rfl
          go_wp2_with fail
          refine bodyPost_ret (v := .tuple #[.agg #[I 0, I 0, I 0, I 0, I 0, I 0], .int .i64 3]) (by simp [results, Try.results23, go_sem, z50, z51, z52, z53, z54, z55]) rfl ⟨rfl, ?_⟩
          iterate 6 (refine bset ?_ (Nat.le_refl _))
          exact HB.out
    · have hcnt : cntOf 13 = 3 := rfl
      go_wp2_with fail
      clear hcnt
      go_roundg (19 - (13 + 1))
      case measure => have := hK.out; omega
      case rel => exact ⟨13 + 1, by go_num, by first | rfl | go_num, by omega, rfl, okAll_up OK.out (by unfold okAt; rw [if_neg (by decide), if_neg (by decide), if_pos (by decide)]; exact G13.out), HD.out, HZ.out, HB.out⟩
    · have hx : ∀ w : World, (Instr.index 9 (.string s) (I 14)).run Try.prog w = .ok (.int .u8 (b 14)) w := h.ix 14 (by decide)
      have hbd := h.bd 14
      by_cases hg : DG b 14
      · have hcnt : cntOf 14 = 4 := rfl
        have HG := Lib.hid hg
        have e1 : decide (b 14 < 48) = false := by simp; exact hg.1
        have e2 : decide (57 < b 14) = false := by simp; exact hg.2
        have f2 : IntKind.i64.wrap (b 14) = b 14 := by unfold DG at *; rw [IntKind.wrap_i64]; omega
        have f3 : IntKind.i64.wrap (0 + b 14) = b 14 := by unfold DG at *; rw [IntKind.wrap_i64]; omega
        have f4 : IntKind.i64.wrap (b 14 - 48) = b 14 - 48 := by unfold DG at *; rw [IntKind.wrap_i64]; omega
        clear hg hbd
        have d4 : wr.cell? ⟨w.heap.size + 1, 4, none⟩ = some (I (0)) := HD.out.cell 4 rfl
        have y4 := HD.out.free 4
        go_wp2_with fail
        go_region
        go_wp2_with fail
        clear hx e1 e2 f2 f3 f4 hcnt
        go_roundg (19 - (14 + 1))
        case measure => have := hK.out; omega
        case rel => exact ⟨14 + 1, by go_num, rfl, by omega, rfl, okAll_up OK.out (by unfold okAt; rw [if_neg (by decide), if_neg (by decide), if_neg (by decide)]; exact HG.out), (HD.out.set 4 (I (b 14 - 48))).drew, (HZ.out.set_ne 4 (I (b 14 - 48)) (by omega)).drew, (bset HB.out (Nat.le_succ _)).drew⟩
      · obtain ⟨rfl, rfl⟩ := HR.out.bad (fun all => by have hh := all 14 (by decide); unfold okAt at hh; rw [if_neg (by decide), if_neg (by decide), if_neg (by decide)] at hh; exact hg hh)
        by_cases h1 : b 14 < 48
        · have e1 : decide (b 14 < 48) = true := by simpa using h1
          clear h1 hg hbd
          have y50 := HZ.out.free 0; have y51 := HZ.out.free 1; have y52 := HZ.out.free 2; have y53 := HZ.out.free 3; have y54 := HZ.out.free 4; have y55 := HZ.out.free 5
          have z50 := HZ.out.cell 0 rfl; have z51 := HZ.out.cell 1 rfl; have z52 := HZ.out.cell 2 rfl; have z53 := HZ.out.cell 3 rfl; have z54 := HZ.out.cell 4 rfl; have z55 := HZ.out.cell 5 rfl
          go_wp2_with fail
          refine bodyPost_ret (v := .tuple #[.agg #[I 0, I 0, I 0, I 0, I 0, I 0], .int .i64 3]) (by simp [results, Try.results23, go_sem, z50, z51, z52, z53, z54, z55]) rfl ⟨rfl, ?_⟩
          iterate 6 (refine bset ?_ (Nat.le_refl _))
          exact HB.out
        · have e1 : decide (b 14 < 48) = false := by simpa using h1
          have e2 : decide (57 < b 14) = true := by simp; unfold DG at hg; omega
          clear h1 hg hbd
          have y50 := HZ.out.free 0; have y51 := HZ.out.free 1; have y52 := HZ.out.free 2; have y53 := HZ.out.free 3; have y54 := HZ.out.free 4; have y55 := HZ.out.free 5
          have z50 := HZ.out.cell 0 rfl; have z51 := HZ.out.cell 1 rfl; have z52 := HZ.out.cell 2 rfl; have z53 := HZ.out.cell 3 rfl; have z54 := HZ.out.cell 4 rfl; have z55 := HZ.out.cell 5 rfl
          go_wp2_with fail
          refine bodyPost_ret (v := .tuple #[.agg #[I 0, I 0, I 0, I 0, I 0, I 0], .int .i64 3]) (by simp [results, Try.results23, go_sem, z50, z51, z52, z53, z54, z55]) rfl ⟨rfl, ?_⟩
          iterate 6 (refine bset ?_ (Nat.le_refl _))
          exact HB.out
    · have hx : ∀ w : World, (Instr.index 9 (.string s) (I 15)).run Try.prog w = .ok (.int .u8 (b 15)) w := h.ix 15 (by decide)
      have hbd := h.bd 15
      by_cases hg : DG b 15
      · have hcnt : cntOf 15 = 4 := rfl
        have HG := Lib.hid hg
        have e1 : decide (b 15 < 48) = false := by simp; exact hg.1
        have e2 : decide (57 < b 15) = false := by simp; exact hg.2
        have dg14 : DG b 14 := by have := OK.out 14 (by decide); unfold okAt at this; rw [if_neg (by decide), if_neg (by decide), if_neg (by decide)] at this; exact this
        have f1 : IntKind.i64.wrap (10 * (b 14 - 48)) = 10 * (b 14 - 48) := by unfold DG at *; rw [IntKind.wrap_i64]; omega
        have f2 : IntKind.i64.wrap (b 15) = b 15 := by unfold DG at *; rw [IntKind.wrap_i64]; omega
        have f3 : IntKind.i64.wrap (10 * (b 14 - 48) + b 15) = 10 * (b 14 - 48) + b 15 := by unfold DG at *; rw [IntKind.wrap_i64]; omega
        have f4 : IntKind.i64.wrap (10 * (b 14 - 48) + b 15 - 48) = 10 * (b 14 - 48) + (b 15 - 48) := by unfold DG at *; rw [IntKind.wrap_i64]; omega
        clear hg hbd dg14
        have d4 : wr.cell? ⟨w.heap.size + 1, 4, none⟩ = some (I (b 14 - 48)) := HD.out.cell 4 rfl
        have y4 := HD.out.free 4
        go_wp2_with fail
        go_region
        go_wp2_with fail
        clear hx e1 e2 f2 f3 f4 hcnt f1
        go_roundg (19 - (15 + 1))
        case measure => have := hK.out; omega
        case rel => exact ⟨15 + 1, by go_num, rfl, by omega, rfl, okAll_up OK.out (by unfold okAt; rw [if_neg (by decide), if_neg (by decide), if_neg (by decide)]; exact HG.out), (HD.out.set 4 (I (10 * (b 14 - 48) + (b 15 - 48)))).drew, (HZ.out.set_ne 4 (I (10 * (b 14 - 48) + (b 15 - 48))) (by omega)).drew, (bset HB.out (Nat.le_succ _)).drew⟩
      · obtain ⟨rfl, rfl⟩ := HR.out.bad (fun all => by have hh := all 15 (by decide); unfold okAt at hh; rw [if_neg (by decide), if_neg (by decide), if_neg (by decide)] at hh; exact hg hh)
        by_cases h1 : b 15 < 48
        · have e1 : decide (b 15 < 48) = true := by simpa using h1
          clear h1 hg hbd
          have y50 := HZ.out.free 0; have y51 := HZ.out.free 1; have y52 := HZ.out.free 2; have y53 := HZ.out.free 3; have y54 := HZ.out.free 4; have y55 := HZ.out.free 5
          have z50 := HZ.out.cell 0 rfl; have z51 := HZ.out.cell 1 rfl; have z52 := HZ.out.cell 2 rfl; have z53 := HZ.out.cell 3 rfl; have z54 := HZ.out.cell 4 rfl; have z55 := HZ.out.cell 5 rfl
          go_wp2_with fail
          refine bodyPost_ret (v := .tuple #[.agg #[I 0, I 0, I 0, I 0, I 0, I 0], .int .i64 3]) (by simp [results, Try.results23, go_sem, z50, z51, z52, z53, z54, z55]) rfl ⟨rfl, ?_⟩
          iterate 6 (refine bset ?_ (Nat.le_refl _))
          exact HB.out
        · have e1 : decide (b 15 < 48) = false := by simpa using h1
          have e2 : decide (57 < b 15) = true := by simp; unfold DG at hg; omega
          clear h1 hg hbd
          have y50 := HZ.out.free 0; have y51 := HZ.out.free 1; have y52 := HZ.out.free 2; have y53 := HZ.out.free 3; have y54 := HZ.out.free 4; have y55 := HZ.out.free 5
          have z50 := HZ.out.cell 0 rfl; have z51 := HZ.out.cell 1 rfl; have z52 := HZ.out.cell 2 rfl; have z53 := HZ.out.cell 3 rfl; have z54 := HZ.out.cell 4 rfl; have z55 := HZ.out.cell 5 rfl
          go_wp2_with fail
          refine bodyPost_ret (v := .tuple #[.agg #[I 0, I 0, I 0, I 0, I 0, I 0], .int .i64 3]) (by simp [results, Try.results23, go_sem, z50, z51, z52, z53, z54, z55]) rfl ⟨rfl, ?_⟩
          iterate 6 (refine bset ?_ (Nat.le_refl _))
          exact HB.out
    · have hcnt : cntOf 16 = 4 := rfl
      go_wp2_with fail
      clear hcnt
      go_roundg (19 - (16 + 1))
      case measure => have := hK.out; omega
      case rel => exact ⟨16 + 1, by go_num, by first | rfl | go_num, by omega, rfl, okAll_up OK.out (by unfold okAt; rw [if_neg (by decide), if_neg (by decide), if_pos (by decide)]; exact G16.out), HD.out, HZ.out, HB.out⟩
    · have hx : ∀ w : World, (Instr.index 9 (.string s) (I 17)).run Try.prog w = .ok (.int .u8 (b 17)) w := h.ix 17 (by decide)
      have hbd := h.bd 17
      by_cases hg : DG b 17
      · have hcnt : cntOf 17 = 5 := rfl
        have HG := Lib.hid hg
        have e1 : decide (b 17 < 48) = false := by simp; exact hg.1
        have e2 : decide (57 < b 17) = false := by simp; exact hg.2
        have f2 : IntKind.i64.wrap (b 17) = b 17 := by unfold DG at *; rw [IntKind.wrap_i64]; omega
        have f3 : IntKind.i64.wrap (0 + b 17) = b 17 := by unfold DG at *; rw [IntKind.wrap_i64]; omega
        have f4 : IntKind.i64.wrap (b 17 - 48) = b 17 - 48 := by unfold DG at *; rw [IntKind.wrap_i64]; omega
        clear hg hbd
        have d5 : wr.cell? ⟨w.heap.size + 1, 5, none⟩ = some (I (0)) := HD.out.cell 5 rfl
        have y5 := HD.out.free 5
        go_wp2_with fail
        go_region
        go_wp2_with fail
        clear hx e1 e2 f2 f3 f4 hcnt
        go_roundg (19 - (17 + 1))
        case measure => have := hK.out; omega
        case rel => exact ⟨17 + 1, by go_num, rfl, by omega, rfl, okAll_up OK.out (by unfold okAt; rw [if_neg (by decide), if_neg (by decide), if_neg (by decide)]; exact HG.out), (HD.out.set 5 (I (b 17 - 48))).drew, (HZ.out.set_ne 5 (I (b 17 - 48)) (by omega)).drew, (bset HB.out (Nat.le_succ _)).drew⟩
      · obtain ⟨rfl, rfl⟩ := HR.out.bad (fun all => by have hh := all 17 (by decide); unfold okAt at hh; rw [if_neg (by decide), if_neg (by decide), if_neg (by decide)] at hh; exact hg hh)
        by_cases h1 : b 17 < 48
        · have e1 : decide (b 17 < 48) = true := by simpa using h1
          clear h1 hg hbd
          have y50 := HZ.out.free 0; have y51 := HZ.out.free 1; have y52 := HZ.out.free 2; have y53 := HZ.out.free 3; have y54 := HZ.out.free 4; have y55 := HZ.out.free 5
          have z50 := HZ.out.cell 0 rfl; have z51 := HZ.out.cell 1 rfl; have z52 := HZ.out.cell 2 rfl; have z53 := HZ.out.cell 3 rfl; have z54 := HZ.out.cell 4 rfl; have z55 := HZ.out.cell 5 rfl
          go_wp2_with fail
          refine bodyPost_ret (v := .tuple #[.agg #[I 0, I 0, I 0, I 0, I 0, I 0], .int .i64 3]) (by simp [results, Try.results23, go_sem, z50, z51, z52, z53, z54, z55]) rfl ⟨rfl, ?_⟩
          iterate 6 (refine bset ?_ (Nat.le_refl _))
          exact HB.out
        · have e1 : decide (b 17 < 48) = false := by simpa using h1
          have e2 : decide (57 < b 17) = true := by simp; unfold DG at hg; omega
          clear h1 hg hbd
          have y50 := HZ.out.free 0; have y51 := HZ.out.free 1; have y52 := HZ.out.free 2; have y53 := HZ.out.free 3; have y54 := HZ.out.free 4; have y55 := HZ.out.free 5
          have z50 := HZ.out.cell 0 rfl; have z51 := HZ.out.cell 1 rfl; have z52 := HZ.out.cell 2 rfl; have z53 := HZ.out.cell 3 rfl; have z54 := HZ.out.cell 4 rfl; have z55 := HZ.out.cell 5 rfl
          go_wp2_with fail
          refine bodyPost_ret (v := .tuple #[.agg #[I 0, I 0, I 0, I 0, I 0, I 0], .int .i64 3]) (by simp [results, Try.results23, go_sem, z50, z51, z52, z53, z54, z55]) rfl ⟨rfl, ?_⟩
          iterate 6 (refine bset ?_ (Nat.le_refl _))
          exact HB.out
    · have hx : ∀ w : World, (Instr.index 9 (.string s) (I 18)).run Try.prog w = .ok (.int .u8 (b 18)) w := h.ix 18 (by decide)
      have hbd := h.bd 18
      by_cases hg : DG b 18
      · have hcnt : cntOf 18 = 5 := rfl
        have HG := Lib.hid hg
        have e1 : decide (b 18 < 48) = false := by simp; exact hg.1
        have e2 : decide (57 < b 18) = false := by simp; exact hg.2
        have dg17 : DG b 17 := by have := OK.out 17 (by decide); unfold okAt at this; rw [if_neg (by decide), if_neg (by decide), if_neg (by decide)] at this; exact this
        have f1 : IntKind.i64.wrap (10 * (b 17 - 48)) = 10 * (b 17 - 48) := by unfold DG at *; rw [IntKind.wrap_i64]; omega
        have f2 : IntKind.i64.wrap (b 18) = b 18 := by unfold DG at *; rw [IntKind.wrap_i64]; omega
        have f3 : IntKind.i64.wrap (10 * (b 17 - 48) + b 18) = 10 * (b 17 - 48) + b 18 := by unfold DG at *; rw [IntKind.wrap_i64]; omega
        have f4 : IntKind.i64.wrap (10 * (b 17 - 48) + b 18 - 48) = 10 * (b 17 - 48) + (b 18 - 48) := by unfold DG at *; rw [IntKind.wrap_i64]; omega
        clear hg hbd dg17
        have d5 : wr.cell? ⟨w.heap.size + 1, 5, none⟩ = some (I (b 17 - 48)) := HD.out.cell 5 rfl
        have y5 := HD.out.free 5
        go_wp2_with fail
        go_region
        go_wp2_with fail
        clear hx e1 e2 f2 f3 f4 hcnt f1
        go_roundg (19 - (18 + 1))
        case measure => have := hK.out; omega
        case rel => exact ⟨18 + 1, by go_num, rfl, by omega, rfl, okAll_up OK.out (by unfold okAt; rw [if_neg (by decide), if_neg (by decide), if_neg (by decide)]; exact HG.out), (HD.out.set 5 (I (10 * (b 17 - 48) + (b 18 - 48)))).drew, (HZ.out.set_ne 5 (I (10 * (b 17 - 48) + (b 18 - 48))) (by omega)).drew, (bset HB.out (Nat.le_succ _)).drew⟩
      · obtain ⟨rfl, rfl⟩ := HR.out.bad (fun all => by have hh := all 18 (by decide); unfold okAt at hh; rw [if_neg (by decide), if_neg (by decide), if_neg (by decide)] at hh; exact hg hh)
        by_cases h1 : b 18 < 48
        · have e1 : decide (b 18 < 48) = true := by simpa using h1
          clear h1 hg hbd
          have y50 := HZ.out.free 0; have y51 := HZ.out.free 1; have y52 := HZ.out.free 2; have y53 := HZ.out.free 3; have y54 := HZ.out.free 4; have y55 := HZ.out.free 5
          have z50 := HZ.out.cell 0 rfl; have z51 := HZ.out.cell 1 rfl; have z52 := HZ.out.cell 2 rfl; have z53 := HZ.out.cell 3 rfl; have z54 := HZ.out.cell 4 rfl; have z55 := HZ.out.cell 5 rfl
          go_wp2_with fail
          refine bodyPost_ret (v := .tuple #[.agg #[I 0, I 0, I 0, I 0, I 0, I 0], .int .i64 3]) (by simp [results, Try.results23, go_sem, z50, z51, z52, z53, z54, z55]) rfl ⟨rfl, ?_⟩
          iterate 6 (refine bset ?_ (Nat.le_refl _))
          exact HB.out
        · have e1 : decide (b 18 < 48) = false := by simpa using h1
          have e2 : decide (57 < b 18) = true := by simp; unfold DG at hg; omega
          clear h1 hg hbd
          have y50 := HZ.out.free 0; have y51 := HZ.out.free 1; have y52 := HZ.out.free 2; have y53 := HZ.out.free 3; have y54 := HZ.out.free 4; have y55 := HZ.out.free 5
          have z50 := HZ.out.cell 0 rfl; have z51 := HZ.out.cell 1 rfl; have z52 := HZ.out.cell 2 rfl; have z53 := HZ.out.cell 3 rfl; have z54 := HZ.out.cell 4 rfl; have z55 := HZ.out.cell 5 rfl
          go_wp2_with fail
          refine bodyPost_ret (v := .tuple #[.agg #[I 0, I 0, I 0, I 0, I 0, I 0], .int .i64 3]) (by simp [results, Try.results23, go_sem, z50, z51, z52, z53, z54, z55]) rfl ⟨rfl, ?_⟩
          iterate 6 (refine bset ?_ (Nat.le_refl _))
          exact HB.out
    · have hD : Blk wr (w.heap.size + 1) #[I (1000 * (b 0 - 48) + 100 * (b 1 - 48) + 10 * (b 2 - 48) + (b 3 - 48)), I (10 * (b 5 - 48) + (b 6 - 48)), I (10 * (b 8 - 48) + (b 9 - 48)), I (10 * (b 11 - 48) + (b 12 - 48)), I (10 * (b 14 - 48) + (b 15 - 48)), I (10 * (b 17 - 48) + (b 18 - 48))] 29 := HD.out
      have d0 := hD.cell 0 rfl; have d1 := hD.cell 1 rfl; have d2 := hD.cell 2 rfl; have d3 := hD.cell 3 rfl; have d4 := hD.cell 4 rfl; have d5 := hD.cell 5 rfl
      go_wp2_with ((go_at_call 13; fail))
      refine (rright_any _ _ _ _ _ _ _).mono ?_
      rintro e w5 ⟨rfl, hb5⟩
      have D5 := hD.below hb5 hD.lt
      have Z5 := HZ.out.below hb5 HZ.out.lt
      have HB5 := Lib.hid (HB.out.trans (hb5.mono HB.out.size))
      clear hb5 d0 d1 d2 d3 d4 d5 hD
      cases hri : rightB (1000 * (b 0 - 48) + 100 * (b 1 - 48) + 10 * (b 2 - 48) + (b 3 - 48)) (10 * (b 5 - 48) + (b 6 - 48)) (10 * (b 8 - 48) + (b 9 - 48)) (10 * (b 11 - 48) + (b 12 - 48)) (10 * (b 14 - 48) + (b 15 - 48)) (10 * (b 17 - 48) + (b 18 - 48))
      · obtain ⟨rfl, rfl⟩ := HR.out.out OK.out hri
        have y50 := Z5.free 0; have y51 := Z5.free 1; have y52 := Z5.free 2; have y53 := Z5.free 3; have y54 := Z5.free 4; have y55 := Z5.free 5; have z50 := Z5.cell 0 rfl; have z51 := Z5.cell 1 rfl; have z52 := Z5.cell 2 rfl; have z53 := Z5.cell 3 rfl; have z54 := Z5.cell 4 rfl; have z55 := Z5.cell 5 rfl
        go_wp2_with fail
        refine bodyPost_ret (v := .tuple #[.agg #[I 0, I 0, I 0, I 0, I 0, I 0], .int .i64 5]) (by simp [results, Try.results23, go_sem, z50, z51, z52, z53, z54, z55]) rfl ⟨rfl, ?_⟩
        iterate 6 (refine bset ?_ (Nat.le_refl _))
        exact HB5.out
      · obtain ⟨rfl, rfl⟩ := HR.out.yes OK.out hri
        have y50 := Z5.free 0; have y51 := Z5.free 1; have y52 := Z5.free 2; have y53 := Z5.free 3; have y54 := Z5.free 4; have y55 := Z5.free 5; have z50 := Z5.cell 0 rfl; have z51 := Z5.cell 1 rfl; have z52 := Z5.cell 2 rfl; have z53 := Z5.cell 3 rfl; have z54 := Z5.cell 4 rfl; have z55 := Z5.cell 5 rfl; have d50 := D5.cell 0 rfl; have d51 := D5.cell 1 rfl; have d52 := D5.cell 2 rfl; have d53 := D5.cell 3 rfl; have d54 := D5.cell 4 rfl; have d55 := D5.cell 5 rfl
        go_wp2_with fail
        refine bodyPost_ret (v := .tuple #[.agg #[I (1000 * (b 0 - 48) + 100 * (b 1 - 48) + 10 * (b 2 - 48) + (b 3 - 48)), I (10 * (b 5 - 48) + (b 6 - 48)), I (10 * (b 8 - 48) + (b 9 - 48)), I (10 * (b 11 - 48) + (b 12 - 48)), I (10 * (b 14 - 48) + (b 15 - 48)), I (10 * (b 17 - 48) + (b 18 - 48))], .int .i64 0]) (by simp [results, Try.results23, go_sem, z50, z51, z52, z53, z54, z55]) rfl ⟨rfl, ?_⟩
        iterate 6 (refine bset ?_ (Nat.le_refl _))
        exact HB5.out
end
end Go.Proofs.Ytajjibfipkijfaa
