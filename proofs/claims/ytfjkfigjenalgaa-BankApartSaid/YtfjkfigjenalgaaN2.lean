/- Contracts of the timer's methods that read and write its registers. No conditions beyond those that each statement shows. -/
import Derived.Test.YtfjkfigjenalgaaN1
import Derived.Deep.RegionHeld3
import Derived.StillTailTactics
namespace Go.Proofs.Ytfjkfigjenalgaa
open Go.RowKit
set_option linter.unusedVariables false

theorem place_align (p : Option Addr) (hp : p.isSome = true) (off : Int) (h0 : 0 ≤ off) (h1 : off ≤ 4294967295) (h4 : off % 4 ≠ 0) (w : World) :
    Calls Try.prog 46 #[.pointer p, U off] w fun e w' => e = .returned (.tuple #[I 0, I 11]) ∧ w = w' := by
  obtain ⟨a, rfl⟩ := Option.isSome_iff_exists.1 hp
  have k4 : (off % 4 != 0) = true := by simp [h4]
  clear h4
  go_enter Try.func46, Try.ntmps46
  go_wp2
  go_ret2
  exact ⟨rfl, rfl⟩

theorem place_bus (p : Option Addr) (hp : p.isSome = true) (off : Int) (h0 : 0 ≤ off) (h1 : off ≤ 4294967295) (h4 : off % 4 = 0) (h16 : 16 ≤ off) (w : World) :
    Calls Try.prog 46 #[.pointer p, U off] w fun e w' => e = .returned (.tuple #[I 0, I 10]) ∧ w = w' := by
  obtain ⟨a, rfl⟩ := Option.isSome_iff_exists.1 hp
  have hk : 4 ≤ off / 4 := by omega
  have k4 : (off % 4 != 0) = false := by simp [h4]
  clear h4
  go_enter Try.func46, Try.ntmps46
  go_wp2
  go_ret2
  exact ⟨rfl, rfl⟩

theorem place_ok (p : Option Addr) (hp : p.isSome = true) (off : Int) (h : off = 0 ∨ off = 4 ∨ off = 8 ∨ off = 12) (w : World) :
    Calls Try.prog 46 #[.pointer p, U off] w fun e w' => e = .returned (.tuple #[I (off / 4), I 0]) ∧ w = w' := by
  obtain ⟨a, rfl⟩ := Option.isSome_iff_exists.1 hp
  rcases h with rfl | rfl | rfl | rfl
  all_goals
    go_enter Try.func46, Try.ntmps46
    go_wp2
    go_ret2
    exact ⟨rfl, rfl⟩

theorem place_nil (off : Int) (w : World) :
    Calls Try.prog 46 #[.pointer none, U off] w fun e w' => e = .returned (.tuple #[I 0, I 10]) ∧ w = w' := by
  go_enter Try.func46, Try.ntmps46
  go_wp2
  go_ret2
  exact ⟨rfl, rfl⟩

/-- A register's value, and the error. -/
def CS.loadB (s : CS) (off : Int) : Int × Int :=
  if off % 4 ≠ 0 then (0, 11) else if off = 0 then (s.load, 0) else if off = 4 then (s.value, 0) else if off = 8 then (s.ctl, 0) else if off = 12 then (bI s.st, 0) else (0, 10)

/-- What a store leaves, and the error. -/
def CS.storeB (s : CS) (off v : Int) : CS × Int :=
  if off % 4 ≠ 0 then (s, 11) else if off = 0 then ({ s with load := v }, 0) else if off = 4 then (s, 12)
  else if off = 8 then (⟨s.load, if v % 2 == 1 && !s.en then s.load else s.value, v % 2 == 1, v / 2 % 2 == 1, v / 4 % 2 == 1, v / 256 % 256, 0, s.st⟩, 0)
  else if off = 12 then ({ s with st := if v % 2 = 1 then false else s.st }, 0) else (s, 10)

theorem CS.storeB_ok (s : CS) (h : s.Ok) (off v : Int) (h0 : 0 ≤ v) (h1 : v ≤ 4294967295) : (s.storeB off v).1.Ok := by
  obtain ⟨a, b, c, d, e, f, g, i⟩ := h
  unfold CS.storeB
  split
  · exact ⟨a, b, c, d, e, f, g, i⟩
  · split
    · exact ⟨h0, h1, c, d, e, f, g, i⟩
    · split
      · exact ⟨a, b, c, d, e, f, g, i⟩
      · split
        · refine ⟨a, b, ?_, ?_, ?_, ?_, ?_, ?_⟩
          · show 0 ≤ (if v % 2 == 1 && !s.en then s.load else s.value); split <;> assumption
          · show (if v % 2 == 1 && !s.en then s.load else s.value) ≤ _; split <;> assumption
          · show 0 ≤ v / 256 % 256; omega
          · show v / 256 % 256 ≤ 255; omega
          · show (0 : Int) ≤ 0; omega
          · show (0 : Int) ≤ v / 256 % 256; omega
        · split
          · exact ⟨a, b, c, d, e, f, g, i⟩
          · exact ⟨a, b, c, d, e, f, g, i⟩

section
variable {b : Nat} {s : CS} {w : World}

theorem load_any (hc : HC w b s) (off : Int) (h0 : 0 ≤ off) (h1 : off ≤ 4294967295) :
    Calls Try.prog 18 #[.pointer (some ⟨b, 0, none⟩), U off] w fun e w' => e = .returned (.tuple #[U (s.loadB off).1, I (s.loadB off).2]) ∧ w = w' := by
  have c0 := hc.cell 0 rfl
  have c1 := hc.cell 1 rfl
  have c2 := hc.cell 2 rfl
  have c3 := hc.cell 3 rfl
  unfold CS.loadB
  by_cases h4 : off % 4 ≠ 0
  · rw [if_pos h4]
    go_enter Try.func18, Try.ntmps18
    go_wp2_with (go_at_call 46; refine (place_align _ rfl _ h0 h1 h4 _).mono ?_; rintro e w' ⟨rfl, rfl⟩)
    go_ret2
    exact ⟨rfl, rfl⟩
  · rw [if_neg h4]
    by_cases h : off = 0 ∨ off = 4 ∨ off = 8 ∨ off = 12
    · clear h4
      rcases h with rfl | rfl | rfl | rfl
      all_goals
        go_enter Try.func18, Try.ntmps18
        go_wp2_with (go_at_call 46; refine (place_ok _ rfl _ (by decide) _).mono ?_; rintro e w' ⟨rfl, rfl⟩)
        go_ret2
        exact ⟨rfl, rfl⟩
    · have e0 : ¬ off = 0 := by omega
      have e4 : ¬ off = 4 := by omega
      have e8 : ¬ off = 8 := by omega
      have e12 : ¬ off = 12 := by omega
      rw [if_neg e0, if_neg e4, if_neg e8, if_neg e12]
      have h16 : 16 ≤ off := by omega
      have h4' : off % 4 = 0 := by omega
      clear h h4 e0 e4 e8 e12
      have H4 := Lib.hid h4'; clear h4'
      go_enter Try.func18, Try.ntmps18
      go_wp2_with (go_at_call 46; refine (place_bus _ rfl _ h0 h1 H4.out h16 _).mono ?_; rintro e w' ⟨rfl, rfl⟩)
      go_ret2
      exact ⟨rfl, rfl⟩

/-- A store into a timer's block: nothing else has changed. -/
structure Stored (w w' : World) (b : Nat) (s' : CS) : Prop where
  hc : HC w' b s'
  os : w'.os = w.os
  tape : w'.tape = w.tape
  output : w'.output = w.output
  size : w.heap.size ≤ w'.heap.size
  other : ∀ k, k < w.heap.size → k ≠ b → w'.heap[k]? = w.heap[k]?

theorem Stored.of_set {w0 : World} {s0 s' : CS} (j : Nat) (v : Value) (hb : Below w.heap.size w w0) (hc : HC w0 b s0) (he : s0.cells.setIfInBounds j v = s'.cells) : Stored w (w0.setCell ⟨b, j, none⟩ v) b s' := by
  refine ⟨?_, hb.os, hb.tape, hb.output, by have := hb.size; simpa using this, fun k hk hne => ?_⟩
  · unfold HC; rw [← he]; exact hc.set j v
  · rw [Below.heap_setCell _ _ _ _ (by exact hne)]; exact hb.block k hk

theorem Stored.of_below {w0 : World} {s' : CS} (hb : Below w.heap.size w w0) (hc : HC w0 b s') : Stored w w0 b s' :=
  ⟨hc, hb.os, hb.tape, hb.output, hb.size, fun k hk _ => hb.block k hk⟩

theorem Stored.set {w0 : World} {s0 s' : CS} (h : Stored w w0 b s0) (j : Nat) (v : Value) (he : s0.cells.setIfInBounds j v = s'.cells) : Stored w (w0.setCell ⟨b, j, none⟩ v) b s' := by
  refine ⟨?_, h.os, h.tape, h.output, by have := h.size; simpa using this, fun k hk hne => ?_⟩
  · unfold HC; rw [← he]; exact h.hc.set j v
  · rw [Below.heap_setCell _ _ _ _ (by exact hne)]; exact h.other k hk hne

theorem Stored.trans {w1 w2 : World} {s1 s2 : CS} (h : Stored w w1 b s1) (h2 : Stored w1 w2 b s2) : Stored w w2 b s2 :=
  ⟨h2.hc, h2.os.trans h.os, h2.tape.trans h.tape, h2.output.trans h.output, Nat.le_trans h.size h2.size, fun k hk hne => (h2.other k (Nat.lt_of_lt_of_le hk h.size) hne).trans (h.other k hk hne)⟩

theorem Stored.then {w1 w2 : World} {s1 : CS} (h : Stored w w1 b s1) (h2 : Below w1.heap.size w1 w2) : Stored w w2 b s1 :=
  h.trans (Stored.of_below h2 (h.hc.below h2 h.hc.lt))

theorem stop_any (h : s.Ok) (hc : HC w b s) :
    Calls Try.prog 45 #[.pointer (some ⟨b, 0, none⟩)] w fun e w' => e = .returned (.tuple #[]) ∧ Stored w w' b { s with value := 0, en := false, phase := 0 } := by
  have c1 := hc.cell 1 rfl
  have c2 := hc.cell 2 rfl
  have c4 := hc.cell 4 rfl
  have f1 := hc.free 1
  have f2 := hc.free 2
  have f4 := hc.free 4
  have hst := s.ctl_stop h
  go_enter Try.func45, Try.ntmps45
  go_wp2_with fail
  have hS : Stored w ((w.setCell ⟨b, 1, none⟩ (U 0)).setCell ⟨b, 4, none⟩ (U 0)) b { s with value := 0, phase := 0 } :=
    (Stored.of_set (s' := { s with value := 0 }) 1 (U 0) (Below.refl _ _) hc rfl).set 4 (U 0) rfl
  clear c1 c2 c4 f1 f2 f4
  generalize (w.setCell ⟨b, 1, none⟩ (U 0)).setCell ⟨b, 4, none⟩ (U 0) = w1 at *
  have c2 : w1.cell? ⟨b, 2, none⟩ = some (U s.ctl) := hS.hc.cell 2 rfl
  have f2 := hS.hc.free 2
  go_still_tail 11, (by kernel_rfl)
  go_outline
  go_wp2
  go_end0
  refine ⟨rfl, (hS.then (Below.refl _ _).drew).set 2 _ ?_⟩
  have e : s.ctl - bI s.en = CS.ctl { s with value := 0, en := false, phase := 0 } := by simp [CS.ctl, bI]; omega
  rw [e]; rfl
end
end Go.Proofs.Ytfjkfigjenalgaa
