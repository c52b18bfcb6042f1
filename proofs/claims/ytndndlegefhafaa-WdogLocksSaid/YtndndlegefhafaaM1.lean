/- The watchdog of chapter 8 as plain numbers: its state, what ticks and words make of it. No Go here. -/
import Derived.Test.YtndndlegefhafaaK1
namespace Go.Proofs.Ytndndlegefhafaa
open Go.RowKit
set_option linter.unusedVariables false

def bI (b : Bool) : Int := if b then 1 else 0
theorem bI_bd (b : Bool) : 0 ≤ bI b ∧ bI b ≤ 1 := by cases b <;> simp [bI]

/-- A watchdog. -/
structure WS where
  en : Bool
  lk : Bool
  ar : Bool
  shut : Int
  all : Int
  since : Int
  fault : Int

abbrev WS.cs (s : WS) : Array Value := #[.bool s.en, .bool s.lk, .bool s.ar, U s.shut, U s.all, L s.since, I s.fault]

structure WS.Ok (s : WS) : Prop where
  h0 : 0 ≤ s.shut
  h1 : s.shut ≤ 4294967295
  a0 : 0 ≤ s.all
  a1 : s.all ≤ 4294967295
  s0 : 0 ≤ s.since
  s1 : s.since ≤ 4294967295
  on : s.en = true → s.fault = 0 → s.since < s.all

def WS.zero : WS := ⟨false, false, false, 0, 0, 0, 0⟩
theorem WS.zero_ok : WS.zero.Ok := ⟨by decide, by decide, by decide, by decide, by decide, by decide, fun h => by cases h⟩

def WS.left (s : WS) : Int := if s.en && s.fault == 0 then s.all - s.since else 18446744073709551615

def WS.tickB (s : WS) (n : Int) : WS × Int :=
  if s.fault ≠ 0 then (s, 0) else if s.en = false then (s, n) else if s.all - s.since ≤ n then ({ s with since := s.all, fault := 2 }, s.all - s.since) else ({ s with since := s.since + n }, n)

def WS.loadB (s : WS) (off : Int) : Int × Int :=
  if off % 4 ≠ 0 then (0, 11) else if off = 0 then (bI s.en + 2 * bI s.lk, 0) else if off = 4 then (s.shut, 0) else if off = 8 then (s.all, 0) else if off = 12 then (0, 0) else if off = 16 then (s.since, 0) else (0, 10)

def WS.ctlB (s : WS) (v : Int) : WS :=
  if s.lk then s else if v % 2 = 1 ∧ s.en = false ∧ s.shut < s.all then ⟨true, v / 2 % 2 == 1, false, s.shut, s.all, 0, s.fault⟩
  else if v % 2 ≠ 1 ∧ s.en = true then ⟨false, v / 2 % 2 == 1, false, s.shut, s.all, 0, s.fault⟩ else ⟨s.en, v / 2 % 2 == 1, s.ar, s.shut, s.all, s.since, s.fault⟩

def WS.keyB (s : WS) (v : Int) : WS :=
  if s.en = false then s else if v = 23130 then { s with ar := true } else if v = 42405 ∧ s.ar = true then (if s.since < s.shut then { s with fault := 4 } else ⟨true, s.lk, false, s.shut, s.all, 0, s.fault⟩)
  else if s.since < s.shut then { s with fault := 8 } else { s with ar := false }

def WS.storeB (s : WS) (off v : Int) : WS × Int :=
  if off % 4 ≠ 0 then (s, 11) else if 20 ≤ off then (s, 10) else if off = 16 then (s, 12) else if s.fault ≠ 0 then (s, 0) else if off = 0 then (s.ctlB v, 0)
  else if off = 4 then (if s.lk = false ∧ s.en = false then { s with shut := v } else s, 0) else if off = 8 then (if s.lk = false ∧ s.en = false then { s with all := v } else s, 0) else (s.keyB v, 0)

theorem WS.tickB_ok (s : WS) (h : s.Ok) (n : Int) (n0 : 0 ≤ n) : (s.tickB n).1.Ok := by
  obtain ⟨a, b, c, d, e, f, g⟩ := h
  unfold WS.tickB
  split
  · exact ⟨a, b, c, d, e, f, g⟩
  · rename_i hf
    split
    · exact ⟨a, b, c, d, e, f, g⟩
    · rename_i he
      have hg := g (by simpa using he) (by simpa using hf)
      split
      · exact ⟨a, b, c, d, c, d, fun _ h => by simp at h⟩
      · rename_i hl
        exact ⟨a, b, c, d, by show 0 ≤ s.since + n; omega, by show s.since + n ≤ _; omega, fun _ _ => by show s.since + n < s.all; omega⟩

theorem WS.ctlB_ok (s : WS) (h : s.Ok) (v : Int) : (s.ctlB v).Ok := by
  obtain ⟨a, b, c, d, e, f, g⟩ := h
  unfold WS.ctlB
  split
  · exact ⟨a, b, c, d, e, f, g⟩
  · split
    · rename_i hh
      exact ⟨a, b, c, d, Int.le_refl _, by show (0 : Int) ≤ _; omega, fun _ _ => by show (0 : Int) < s.all; omega⟩
    · split
      · exact ⟨a, b, c, d, Int.le_refl _, by show (0 : Int) ≤ _; omega, fun h _ => by cases h⟩
      · exact ⟨a, b, c, d, e, f, g⟩

theorem WS.keyB_ok (s : WS) (h : s.Ok) (v : Int) : (s.keyB v).Ok := by
  obtain ⟨a, b, c, d, e, f, g⟩ := h
  unfold WS.keyB
  split
  · exact ⟨a, b, c, d, e, f, g⟩
  · rename_i he
    split
    · exact ⟨a, b, c, d, e, f, g⟩
    · split
      · split
        · exact ⟨a, b, c, d, e, f, fun _ h => by simp at h⟩
        · exact ⟨a, b, c, d, Int.le_refl _, by show (0 : Int) ≤ _; omega, fun _ hf => by have := g (by simpa using he) hf; show (0 : Int) < s.all; omega⟩
      · split
        · exact ⟨a, b, c, d, e, f, fun _ h => by simp at h⟩
        · exact ⟨a, b, c, d, e, f, g⟩

theorem WS.storeB_ok (s : WS) (h : s.Ok) (off v : Int) (v0 : 0 ≤ v) (v1 : v ≤ 4294967295) : (s.storeB off v).1.Ok := by
  have hh := h
  obtain ⟨a, b, c, d, e, f, g⟩ := h
  unfold WS.storeB
  repeat' split
  all_goals first | exact hh | exact s.ctlB_ok hh v | exact s.keyB_ok hh v | skip
  · rename_i hq; exact ⟨v0, v1, c, d, e, f, fun h => by rw [show ({ s with shut := v } : WS).en = s.en from rfl, hq.2] at h; cases h⟩
  · rename_i hq; exact ⟨a, b, v0, v1, e, f, fun h => by rw [show ({ s with all := v } : WS).en = s.en from rfl, hq.2] at h; cases h⟩

theorem WS.left_bd (s : WS) (h : s.Ok) : 0 ≤ s.left ∧ s.left ≤ 18446744073709551615 := by
  unfold WS.left
  split
  · rename_i hh
    simp at hh
    have := h.on hh.1 hh.2
    have := h.s0; have := h.a1
    omega
  · omega
end Go.Proofs.Ytndndlegefhafaa
