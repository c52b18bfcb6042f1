/- The watchdog of the program: what it is after a call. Conditions: those that each statement shows. -/
import Derived.Test.YtndndlegefhafaaN1
import Derived.Laws.StructEq
namespace Go.Proofs.Ytndndlegefhafaa
open Go.RowKit
set_option linter.unusedVariables false
set_option linter.unusedSimpArgs false

section
variable {b : Nat} {s : WS} {w : World}
structure Stored (w w' : World) (b : Nat) (s' : WS) : Prop where
  hc : HW w' b s'
  os : w'.os = w.os
  tape : w'.tape = w.tape
  output : w'.output = w.output
  size : w.heap.size ≤ w'.heap.size
  other : ∀ k, k < w.heap.size → k ≠ b → w'.heap[k]? = w.heap[k]?

theorem Stored.of_set {w0 : World} {s0 s' : WS} (j : Nat) (v : Value) (hb : Below w.heap.size w w0) (hc : HW w0 b s0) (he : s0.cs.setIfInBounds j v = s'.cs) : Stored w (w0.setCell ⟨b, j, none⟩ v) b s' := by
  refine ⟨?_, hb.os, hb.tape, hb.output, by have := hb.size; simpa using this, fun k hk hne => ?_⟩
  · unfold HW; rw [← he]; exact hc.set j v
  · rw [Below.heap_setCell _ _ _ _ (by exact hne)]; exact hb.block k hk

theorem Stored.of_below {w0 : World} {s' : WS} (hb : Below w.heap.size w w0) (hc : HW w0 b s') : Stored w w0 b s' :=
  ⟨hc, hb.os, hb.tape, hb.output, hb.size, fun k hk _ => hb.block k hk⟩

theorem Stored.set {w0 : World} {s0 s' : WS} (h : Stored w w0 b s0) (j : Nat) (v : Value) (he : s0.cs.setIfInBounds j v = s'.cs) : Stored w (w0.setCell ⟨b, j, none⟩ v) b s' := by
  refine ⟨?_, h.os, h.tape, h.output, by have := h.size; simpa using this, fun k hk hne => ?_⟩
  · unfold HW; rw [← he]; exact h.hc.set j v
  · rw [Below.heap_setCell _ _ _ _ (by exact hne)]; exact h.other k hk hne

theorem Stored.trans {w1 w2 : World} {s1 s2 : WS} (h : Stored w w1 b s1) (h2 : Stored w1 w2 b s2) : Stored w w2 b s2 :=
  ⟨h2.hc, h2.os.trans h.os, h2.tape.trans h.tape, h2.output.trans h.output, Nat.le_trans h.size h2.size, fun k hk hne => (h2.other k (Nat.lt_of_lt_of_le hk h.size) hne).trans (h.other k hk hne)⟩

theorem Stored.then {w1 w2 : World} {s1 : WS} (h : Stored w w1 b s1) (h2 : Below w1.heap.size w1 w2) : Stored w w2 b s1 :=
  h.trans (Stored.of_below h2 (h.hc.below h2 h.hc.lt))


theorem Stored.below_ {w w' : World} {b B : Nat} {s : WS} (h : Stored w w' b s) (hB : B ≤ b) (hs : B ≤ w.heap.size) : Below B w w' :=
  ⟨h.os, h.tape, h.output, h.size, fun k hk => h.other k (by omega) (by omega)⟩
theorem Stored.drew {w w1 : World} {b : Nat} {s' : WS} (h : Stored w w1 b s') : Stored w w1.drew b s' := ⟨h.hc, h.os, h.tape, h.output, h.size, h.other⟩
theorem HW.set_ne {w1 : World} {b c : Nat} {s' : WS} (h : HW w1 b s') (hne : c ≠ b) (j : Nat) (v : Value) : HW (w1.setCell ⟨c, j, none⟩ v) b s' := Blk.set_ne h j v hne
theorem Stored.set_ne {w w1 : World} {b c : Nat} {s' : WS} (h : Stored w w1 b s') (hc : w.heap.size ≤ c) (hb : b < w.heap.size) (j : Nat) (v : Value) : Stored w (w1.setCell ⟨c, j, none⟩ v) b s' := by
  refine ⟨Blk.set_ne h.hc j v (by omega), h.os, h.tape, h.output, by have := h.size; simpa using this, fun k hk hne => ?_⟩
  rw [Below.heap_setCell _ _ _ _ (by simp; omega)]; exact h.other k hk hne
theorem Blk.stored {w0 w1 : World} {b c : Nat} {s' : WS} {vs : Array Value} {T : TypeId} (h : Blk w0 c vs T) (hs : Stored w0 w1 b s') (hne : c ≠ b) : Blk w1 c vs T := (hs.other c h.lt hne).trans h

theorem left_any (h : s.Ok) (hc : HW w b s) : Calls Try.prog 15 #[.pointer (some ⟨b, 0, none⟩)] w fun e w' => e = .returned (L s.left) ∧ Below w.heap.size w w' := by
  obtain ⟨en, lk, ar, shut, all, since, fault⟩ := s
  have a0 := h.a0; have a1 := h.a1; have s0 := h.s0; have s1 := h.s1; have hon := h.on
  try dsimp only at a0 a1 s0 s1 hon
  unfold WS.left
  cases en
  · have HC := Lib.hid hc
    clear hon
    go_enter Try.func15, Try.ntmps15
    go_wp2_with (go_at_call 26; refine (of_any HC.out).mono ?_; rintro e w2 ⟨rfl, hb⟩)
    go_ret
    exact ⟨rfl, hb.alloc hb.size _⟩
  · by_cases hf : fault = 0
    · subst hf
      have hlt := hon rfl rfl
      have HC := Lib.hid hc
      clear hon
      go_enter Try.func15, Try.ntmps15
      go_wp2_with (go_at_call 26; refine (of_any HC.out).mono ?_; rintro e w2 ⟨rfl, hb⟩)
      go_ret
      exact ⟨by first | rfl | (simp), hb.alloc hb.size _⟩
    · have hfb : (fault == 0) = false := by simpa using hf
      have hfb' : (fault != 0) = true := by simpa using hf
      have HC := Lib.hid hc
      clear hon
      go_enter Try.func15, Try.ntmps15
      go_wp2_with (go_at_call 26; refine (of_any HC.out).mono ?_; rintro e w2 ⟨rfl, hb⟩)
      all_goals (go_ret; exact ⟨by first | rfl | (simp [hf]), hb.alloc hb.size _⟩)
theorem left_nil (w : World) : Calls Try.prog 15 #[.pointer none] w fun e w' => e = .returned (L 18446744073709551615) ∧ Below w.heap.size w w' := by
  go_enter Try.func15, Try.ntmps15
  go_wp2_with (go_at_call 26; refine (of_nil w).mono ?_; rintro e w2 ⟨rfl, hb⟩)
  go_ret
  exact ⟨rfl, hb.alloc hb.size _⟩

theorem eq_ws (en lk ar : Bool) (shut all since fault : Int) (q : Bool) (h : decide (en = false ∧ lk = false ∧ ar = false ∧ shut = 0 ∧ all = 0 ∧ since = 0 ∧ fault = 0) = q) (w : World) :
    (Op.equalIn 10000 50 (.agg #[.bool en, .bool lk, .bool ar, U shut, U all, L since, I fault]) (.agg #[.bool false, .bool false, .bool false, U 0, U 0, L 0, I 0])).run Try.prog w = .ok q w := by
  subst h
  cases en
  · cases lk
    · cases ar
      · by_cases h3 : shut = 0
        · by_cases h4 : all = 0
          · by_cases h5 : since = 0
            · by_cases h6 : fault = 0
              · simp [go_sem, h3, h4, h5, h6]
              · simp [go_sem, h3, h4, h5, h6]
            · simp [go_sem, h3, h4, h5]
          · simp [go_sem, h3, h4]
        · simp [go_sem, h3]
      · simp [go_sem]
    · simp [go_sem]
  · simp [go_sem]

set_option maxHeartbeats 1000000 in
theorem tick_any (h : s.Ok) (hc : HW w b s) (n : Int) (n0 : 0 ≤ n) (n1 : n ≤ 18446744073709551615) :
    Calls Try.prog 10 #[.pointer (some ⟨b, 0, none⟩), L n] w fun e w' => e = .returned (L (s.tickB n).2) ∧ Stored w w' b (s.tickB n).1 := by
  obtain ⟨en, lk, ar, shut, all, since, fault⟩ := s
  have a0 := h.a0; have a1 := h.a1; have s0 := h.s0; have s1 := h.s1; have hon := h.on
  try dsimp only at a0 a1 s0 s1 hon
  have hk := Stored.of_below (Below.refl w.heap.size w) hc
  have c0 := hc.cell 0 rfl; have c1 := hc.cell 1 rfl; have c2 := hc.cell 2 rfl; have c3 := hc.cell 3 rfl; have c4 := hc.cell 4 rfl; have c5 := hc.cell 5 rfl; have c6 := hc.cell 6 rfl
  try dsimp only at c0 c1 c2 c3 c4 c5 c6
  have HC := Lib.hid hc
  have HK := Lib.hid hk
  have HH := Lib.hid h
  by_cases hz : en = false ∧ lk = false ∧ ar = false ∧ shut = 0 ∧ all = 0 ∧ since = 0 ∧ fault = 0
  · have heq := eq_ws en lk ar shut all since fault true (decide_eq_true hz)
    have hv : WS.tickB ⟨en, lk, ar, shut, all, since, fault⟩ n = (⟨en, lk, ar, shut, all, since, fault⟩, n) := by
      obtain ⟨rfl, rfl, rfl, rfl, rfl, rfl, rfl⟩ := hz
      simp [WS.tickB]
    have HV := Lib.hid hv
    clear hz hon hc hk h hv
    go_enter Try.func10, Try.ntmps10
    go_wp2
    go_ret
    rw [HV.out]
    exact ⟨rfl, HK.out⟩
  · have heq := eq_ws en lk ar shut all since fault false (decide_eq_false hz)
    have HL := Lib.hid (left_any HH.out HC.out)
    clear hz hc hk h
    by_cases hf : fault = 0
    · subst hf
      cases en
      · have hv : WS.tickB ⟨false, lk, ar, shut, all, since, 0⟩ n = (⟨false, lk, ar, shut, all, since, 0⟩, n) := by simp [WS.tickB]
        have HV := Lib.hid hv
        clear hon hv
        go_enter Try.func10, Try.ntmps10
        go_wp2_with ((go_at_call 15; fail))
        refine HL.out.mono ?_
        rintro e w2 ⟨rfl, hb⟩
        have H2 := HK.out.then hb
        have c20 := H2.hc.cell 0 rfl; have c26 := H2.hc.cell 6 rfl
        try dsimp only at c20 c26
        go_wp2_with fail
        go_ret
        rw [HV.out]
        exact ⟨rfl, H2⟩
      · have hlt := hon rfl rfl
        have hlv : WS.left ⟨true, lk, ar, shut, all, since, 0⟩ = all - since := by simp [WS.left]
        rw [hlv] at HL
        clear hon hlv
        by_cases hle : all - since ≤ n
        · have hv : WS.tickB ⟨true, lk, ar, shut, all, since, 0⟩ n = (⟨true, lk, ar, shut, all, all, 2⟩, all - since) := by simp [WS.tickB, hle]
          have HV := Lib.hid hv
          clear hv
          have hge : decide (all - since ≤ n) = true := by simpa using hle
          have hsum : since + (all - since) = all := by omega
          go_enter Try.func10, Try.ntmps10
          go_wp2_with ((go_at_call 15; fail))
          refine HL.out.mono ?_
          rintro e w2 ⟨rfl, hb⟩
          have H2 := HK.out.then hb
          have c20 := H2.hc.cell 0 rfl; have c26 := H2.hc.cell 6 rfl; have c25 := H2.hc.cell 5 rfl
          try dsimp only at c20 c26 c25
          have f25 := H2.hc.free 5; have f26 := H2.hc.free 6
          go_wp2_with fail
          go_ret
          rw [HV.out]
          exact ⟨rfl, (H2.set (s' := ⟨true, lk, ar, shut, all, all, 0⟩) 5 _ (by first | rfl | simp [hsum])).set 6 _ rfl⟩
        · have hv : WS.tickB ⟨true, lk, ar, shut, all, since, 0⟩ n = (⟨true, lk, ar, shut, all, since + n, 0⟩, n) := by simp [WS.tickB, hle]
          have HV := Lib.hid hv
          clear hv
          have hge : decide (all - since ≤ n) = false := by simpa using hle
          go_enter Try.func10, Try.ntmps10
          go_wp2_with ((go_at_call 15; fail))
          refine HL.out.mono ?_
          rintro e w2 ⟨rfl, hb⟩
          have H2 := HK.out.then hb
          have c20 := H2.hc.cell 0 rfl; have c26 := H2.hc.cell 6 rfl; have c25 := H2.hc.cell 5 rfl
          try dsimp only at c20 c26 c25
          have f25 := H2.hc.free 5
          go_wp2_with fail
          go_ret
          rw [HV.out]
          exact ⟨rfl, H2.set (s' := ⟨true, lk, ar, shut, all, since + n, 0⟩) 5 _ rfl⟩
    · have hv : WS.tickB ⟨en, lk, ar, shut, all, since, fault⟩ n = (⟨en, lk, ar, shut, all, since, fault⟩, 0) := by simp [WS.tickB, hf]
      have HV := Lib.hid hv
      have hfb : (fault == 0) = false := by simpa using hf
      have hfb' : (fault != 0) = true := by simpa using hf
      clear hon hv
      go_enter Try.func10, Try.ntmps10
      go_wp2_with ((go_at_call 15; fail))
      refine HL.out.mono ?_
      rintro e w2 ⟨rfl, hb⟩
      have H2 := HK.out.then hb
      have c26 := H2.hc.cell 6 rfl
      try dsimp only at c26
      go_wp2_with fail
      all_goals (go_ret; rw [HV.out]; exact ⟨rfl, H2⟩)
theorem tick_nil (n : Int) (w : World) : Calls Try.prog 10 #[.pointer none, L n] w fun e w' => e = .returned (L n) ∧ w = w' := by
  go_enter Try.func10, Try.ntmps10
  go_wp2
  go_ret
  exact ⟨rfl, rfl⟩
end
end Go.Proofs.Ytndndlegefhafaa
