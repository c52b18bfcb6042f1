/- The law's own functions: a call, of both. Its conditions: those that its statement shows. -/
import Derived.Test.YtfjkfigjenalgaaQ2
import Derived.RegionTactic
import Derived.ChangeAlike
namespace Go.Proofs.Ytfjkfigjenalgaa
open Go.RowKit
set_option linter.unusedVariables false

/-- What Do answers. -/
def DoP (w : World) (b : Nat) (s' : CS) (e : Ending) (w' : World) : Prop :=
  ∃ b' sb, e = .returned (.tuple #[.pointer (some ⟨b', 0, none⟩), .agg s'.rc, .bool true]) ∧ Stored w w' b sb ∧ HC w' b' s' ∧ (b' = b ∨ w.heap.size ≤ b')

theorem Stored.set_ne {w w1 : World} {b c : Nat} {s' : CS} (h : Stored w w1 b s') (hc : w.heap.size ≤ c) (hb : b < w.heap.size) (j : Nat) (v : Value) : Stored w (w1.setCell ⟨c, j, none⟩ v) b s' := by
  refine ⟨Blk.set_ne h.hc j v (by omega), h.os, h.tape, h.output, by have := h.size; simpa using this, fun k hk hne => ?_⟩
  rw [Below.heap_setCell _ _ _ _ (by simp; omega)]; exact h.other k hk hne
theorem Stored.drew {w w1 : World} {b : Nat} {s' : CS} (h : Stored w w1 b s') : Stored w w1.drew b s' := ⟨h.hc, h.os, h.tape, h.output, h.size, h.other⟩
theorem HC.set_ne {w1 : World} {b c : Nat} {s' : CS} (h : HC w1 b s') (hne : c ≠ b) (j : Nat) (v : Value) : HC (w1.setCell ⟨c, j, none⟩ v) b s' := Blk.set_ne h j v hne

theorem three_below (w : World) (o1 o2 o3 : Obj) : Below w.heap.size w (((w.alloc o1).alloc o2).alloc o3) :=
  (((Below.refl w.heap.size w).alloc (Nat.le_refl _) o1).alloc (by simp) o2).alloc (by simp; omega) o3
theorem DoP.same {w w' : World} {b : Nat} {s' : CS} (h : Stored w w' b s') : DoP w b s' (.returned (.tuple #[.pointer (some ⟨b, 0, none⟩), .agg s'.rc, .bool true])) w' := ⟨b, s', rfl, h, h.hc, Or.inl rfl⟩

section
variable {b : Nat} {s : CS} {w : World}

set_option maxHeartbeats 1000000 in
theorem do_else (h : s.Ok) (hc : HC w b s) (k n off v : Int) (k0 : k ≠ 0) (k1 : k ≠ 1) (k2 : k ≠ 2) (k3 : k ≠ 3) (k4 : k ≠ 4) :
    Calls Try.prog 12 #[.pointer (some ⟨b, 0, none⟩), .agg s.rc, .agg #[I k, L n, U off, U v]] w (DoP w b s) := by
  have q0 : (k == 0) = false := by simp [k0]
  have q1 : (k == 1) = false := by simp [k1]
  have q2 : (k == 2) = false := by simp [k2]
  have q3 : (k == 3) = false := by simp [k3]
  have q4 : (k == 4) = false := by simp [k4]
  have blt := hc.lt
  have H := Lib.hid (show HC (((w.alloc (.cells s.rc 27)).alloc (.cells #[I k, L n, U off, U v] 32)).alloc (.cells rz 27)) b s from (((hc.alloc _).alloc _).alloc _))
  have B := Lib.hid (((((Below.refl w.heap.size w).alloc (Nat.le_refl _) (.cells s.rc 27)).alloc (by simp) (.cells #[I k, L n, U off, U v] 32)).alloc (by simp; omega) (.cells rz 27)))
  have S := Lib.hid (Stored.of_below B.out H.out)
  have M := Lib.hid (show Blk (((w.alloc (.cells s.rc 27)).alloc (.cells #[I k, L n, U off, U v] 32)).alloc (.cells rz 27)) w.heap.size s.rc 27 from ((Blk.new w s.rc 27).alloc _).alloc _)
  have A := Lib.hid (show Blk (((w.alloc (.cells s.rc 27)).alloc (.cells #[I k, L n, U off, U v] 32)).alloc (.cells rz 27)) (w.heap.size + 1) #[I k, L n, U off, U v] 32 from (show Blk ((w.alloc (.cells s.rc 27)).alloc (.cells #[I k, L n, U off, U v] 32)) (w.heap.size + 1) #[I k, L n, U off, U v] 32 by simpa using Blk.new (w.alloc (.cells s.rc 27)) #[I k, L n, U off, U v] 32).alloc _)
  have Z := Lib.hid (show Blk (((w.alloc (.cells s.rc 27)).alloc (.cells #[I k, L n, U off, U v] 32)).alloc (.cells rz 27)) (w.heap.size + 2) rz 27 by simpa using Blk.new ((w.alloc (.cells s.rc 27)).alloc (.cells #[I k, L n, U off, U v] 32)) rz 27)
  go_enter Try.func12, Try.ntmps12
  go_wp2_with fail
  go_region
  go_wp2
  refine bodyPost_ret (v := .tuple #[.pointer (some ⟨b, 0, none⟩), .agg s.rc, .bool true]) (by simp [results, Try.results12, go_sem]) rfl ?_
  exact DoP.same (Stored.of_below (three_below w _ _ _) (((hc.alloc _).alloc _).alloc _)).drew


end
end Go.Proofs.Ytfjkfigjenalgaa
