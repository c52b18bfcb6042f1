/- Lists of numbers, read out of the argument. Conditions: those that each statement shows. -/
import Derived.Test.YtndndlegefhafaaT4
import Derived.Test.YtndndlegefhafaaO1
namespace Go.Proofs.Ytndndlegefhafaa
open Go.ChangeShapes Go.WideShapes Go.Deep Go.RowKit
set_option linter.unusedVariables false

theorem nums_of {H : Type} {enc : TypeId × Value → H} {W : World} {v : Value} {d : DataW H} {p : List MemPlace} {k : IntKind} {t e : TypeId} {lo hi : Int} (hv : ∃ a len cap, v = .slice a len cap)
    (ht : Try.prog.underlying t = some (.slice e)) (he : Try.prog.underlying e = some (.int k)) (hC : Try.prog.cellsOf e = 1) (hw : ∀ n, (Lit.int k n).wf = true → 0 ≤ n ∧ n ≤ hi)
    (h : DataW.Trod enc Try.prog W 0 (fun _ => true) true t v d p) : ∃ A len cap, v = .slice A len cap ∧ len ≤ maxLen ∧ Nums k hi W A len := by
  obtain ⟨fuel, hf⟩ := h
  obtain ⟨A, l0, c0, rfl⟩ := hv
  rcases open_slice ht hf with ⟨hcs, _⟩ | ⟨a, len, cap, m, n, D, Pl, hcs, _, hl, hm, hmm, _, hi'⟩
  · simp [Value.cells] at hcs
    obtain ⟨rfl, rfl, rfl⟩ := hcs
    exact ⟨_, _, _, rfl, Nat.zero_le _, fun i hi => absurd hi (Nat.not_lt_zero i)⟩
  · simp [Value.cells] at hcs
    obtain ⟨rfl, rfl, rfl⟩ := hcs
    refine ⟨_, _, _, rfl, Nat.le_trans hl hm, fun i hil => ?_⟩
    rw [hC] at hi'
    have cellAt : ∀ i, i < l0 → ∃ x, (Lit.int k x).wf = true ∧ W.cell? (a.add (i * 1)) = some (.int k x) := fun i hil => by
      obtain ⟨cs, hc, ht'⟩ := hi' i (by rw [hmm]; simp; omega)
      obtain ⟨x, g, _, wx⟩ := DataW.trod_int he ht'
      subst g
      obtain ⟨_, _, hcell⟩ := World.cells?_some hc
      have c0 := hcell 0 (by omega)
      refine ⟨x, wx, ?_⟩
      simpa [Addr.add] using c0
    obtain ⟨x, wx, hx⟩ := cellAt i hil
    obtain ⟨x0, _, hx0⟩ := cellAt 0 (by omega)
    obtain ⟨sb, so, spot⟩ := a
    have hspot : spot = none := by simpa [Addr.add] using World.cell?_spot hx0
    subst hspot
    have b := hw x wx
    refine ⟨sb, so, x, rfl, b.1, b.2, ?_⟩
    rw [Addr.add_lit, Nat.mul_one] at hx
    exact hx

theorem nums64 {H : Type} {enc : TypeId × Value → H} {W : World} {v : Value} {d : DataW H} {p : List MemPlace} (hv : ∃ a len cap, v = .slice a len cap)
    (h : DataW.Trod enc Try.prog W 0 (fun _ => true) true 23 v d p) : ∃ A len cap, v = .slice A len cap ∧ len ≤ maxLen ∧ Nums .u64 18446744073709551615 W A len :=
  nums_of (lo := 0) hv Try.underlying23 Try.underlying28 (by kernel_rfl) (fun n h => wf_u64 h) h
theorem nums32 {H : Type} {enc : TypeId × Value → H} {W : World} {v : Value} {d : DataW H} {p : List MemPlace} (hv : ∃ a len cap, v = .slice a len cap)
    (h : DataW.Trod enc Try.prog W 0 (fun _ => true) true 34 v d p) : ∃ A len cap, v = .slice A len cap ∧ len ≤ maxLen ∧ Nums .u32 4294967295 W A len :=
  nums_of (lo := 0) hv Try.underlying34 Try.underlying22 (by kernel_rfl) (fun n h => wf_u32 h) h

theorem window_row (w : World) (closed total : Int) (A : Option Addr) (len cap : Nat) (lock : Bool) (h0 : (Lit.int .u32 closed).wf = true) (h1 : (Lit.int .u32 total).wf = true) (hlen : len ≤ maxLen) (hn : Nums .u64 18446744073709551615 w A len) :
    Calls Try.prog 3 #[U closed, U total, .slice A len cap, .bool lock] w fun e w' => e = .returned (.bool true) ∧ Below w.heap.size w w' :=
  window_walk w closed total A len cap lock (wf_u32 h0).1 (wf_u32 h0).2 (wf_u32 h1).1 (wf_u32 h1).2 hlen hn
end Go.Proofs.Ytndndlegefhafaa
