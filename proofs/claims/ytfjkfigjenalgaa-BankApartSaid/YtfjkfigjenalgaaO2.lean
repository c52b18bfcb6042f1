/- A list of calls of a bank, read out of the argument. Its conditions: those that its statement shows. -/
import Derived.Test.YtfjkfigjenalgaaO1
namespace Go.Proofs.Ytfjkfigjenalgaa
open Go.ChangeShapes Go.WideShapes Go.Deep Go.RowKit
set_option linter.unusedVariables false
set_option linter.unusedSimpArgs false

theorem bacts_of {H : Type} {enc : TypeId × Value → H} {W : World} {v : Value} {d : DataW H} {p : List MemPlace} (hv : ∃ a len cap, v = .slice a len cap)
    (h : DataW.Trod enc Try.prog W 0 (fun _ => true) true 46 v d p) : ∃ A len cap, v = .slice A len cap ∧ len ≤ maxLen ∧ Acts W A len := by
  obtain ⟨fuel, hf⟩ := h
  obtain ⟨A, l0, c0, rfl⟩ := hv
  rcases open_slice Try.underlying46 hf with ⟨hcs, _⟩ | ⟨a, len, cap, m, n, D, Pl, hcs, _, hl, hm, hmm, _, hi⟩
  · simp [Value.cells] at hcs
    obtain ⟨rfl, rfl, rfl⟩ := hcs
    exact ⟨_, _, _, rfl, Nat.zero_le _, fun i hi => absurd hi (Nat.not_lt_zero i)⟩
  · simp [Value.cells] at hcs
    obtain ⟨rfl, rfl, rfl⟩ := hcs
    refine ⟨_, _, _, rfl, Nat.le_trans hl hm, fun i hil => ?_⟩
    obtain ⟨cs, hc, ht⟩ := hi i (by rw [hmm]; simp; omega)
    have e4 : Try.prog.cellsOf 53 = 4 := by kernel_rfl
    rw [e4] at hc
    obtain ⟨xs, k, _, _, hlen, hxl, hat⟩ := DataW.trod_struct Try.underlying53 ht
    obtain ⟨_, hcl, hcell⟩ := World.cells?_some hc
    have e0 : Try.prog.cellsOf 3 = 1 := by kernel_rfl
    have e1 : Try.prog.cellsOf 30 = 1 := by kernel_rfl
    have e2 : Try.prog.cellsOf 25 = 1 := by kernel_rfl
    have h0 : DataW.trod enc Try.prog W 0 (fun _ => true) true k 3 ((cs.drop 0).take (Try.prog.cellsOf 3)) = xs[0]? := hat 0 _ rfl
    have h1 : DataW.trod enc Try.prog W 0 (fun _ => true) true k 30 ((cs.drop 1).take (Try.prog.cellsOf 30)) = xs[1]? := hat 1 _ rfl
    have h2 : DataW.trod enc Try.prog W 0 (fun _ => true) true k 25 ((cs.drop 2).take (Try.prog.cellsOf 25)) = xs[2]? := hat 2 _ rfl
    have h3 : DataW.trod enc Try.prog W 0 (fun _ => true) true k 25 ((cs.drop 3).take (Try.prog.cellsOf 25)) = xs[3]? := hat 3 _ rfl
    simp only [e0, e1, e2] at h0 h1 h2 h3
    rw [drop_one (by omega)] at h0 h1 h2 h3
    have hx : ∀ j, j < 4 → ∃ y, xs[j]? = some y := fun j hj => ⟨xs[j]'(by rw [hxl]; exact hj), List.getElem?_eq_getElem (by rw [hxl]; exact hj)⟩
    obtain ⟨y0, hy0⟩ := hx 0 (by omega)
    obtain ⟨y1, hy1⟩ := hx 1 (by omega)
    obtain ⟨y2, hy2⟩ := hx 2 (by omega)
    obtain ⟨y3, hy3⟩ := hx 3 (by omega)
    rw [hy0] at h0
    rw [hy1] at h1
    rw [hy2] at h2
    rw [hy3] at h3
    obtain ⟨k0, g0, _, w0⟩ := DataW.trod_int Try.underlying3 h0
    obtain ⟨k1, g1, _, w1⟩ := DataW.trod_int Try.underlying30 h1
    obtain ⟨k2, g2, _, w2⟩ := DataW.trod_int Try.underlying25 h2
    obtain ⟨k3, g3, _, w3⟩ := DataW.trod_int Try.underlying25 h3
    simp only [List.cons.injEq, and_true] at g0 g1 g2 g3
    have c0 := hcell 0 (by omega)
    have c1 := hcell 1 (by omega)
    have c2 := hcell 2 (by omega)
    have c3 := hcell 3 (by omega)
    rw [List.getElem?_eq_getElem (by omega)] at c0 c1 c2 c3
    rw [g0] at c0
    rw [g1] at c1
    rw [g2] at c2
    rw [g3] at c3
    obtain ⟨sb, so, spot⟩ := a
    have hspot : spot = none := by
      obtain ⟨cs', hc', _⟩ := hi 0 (by rw [hmm]; simp; omega)
      rw [e4] at hc'
      obtain ⟨_, hcl', hcell'⟩ := World.cells?_some hc'
      have c0' := hcell' 0 (by omega)
      rw [List.getElem?_eq_getElem (by omega)] at c0'
      simpa [Addr.add] using World.cell?_spot c0'
    subst hspot
    have b1 := wf_u64 w1
    have b2 := wf_u32 w2
    have b3 := wf_u32 w3
    refine ⟨sb, so, k0, k1, k2, k3, rfl, ⟨b1.1, b1.2, b2.1, b2.2, b3.1, b3.2⟩, ?_, ?_, ?_, ?_⟩
    · rw [Addr.add_lit, Addr.add_lit] at c0; exact c0
    · rw [Addr.add_lit, Addr.add_lit] at c1; exact c1
    · rw [Addr.add_lit, Addr.add_lit] at c2; exact c2
    · rw [Addr.add_lit, Addr.add_lit] at c3; exact c3
end Go.Proofs.Ytfjkfigjenalgaa
