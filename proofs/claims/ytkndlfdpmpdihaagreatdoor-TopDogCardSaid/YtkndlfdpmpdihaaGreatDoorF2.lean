/- A list of acts, read out of the argument; the tables, read out of what is listed. Conditions: those that each statement shows. -/
import Derived.Test.YtkndlfdpmpdihaaGreatDoorF1
import Derived.Test.YtkndlfdpmpdihaaGreatDoorRows
import Derived.Deep.Slices
import Derived.ChangeArms
import Derived.ProofKit
import Derived.LaidMore
import Derived.Lib.LaidTab
namespace Go.Proofs.YtkndlfdpmpdihaaGreatDoor
open Go.ChangeShapes Go.WideShapes Go.Deep Go.RowKit Go.Ev
set_option linter.unusedVariables false
set_option maxRecDepth 100000
theorem wf_i64 {n : Int} (h : (Lit.int .i64 n).wf = true) : -9223372036854775808 ≤ n ∧ n ≤ 9223372036854775807 := by
  simp [Lit.wf, IntKind.min, IntKind.max, IntKind.signed, IntKind.bits] at h; omega
theorem wf_u64 {n : Int} (h : (Lit.int .u64 n).wf = true) : 0 ≤ n ∧ n ≤ 18446744073709551615 := by
  simp [Lit.wf, IntKind.min, IntKind.max, IntKind.signed, IntKind.bits] at h; omega
theorem wf_u32 {n : Int} (h : (Lit.int .u32 n).wf = true) : 0 ≤ n ∧ n ≤ 4294967295 := by
  simp [Lit.wf, IntKind.min, IntKind.max, IntKind.signed, IntKind.bits] at h; omega
theorem drop_one {cs : List Value} {j : Nat} (h : j < cs.length) : (cs.drop j).take 1 = [cs[j]] := by
  rw [List.drop_eq_getElem_cons h]; rfl
theorem acts_of {H : Type} {enc : TypeId × Value → H} {W : World} {v : Value} {d : DataW H} {p : List MemPlace} (hv : ∃ a len cap, v = .slice a len cap)
    (h : DataW.Trod enc Tryz.prog W 0 (fun _ => true) true 23 v d p) : ∃ A len cap, v = .slice A len cap ∧ len ≤ maxLen ∧ Acts W A len := by
  obtain ⟨fuel, hf⟩ := h
  obtain ⟨A, l0, c0, rfl⟩ := hv
  rcases open_slice Tryz.underlying23 hf with ⟨hcs, _⟩ | ⟨a, len, cap, m, n, D, Pl, hcs, _, hl, hm, hmm, _, hi⟩
  · simp [Value.cells] at hcs
    obtain ⟨rfl, rfl, rfl⟩ := hcs
    exact ⟨_, _, _, rfl, Nat.zero_le _, fun i hi => absurd hi (Nat.not_lt_zero i)⟩
  · simp [Value.cells] at hcs
    obtain ⟨rfl, rfl, rfl⟩ := hcs
    refine ⟨_, _, _, rfl, Nat.le_trans hl hm, fun i hil => ?_⟩
    obtain ⟨cs, hc, ht⟩ := hi i (by rw [hmm]; simp; omega)
    have e4 : Tryz.prog.cellsOf 39 = 4 := by kernel_rfl
    rw [e4] at hc
    obtain ⟨xs, k, _, _, hlen, hxl, hat⟩ := DataW.trod_struct Tryz.underlying39 ht
    obtain ⟨_, hcl, hcell⟩ := World.cells?_some hc
    have e0 : Tryz.prog.cellsOf 3 = 1 := by kernel_rfl
    have e1 : Tryz.prog.cellsOf 37 = 1 := by kernel_rfl
    have h0 : DataW.trod enc Tryz.prog W 0 (fun _ => true) true k 3 ((cs.drop 0).take (Tryz.prog.cellsOf 3)) = xs[0]? := hat 0 _ rfl
    have h1 : DataW.trod enc Tryz.prog W 0 (fun _ => true) true k 37 ((cs.drop 1).take (Tryz.prog.cellsOf 37)) = xs[1]? := hat 1 _ rfl
    have h2 : DataW.trod enc Tryz.prog W 0 (fun _ => true) true k 37 ((cs.drop 2).take (Tryz.prog.cellsOf 37)) = xs[2]? := hat 2 _ rfl
    have h3 : DataW.trod enc Tryz.prog W 0 (fun _ => true) true k 3 ((cs.drop 3).take (Tryz.prog.cellsOf 3)) = xs[3]? := hat 3 _ rfl
    simp only [e0, e1] at h0 h1 h2 h3
    rw [drop_one (by omega)] at h0 h1 h2 h3
    have hx : ∀ j, j < 4 → ∃ y, xs[j]? = some y := fun j hj => ⟨xs[j]'(by rw [hxl]; exact hj), List.getElem?_eq_getElem (by rw [hxl]; exact hj)⟩
    obtain ⟨y0, hy0⟩ := hx 0 (by omega)
    obtain ⟨y1, hy1⟩ := hx 1 (by omega)
    obtain ⟨y2, hy2⟩ := hx 2 (by omega)
    obtain ⟨y3, hy3⟩ := hx 3 (by omega)
    rw [hy0] at h0
    rw [hy1] at h1
    rw [hy2] at h2
    rw [hy3] at h3
    obtain ⟨k0, g0, _, w0⟩ := DataW.trod_int Tryz.underlying3 h0
    obtain ⟨k1, g1, _, w1⟩ := DataW.trod_int Tryz.underlying37 h1
    obtain ⟨k2, g2, _, w2⟩ := DataW.trod_int Tryz.underlying37 h2
    obtain ⟨k3, g3, _, w3⟩ := DataW.trod_int Tryz.underlying3 h3
    simp only [List.cons.injEq, and_true] at g0 g1 g2 g3
    have c0 := hcell 0 (by omega)
    have c1 := hcell 1 (by omega)
    have c2 := hcell 2 (by omega)
    have c3 := hcell 3 (by omega)
    rw [List.getElem?_eq_getElem (by omega)] at c0 c1 c2 c3
    rw [g0] at c0
    rw [g1] at c1
    rw [g2] at c2
    rw [g3] at c3
    obtain ⟨sb, so, spot⟩ := a
    have hspot : spot = none := by
      obtain ⟨cs', hc', _⟩ := hi 0 (by rw [hmm]; simp; omega)
      rw [e4] at hc'
      obtain ⟨_, hcl', hcell'⟩ := World.cells?_some hc'
      have c0' := hcell' 0 (by omega)
      rw [List.getElem?_eq_getElem (by omega)] at c0'
      simpa [Addr.add] using World.cell?_spot c0'
    subst hspot
    have b1 := wf_u64 w1
    have b2 := wf_u64 w2
    obtain ⟨n1, rfl⟩ : ∃ n : Nat, k1 = n := ⟨k1.toNat, by omega⟩
    obtain ⟨n2, rfl⟩ : ∃ n : Nat, k2 = n := ⟨k2.toNat, by omega⟩
    refine ⟨sb, so, ⟨k0, n1, n2, k3⟩, rfl, ?_, ?_, ?_, ?_⟩
    · rw [Addr.add_lit, Addr.add_lit] at c0; exact c0
    · rw [Addr.add_lit, Addr.add_lit] at c1; exact c1
    · rw [Addr.add_lit, Addr.add_lit] at c2; exact c2
    · rw [Addr.add_lit, Addr.add_lit] at c3; exact c3
/-- TopDog answers true. -/
theorem dog_any (W : World) (c t g : Nat) (lk : Bool) (p : Option Addr) (len cap : Nat) (hc : c < 4294967296) (ht : t < 4294967296) (hg : g < 4294967296) (hlen : len ≤ maxLen) (hacts : Acts W p len) (htabs : Tabs W) :
    Calls Tryz.prog 3 #[.int .u32 (c : Int), .int .u32 (t : Int), .bool lk, .int .u32 (g : Int), .slice p len cap] W fun e w' => e = .returned (.bool true) ∧ Below W.heap.size W w' := by
  by_cases h0 : len = 0
  · exact dog_walk W c t g lk p len cap hc ht hg hlen hacts htabs (A := slS) (rA := none) (v := some (.slice p len cap)) (.inr ⟨rfl, rfl, rfl⟩) (fun _ => h0)
  · obtain ⟨sb, so, x, rfl, hat⟩ := hacts 0 (by omega)
    refine dog_walk W c t g lk _ len cap hc ht hg hlen hacts htabs (A := Aof (some ⟨sb, so, none⟩) len cap) (rA := rof (some ⟨sb, so, none⟩)) (v := none) (.inl ⟨rfl, rfl, rfl, ?_, ?_⟩) (fun h => absurd rfl h)
    · intro y hy
      cases hy
      rfl
    · intro y hy
      have : sb = y := Option.some.inj hy
      subst this
      exact hat.lt
theorem var_at {W : World} {n : String} {g : Nat} {cs : Array Value} (hg : Tryz.prog.globalNamed n = some g) (h : W.var? Tryz.prog n = some cs) : ∃ e f, W.heap[g]? = some (.cells cs e f) := by
  unfold World.var? at h
  rw [hg] at h
  simp only [Option.bind_some] at h
  split at h
  · rename_i cs' e f hh
    cases h
    exact ⟨_, _, hh⟩
  · cases h
def numsOf (l : List Value) : List Int := l.map fun v => match v with
  | .int _ n => n
  | _ => 0
/-- The tables lie in their places. -/
theorem tabs_of {W : World} (h : laidMetH Tryz.prog Rows.topDogRow.laid W) : Tabs W := by
  rw [MakeChecks.laidMetH_plain _ _ _ (by kernel_rfl)] at h
  obtain ⟨ps, ⟨g0, t0, cs0, f0, p0, q0, hg0, ht0, hv0, hd0, ⟨g1, t1, cs1, f1, p1, q1, hg1, ht1, hv1, hd1, ⟨g2, t2, cs2, f2, p2, q2, hg2, ht2, hv2, hd2, _⟩, _⟩, _⟩, _, _⟩ := h
  have n0 : Tryz.prog.globalNamed "math/bits.deBruijn32tab" = some 7 := by kernel_rfl
  have n1 : Tryz.prog.globalNamed "math/bits.deBruijn64tab" = some 2 := by kernel_rfl
  have n2 : Tryz.prog.globalNamed "internal/strconv.uint64pow10" = some 0 := by kernel_rfl
  obtain rfl := Option.some.inj (n1.symm.trans hg1)
  obtain rfl := Option.some.inj (n2.symm.trans hg2)
  obtain ⟨e0, w0, h7⟩ := var_at n0 hv0
  obtain ⟨e1, w1, h2⟩ := var_at n1 hv1
  obtain ⟨e2, w2, h0⟩ := var_at n2 hv2
  have T1 : (Tryz.prog.globals[2]?).map (·.type) = some 496 := by kernel_rfl
  have T2 : (Tryz.prog.globals[0]?).map (·.type) = some 460 := by kernel_rfl
  obtain rfl := Option.some.inj (T1.symm.trans ht1)
  obtain rfl := Option.some.inj (T2.symm.trans ht2)
  have x1 := Lib.cells_of_tab (k := .u8) (zs := numsOf tab64) Tryz.underlying496 Tryz.underlying5 (by kernel_rfl) (by kernel_rfl) hd1
  have x2 := Lib.cells_of_tab (k := .u64) (zs := numsOf pow10) Tryz.underlying460 Tryz.underlying37 (by kernel_rfl) (by kernel_rfl) hd2
  have y1 : cs1 = ⟨tab64⟩ := Array.toList_inj.1 (x1.trans rfl)
  have y2 : cs2 = ⟨pow10⟩ := Array.toList_inj.1 (x2.trans rfl)
  exact ⟨(Array.getElem?_eq_some_iff.1 h7).1, ⟨e2, w2, by rw [h0, y2]⟩, e1, w1, by rw [h2, y1]⟩
end Go.Proofs.YtkndlfdpmpdihaaGreatDoor
