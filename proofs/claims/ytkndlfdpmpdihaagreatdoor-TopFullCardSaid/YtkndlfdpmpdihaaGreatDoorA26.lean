/- From the small closed world to whatever world: the start; and a block that a callee has left. No conditions beyond those that each statement shows. -/
import Derived.Test.YtkndlfdpmpdihaaGreatDoorA08
namespace Go.Ev
open Go.RowKit
set_option linter.unusedVariables false
set_option linter.unusedSimpArgs false
section
variable {P : Program} {G : Gl} {B : FM} {w0 : World}
/-- Behind a callee that leaves what lay as it lay. -/
theorem WR.belowed {τ : Rel} {H : Array Obj} {w w' : World} (h : WR G B w0 τ H w) (hb : Below w.heap.size w w') : WR G B w0 τ H w' := by
  have hk : ∀ (k r : Nat) (i : Option (Nat × Nat)), τ k r i → w'.heap[r]? = w.heap[r]? := fun k r i ht => hb.block r (h.dom _ _ _ ht).2.1
  refine ⟨fun k o hk2 hl => ?_, h.fn, h.inj, fun k r i ht => ?_, h.ok, fun k cs e hk2 => ?_, h.glob, h.kp.belowed hb, h.sy⟩
  · obtain ⟨r, i, o', h1, h2, h3⟩ := h.blk k o hk2 hl
    exact ⟨r, i, o', h1, by rw [hk _ _ _ h1]; exact h2, h3⟩
  · have := h.dom _ _ _ ht
    exact ⟨this.1, Nat.lt_of_lt_of_le this.2.1 hb.size, this.2.2⟩
  · obtain ⟨r, i, cs', e', f, h1, h2, h3, h4, h5⟩ := h.old k cs e hk2
    exact ⟨r, i, cs', e', f, h1, by rw [hk _ _ _ h1]; exact h2, h3, h4, h5⟩
/-- A block that a callee has left is one of the small world's from now on. -/
theorem WR.addAt {τ : Rel} {H : Array Obj} {w : World} {g : Nat} {i : Option (Nat × Nat)} {o o' : Obj} (h : WR G B w0 τ H w) (hg : w.heap[g]? = some o') (hB : B g = none) (hno : ∀ k i, ¬ τ k g i) (ho : OR τ i o o') :
    ∃ τ' : Rel, τ.le τ' ∧ τ' H.size g i ∧ WR G B w0 τ' (H.push o) w := by
  have hgl := (Array.getElem?_eq_some_iff.1 hg).1
  refine ⟨⟨fun k u j => τ.r k u j ∨ (k = H.size ∧ u = g ∧ j = i), τ.s⟩, ⟨fun k r j x => .inl x, fun _ _ x => x⟩, .inr ⟨rfl, rfl, rfl⟩, ?_⟩
  have hle : τ.le (⟨fun k u j => τ.r k u j ∨ (k = H.size ∧ u = g ∧ j = i), τ.s⟩ : Rel) := ⟨fun k r j x => .inl x, fun _ _ x => x⟩
  have hal : ∀ k, k < H.size → alive (H.push o) k → alive H k := by
    rintro k hk ⟨u, hu, hl⟩
    rw [Array.getElem?_push, if_neg (by omega)] at hu
    exact ⟨u, hu, hl⟩
  refine ⟨fun k u hk hu => ?_, ?_, ?_, ?_, ?_, ?_, fun q hq => .inl (h.glob q hq), h.kp, h.sy⟩
  · rw [Array.getElem?_push] at hk
    by_cases he : k = H.size
    · rw [if_pos he] at hk
      cases hk
      exact ⟨g, _, _, .inr ⟨he, rfl, rfl⟩, hg, ho.mono hle⟩
    · rw [if_neg he] at hk
      obtain ⟨r2, j, u', h1, h2, h3⟩ := h.blk k u hk hu
      exact ⟨r2, j, u', .inl h1, h2, h3.mono hle⟩
  · rintro k u j u' j' (h1 | ⟨rfl, rfl, rfl⟩) (h2 | ⟨e, rfl, rfl⟩)
    · exact h.fn _ _ _ _ _ h1 h2
    · have := (h.dom _ _ _ h1).1; omega
    · have := (h.dom _ _ _ h2).1; omega
    · exact ⟨rfl, rfl⟩
  · rintro k k' u j j' (h1 | ⟨rfl, rfl, rfl⟩) (h2 | ⟨rfl, e, rfl⟩) l1 l2
    · exact h.inj _ _ _ _ _ h1 h2 (hal _ (h.dom _ _ _ h1).1 l1) (hal _ (h.dom _ _ _ h2).1 l2)
    · subst e; exact absurd h1 (hno _ _)
    · exact absurd h2 (hno _ _)
    · rfl
  · rintro k u j (h1 | ⟨rfl, rfl, rfl⟩)
    · have := h.dom _ _ _ h1
      refine ⟨by simp; omega, this.2.1, fun l => this.2.2 (hal _ this.1 l)⟩
    · exact ⟨by simp, hgl, fun _ => hB⟩
  · intro k u hk
    rw [Array.getElem?_push] at hk
    by_cases he : k = H.size
    · rw [if_pos he] at hk; cases hk; exact .inl (or_live ho)
    · rw [if_neg he] at hk; exact h.ok k u hk
  · intro k cs2 e2 hk
    rw [Array.getElem?_push] at hk
    by_cases he : k = H.size
    · rw [if_pos he] at hk
      have := or_live ho
      rw [Option.some.inj hk, not_live_old] at this; cases this
    · rw [if_neg he] at hk
      obtain ⟨r2, j, cs', e', f, h1, h2, h3, h4, h5⟩ := h.old k cs2 e2 hk
      refine ⟨r2, j, cs', e', f, .inl h1, h2, h3.mono hle, ?_, h5⟩
      rintro k' i' (q | ⟨rfl, q, rfl⟩) ha
      · exact h4 k' i' q (hal _ (h.dom _ _ _ q).1 ha)
      · subst q; exact absurd h1 (hno _ _)
/-- The package variables that are read lie in their places. -/
def Laid (G : Gl) (H : Array Obj) (w : World) : Prop := H.size = G ∧ G ≤ w.heap.size ∧ ∀ (g : Nat) (o : Obj), H[g]? = some o → o = dead ∨ ∃ cs e f, o = oldB cs e ∧ w.heap[g]? = some (.cells cs e f) ∧ cs.toList.all (AFb 10) = true
theorem WR.start {H : Array Obj} {w : World} (h : Laid G H w) : WR G (fun r => w.heap[r]?) w ⟨fun k r i => k = r ∧ k < G.n ∧ i = none, G.s⟩ H w := by
  obtain ⟨h1, h2, h3⟩ := h
  have hnl : ∀ (g : Nat) (o : Obj), H[g]? = some o → live o = false := by
    intro g o ho
    rcases h3 g o ho with rfl | ⟨cs, e, f, rfl, _⟩
    · rfl
    · exact not_live_old cs e
  refine ⟨fun k o hk hl => ?_, ?_, ?_, ?_, fun k o hk => ?_, fun k cs e hk => ?_, fun g hg => ⟨rfl, hg, rfl⟩, Kp.start w, rfl⟩
  · rw [hnl k o hk] at hl; cases hl
  · rintro k r i r' i' ⟨rfl, _, rfl⟩ ⟨rfl, _, rfl⟩; exact ⟨rfl, rfl⟩
  · rintro k k' r i i' ⟨rfl, _, rfl⟩ ⟨rfl, _, rfl⟩ _ _; rfl
  · rintro k r i ⟨rfl, hk, rfl⟩
    refine ⟨by omega, by omega, ?_⟩
    rintro ⟨o, ho, hl⟩
    rw [hnl k o ho] at hl; cases hl
  · rcases h3 k o hk with rfl | ⟨cs, e, f, rfl, _⟩
    · exact .inr (.inl rfl)
    · exact .inr (.inr ⟨cs, e, rfl⟩)
  · have hk' := (Array.getElem?_eq_some_iff.1 hk).1
    rcases h3 k _ hk with hd | ⟨cs', e', f, he, hw, ha⟩
    · simp only [dead, oldB, Obj.cells.injEq, Prod.mk.injEq] at hd
      omega
    · simp only [oldB, Obj.cells.injEq] at he
      obtain ⟨rfl, rfl, _⟩ := he
      refine ⟨k, none, cs, _, f, ⟨rfl, by omega, rfl⟩, hw, (AR.refl_of (fun i v hv => ?_)).lr, ?_, .inl (by omega)⟩
      rotate_left
      · rintro k' i' ⟨rfl, _, rfl⟩ ⟨u, hu, hl⟩
        rw [hnl _ _ hu] at hl; cases hl
      refine AFb.vr 10 v (List.all_eq_true.1 ha v ?_)
      rw [← Array.getElem?_toList] at hv
      exact List.mem_of_getElem? hv
end
end Go.Ev
