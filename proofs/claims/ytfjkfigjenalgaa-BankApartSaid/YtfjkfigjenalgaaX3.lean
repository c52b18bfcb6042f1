/- The next expiry: from the first timer on, and from the last one on, it is the same. Plain numbers. -/
import Derived.Test.YtfjkfigjenalgaaX2
namespace Go.Proofs.Ytfjkfigjenalgaa
open Go.RowKit
set_option linter.unusedVariables false

/-- What is the next expiry among the timers from lo up to hi. -/
def Best (ss : List CS) (lo hi : Nat) (r : Int × Int) : Prop :=
  ((∀ j t, lo ≤ j → j < hi → ss[j]? = some t → t.en = false) ∧ r = (18446744073709551615, -1)) ∨
  ∃ i s, lo ≤ i ∧ i < hi ∧ ss[i]? = some s ∧ s.en = true ∧ r = (s.left, (i : Int)) ∧ ∀ j t, lo ≤ j → j < hi → ss[j]? = some t → t.en = true → s.left ≤ t.left ∧ (j < i → s.left < t.left)

theorem Best.uniq {ss : List CS} {lo hi : Nat} {r r' : Int × Int} (h : Best ss lo hi r) (h' : Best ss lo hi r') : r = r' := by
  rcases h with ⟨h1, rfl⟩ | ⟨i, s, a1, a2, a3, a4, rfl, a5⟩
  · rcases h' with ⟨_, rfl⟩ | ⟨i, s, a1, a2, a3, a4, _, _⟩
    · rfl
    · have := h1 i s a1 a2 a3
      rw [a4] at this; cases this
  · rcases h' with ⟨h1, _⟩ | ⟨k, t, b1, b2, b3, b4, rfl, b5⟩
    · have := h1 i s a1 a2 a3
      rw [a4] at this; cases this
    · have c1 := a5 k t b1 b2 b3 b4
      have c2 := b5 i s a1 a2 a3 a4
      have hik : i = k := by
        rcases Nat.lt_trichotomy i k with hl | hl | hl
        · have := c2.2 hl; omega
        · exact hl
        · have := c1.2 hl; omega
      subst hik
      rw [a3] at b3
      cases b3
      rfl

theorem bestN (ss : List CS) (ok : ∀ (i : Nat) (s : CS), ss[i]? = some s → s.Ok) : ∀ k, k ≤ ss.length → Best ss 0 k (leftN ss k)
  | 0, _ => Or.inl ⟨fun j t _ h => absurd h (Nat.not_lt_zero j), rfl⟩
  | k + 1, hk => by
    have ih := bestN ss ok k (by omega)
    have e : ss[k]? = some (ss[k]'(by omega)) := List.getElem?_eq_getElem _
    generalize ss[k]'(by omega) = s at e
    have hs := leftN_succ e
    rw [hs]
    cases hen : s.en
    · simp only [Bool.false_and, Bool.false_eq_true, if_false]
      rcases ih with ⟨h1, h2⟩ | ⟨i, t, a1, a2, a3, a4, a5, a6⟩
      · refine Or.inl ⟨fun j t h0 h hj => ?_, h2⟩
        by_cases hjk : j = k
        · subst hjk; rw [e] at hj; cases hj; exact hen
        · exact h1 j t h0 (by omega) hj
      · refine Or.inr ⟨i, t, a1, by omega, a3, a4, a5, fun j u h0 h hj hu => ?_⟩
        by_cases hjk : j = k
        · subst hjk; rw [e] at hj; cases hj; rw [hen] at hu; cases hu
        · exact a6 j u h0 (by omega) hj hu
    · have hmax := CS.left_max s (ok k s e) hen
      rcases ih with ⟨h1, h2⟩ | ⟨i, t, a1, a2, a3, a4, a5, a6⟩
      · rw [h2]
        simp
        refine Or.inr ⟨k, s, by omega, by omega, e, hen, rfl, fun j u h0 h hj hu => ?_⟩
        by_cases hjk : j = k
        · subst hjk; rw [e] at hj; cases hj; exact ⟨Int.le_refl _, fun h => absurd h (Nat.lt_irrefl _)⟩
        · have := h1 j u h0 (by omega) hj; rw [hu] at this; cases this
      · rw [a5]
        have hi0 : ¬ ((i : Int) < 0) := by omega
        by_cases hlt : s.left < t.left
        · simp [hlt]
          refine Or.inr ⟨k, s, by omega, by omega, e, hen, rfl, fun j u h0 h hj hu => ?_⟩
          by_cases hjk : j = k
          · subst hjk; rw [e] at hj; cases hj; exact ⟨Int.le_refl _, fun h => absurd h (Nat.lt_irrefl _)⟩
          · have := (a6 j u h0 (by omega) hj hu).1
            exact ⟨by omega, fun _ => by omega⟩
        · simp [hlt, hi0]
          refine Or.inr ⟨i, t, a1, by omega, a3, a4, rfl, fun j u h0 h hj hu => ?_⟩
          by_cases hjk : j = k
          · subst hjk; rw [e] at hj; cases hj; exact ⟨by omega, fun h => by omega⟩
          · exact a6 j u h0 (by omega) hj hu

theorem bestD (ss : List CS) (ok : ∀ (i : Nat) (s : CS), ss[i]? = some s → s.Ok) : ∀ n, n ≤ ss.length → Best ss (ss.length - n) ss.length (leftD ss n)
  | 0, _ => Or.inl ⟨fun j t h0 h => by omega, rfl⟩
  | n + 1, hn => by
    have ih := bestD ss ok n (by omega)
    obtain ⟨k, hk⟩ : ∃ k, ss.length - (n + 1) = k := ⟨_, rfl⟩
    have hk2 : ss.length - n = k + 1 := by omega
    have hkl : k < ss.length := by omega
    have e : ss[k]? = some (ss[k]'hkl) := List.getElem?_eq_getElem _
    generalize ss[k]'hkl = s at e
    have hs := leftD_succ (n := n) (by rw [hk]; exact e)
    rw [hs, hk]
    rw [hk2] at ih
    cases hen : s.en
    · simp only [Bool.false_and, Bool.false_eq_true, if_false]
      rcases ih with ⟨h1, h2⟩ | ⟨i, t, a1, a2, a3, a4, a5, a6⟩
      · refine Or.inl ⟨fun j t h0 h hj => ?_, h2⟩
        by_cases hjk : j = k
        · subst hjk; rw [e] at hj; cases hj; exact hen
        · exact h1 j t (by omega) h hj
      · refine Or.inr ⟨i, t, by omega, a2, a3, a4, a5, fun j u h0 h hj hu => ?_⟩
        by_cases hjk : j = k
        · subst hjk; rw [e] at hj; cases hj; rw [hen] at hu; cases hu
        · exact a6 j u (by omega) h hj hu
    · have hmax := CS.left_max s (ok k s e) hen
      rcases ih with ⟨h1, h2⟩ | ⟨i, t, a1, a2, a3, a4, a5, a6⟩
      · rw [h2]
        have hle : s.left ≤ 18446744073709551615 := by omega
        simp [hle]
        refine Or.inr ⟨k, s, by omega, by omega, e, hen, rfl, fun j u h0 h hj hu => ?_⟩
        by_cases hjk : j = k
        · subst hjk; rw [e] at hj; cases hj; exact ⟨Int.le_refl _, fun h => absurd h (Nat.lt_irrefl _)⟩
        · have := h1 j u (by omega) h hj; rw [hu] at this; cases this
      · rw [a5]
        by_cases hle : s.left ≤ t.left
        · simp [hle]
          refine Or.inr ⟨k, s, by omega, by omega, e, hen, rfl, fun j u h0 h hj hu => ?_⟩
          by_cases hjk : j = k
          · subst hjk; rw [e] at hj; cases hj; exact ⟨Int.le_refl _, fun h => absurd h (Nat.lt_irrefl _)⟩
          · have := (a6 j u (by omega) h hj hu).1
            exact ⟨by omega, fun _ => by omega⟩
        · simp [hle]
          refine Or.inr ⟨i, t, by omega, a2, a3, a4, rfl, fun j u h0 h hj hu => ?_⟩
          by_cases hjk : j = k
          · subst hjk; rw [e] at hj; cases hj; exact ⟨by omega, fun h => by omega⟩
          · exact a6 j u (by omega) h hj hu

/-- The document's next expiry is the program's. -/
theorem leftD_eq (ss : List CS) (ok : ∀ (i : Nat) (s : CS), ss[i]? = some s → s.Ok) : leftD ss ss.length = leftN ss ss.length := by
  have h1 := bestD ss ok ss.length (Nat.le_refl _)
  rw [Nat.sub_self] at h1
  exact h1.uniq (bestN ss ok ss.length (Nat.le_refl _))
end Go.Proofs.Ytfjkfigjenalgaa
