/- The next expiry of a bank: plain laws. No conditions beyond those that each statement shows. -/
import Derived.Test.YtfjkfigjenalgaaX9
import Derived.Test.YtfjkfigjenalgaaM3
namespace Go.Proofs.Ytfjkfigjenalgaa
open Go.RowKit
set_option linter.unusedVariables false
set_option linter.unusedSimpArgs false

def clr (s : CS) : CS := { s with st := false }
theorem clr_ok {s : CS} (h : s.Ok) : (clr s).Ok := ⟨h.l0, h.l1, h.v0, h.v1, h.s0, h.s1, h.p0, h.p1⟩

theorem bstore_clr (ss : List CS) (q : Nat) (s : CS) (hs : ss[q]? = some s) : bstoreB ss (32 * (q : Int) + 12) 1 = (ss.set q (clr s), 0) := by
  unfold bstoreB
  rw [if_neg (by omega), show ((32 * (q : Int) + 12) / 32).toNat = q by omega, show (32 * (q : Int) + 12) % 32 = 12 by omega, hs]
  rfl
theorem bload_st (ss : List CS) (q : Nat) (s : CS) (hs : ss[q]? = some s) : bloadB ss (32 * (q : Int) + 12) = (bI s.st, 0) := by
  unfold bloadB
  rw [if_neg (by omega), show ((32 * (q : Int) + 12) / 32).toNat = q by omega, show (32 * (q : Int) + 12) % 32 = 12 by omega, hs]
  rfl

theorem wordN_none (ss : List CS) (g : CS → Bool) : ∀ k, (∀ j t, j < k → ss[j]? = some t → g t = false) → wordN ss g k = 0
  | 0, _ => rfl
  | k + 1, h => by
    have ih := wordN_none ss g k (fun j t hj ht => h j t (by omega) ht)
    unfold wordN
    cases e : ss[k]? with
    | none => simpa using ih
    | some s => simp [h k s (by omega) e, ih]

/-- Where no flag is set: the next expiry. -/
theorem bleft_law (ss : List CS) (ok : ∀ (i : Nat) (s : CS), ss[i]? = some s → s.Ok) (hf : ∀ (i : Nat) (s : CS), ss[i]? = some s → s.st = false) :
    (leftN ss ss.length = (18446744073709551615, -1) ∧ wordN ss (fun s => s.en) ss.length = 0) ∨
    ∃ (i : Nat) (a : Int), leftN ss ss.length = (a, (i : Int)) ∧ i < ss.length ∧ 1 ≤ a ∧ a ≤ 1099511627520 ∧
      (∀ (j : Nat) (t : CS), (ss.map fun s => s.tick (a - 1))[j]? = some t → t.st = false) ∧ ∀ t : CS, ((ss.map fun s => s.tick (a - 1)).map fun s => s.tick 1)[i]? = some t → t.st = true := by
  rcases bestN ss ok ss.length (Nat.le_refl _) with ⟨h1, h2⟩ | ⟨i, s, _, a2, a3, a4, a5, a6⟩
  · exact Or.inl ⟨h2, wordN_none ss _ _ (fun j t hj ht => h1 j t (Nat.zero_le _) hj ht)⟩
  · have o : s.Ok := ok i s a3
    have e0 : CS.Ok s := o
    refine Or.inr ⟨i, s.left, a5, a2, CS.left_pos s o, CS.left_max s o a4, fun j t ht => ?_, fun t ht => ?_⟩
    · rw [List.getElem?_map] at ht
      obtain ⟨u, hu, rfl⟩ := Option.map_eq_some_iff.1 ht
      have hj : j < ss.length := (List.getElem?_eq_some_iff.1 hu).1
      have ou := ok j u hu
      have fu := hf j u hu
      cases hen : u.en
      · rw [u.tick_off _ hen]; exact fu
      · have := (a6 j u (Nat.zero_le _) hj hu hen).1
        rw [u.tick_st_before ou hen _ (by omega)]; exact fu
    · rw [List.getElem?_map, List.getElem?_map, a3] at ht
      simp at ht
      rw [← ht, s.tick_add o _ _ (by have := CS.left_pos s o; omega) (by omega), show s.left - 1 + 1 = s.left by omega]
      exact s.tick_st_after o a4 _ (Int.le_refl _)
end Go.Proofs.Ytfjkfigjenalgaa
