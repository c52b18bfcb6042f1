/- The document's timers as a list in memory: loads, words. No conditions beyond those that each statement shows. -/
import Derived.Test.YtfjkfigjenalgaaV5
namespace Go.Proofs.Ytfjkfigjenalgaa
open Go.RowKit
set_option linter.unusedVariables false
set_option linter.unusedSimpArgs false

/-- The document's timers, one behind another. -/
structure RL (w : World) (g : Nat) (ss : List CS) : Prop where
  lo : 1 ≤ ss.length
  hi : ss.length ≤ 8
  ok : ∀ (i : Nat) (s : CS), ss[i]? = some s → s.Ok
  at_ : ∀ (i : Nat) (s : CS), ss[i]? = some s → ∀ (j : Nat) (u : Value), s.rc[j]? = some u → w.cell? ⟨g, i * 8 + j, none⟩ = some u

section
variable {w w' : World} {g cap : Nat} {ss : List CS}

theorem RL.lt (h : RL w g ss) : g < w.heap.size := by
  have e : ss[0]? = some (ss[0]'(by have := h.lo; omega)) := List.getElem?_eq_getElem _
  exact World.block_lt_of_cell? (w := w) (a := ⟨g, 0 * 8 + 0, none⟩) (h.at_ 0 _ e 0 _ rfl)
theorem RL.below {B : Nat} (h : RL w g ss) (hb : Below B w w') (hB : g < B) : RL w' g ss :=
  ⟨h.lo, h.hi, h.ok, fun i s hs j u hu => (hb.cell (p := ⟨g, i * 8 + j, none⟩) hB).trans (h.at_ i s hs j u hu)⟩
theorem RL.kept {cs : List Nat} (h : RL w g ss) (hk : Kept w w' cs) (hn : g ∉ cs) : RL w' g ss :=
  ⟨h.lo, h.hi, h.ok, fun i s hs j u hu => by
    have e := hk.other g h.lt hn
    have := h.at_ i s hs j u hu
    unfold World.cell? at this ⊢
    dsimp only at this ⊢
    rw [e]; exact this⟩

theorem rload_any (h : RL w g ss) (off : Int) (h0 : 0 ≤ off) (h1 : off ≤ 4294967295) :
    Calls Try.prog 49 #[.slice (some ⟨g, 0, none⟩) ss.length cap, U off] w fun e w' => e = .returned (.tuple #[U (bloadB ss off).1, I (bloadB ss off).2]) ∧ Below w.heap.size w w' := by
  have hi := h.hi
  unfold bloadB
  by_cases h4 : off % 4 ≠ 0
  · rw [if_pos h4]
    have q : (off % 4 == 0) = false := by simpa using h4
    have q' : (off % 4 != 0) = true := by simpa using h4
    clear h
    go_enter Try.func49, Try.ntmps49
    go_wp2
    all_goals (go_ret2; exact ⟨rfl, Below.refl _ _⟩)
  rw [if_neg h4]
  have h4' : off % 4 = 0 := by omega
  by_cases hl : (ss.length : Int) ≤ off / 32
  · rw [List.getElem?_eq_none (by omega)]
    have d1 : decide ((ss.length : Int) ≤ off / 32) = true := by simpa using hl
    clear h h4
    go_enter Try.func49, Try.ntmps49
    go_wp2
    all_goals (go_ret2; exact ⟨rfl, Below.refl _ _⟩)
  · obtain ⟨k, hk⟩ : ∃ k : Nat, off / 32 = k := ⟨(off / 32).toNat, by omega⟩
    have hkl : k < ss.length := by omega
    have e2 : ss[k]? = some (ss[k]'hkl) := List.getElem?_eq_getElem hkl
    rw [hk, Int.toNat_natCast, e2]
    dsimp only
    generalize ss[k]'hkl = s at *
    have ok := h.ok k s e2
    have c0 : w.cell? ⟨g, k * 8, none⟩ = some (U s.load) := h.at_ k s e2 0 _ rfl
    have c1 := h.at_ k s e2 1 _ rfl; have c2 := h.at_ k s e2 2 _ rfl; have c3 := h.at_ k s e2 3 _ rfl
    have c4 := h.at_ k s e2 4 _ rfl; have c5 := h.at_ k s e2 5 _ rfl; have c6 := h.at_ k s e2 6 _ rfl; have c7 := h.at_ k s e2 7 _ rfl
    obtain ⟨r, hr⟩ : ∃ r, off % 32 = r := ⟨_, rfl⟩
    rw [hr]
    have LR := Lib.hid (load_ref s ok r (by omega) (by omega) w)
    have hd : decide ((ss.length : Int) ≤ (k : Int)) = false := by simp; omega
    have nn0 : (0 : Int) ≤ (k : Int) := by omega
    have nn1 : (k : Int) < (ss.length : Int) := by omega
    clear h e2 hl h4
    go_enter Try.func49, Try.ntmps49
    go_wp2_with (go_at_call 39; refine LR.out.mono ?_; rintro e w2 ⟨rfl, hb⟩)
    go_ret2
    exact ⟨rfl, hb⟩

def RelWr (w0 : World) (ss : List CS) (k : Nat) (a b u i : Value) (wr : World) : Prop :=
  ∃ n : Nat, i = I (n : Nat) ∧ n ≤ ss.length ∧ k = ss.length - n ∧ a = U (wordN ss (fun s => s.st && s.ir) n) ∧ b = U (wordN ss (fun s => s.en) n) ∧ u = U (2 ^ n) ∧ w0 = wr

theorem pow_bd (k : Nat) (h : k ≤ 8) : (1 : Int) ≤ 2 ^ k ∧ (2 : Int) ^ k ≤ 256 := by
  obtain rfl | rfl | rfl | rfl | rfl | rfl | rfl | rfl | rfl : k = 0 ∨ k = 1 ∨ k = 2 ∨ k = 3 ∨ k = 4 ∨ k = 5 ∨ k = 6 ∨ k = 7 ∨ k = 8 := by omega
  all_goals decide

set_option maxHeartbeats 2000000 in
theorem rwords_any (h : RL w g ss) :
    Calls Try.prog 51 #[.slice (some ⟨g, 0, none⟩) ss.length cap] w fun e w' => e = .returned (.tuple #[U (wordN ss (fun s => s.st && s.ir) ss.length), U (wordN ss (fun s => s.en) ss.length)]) ∧ w = w' := by
  have hi := h.hi
  have HH := Lib.hid h
  clear h
  go_enter Try.func51, Try.ntmps51
  go_wp2_with fail
  go_loopg [4, 5, 6, 7] ss.length (fun k a b u i wr => RelWr w ss k a b u i wr)
  case atStart => exact ⟨0, rfl, by omega, rfl, rfl, rfl, rfl, rfl⟩
  case round =>
    obtain ⟨q, rfl, hq, hk, rfl, rfl, rfl, rfl⟩ := hrel
    have HK := Lib.hid hk
    clear hk
    by_cases hlt : q < ss.length
    · have hd : decide ((q : Int) < (ss.length : Int)) = true := by simp; omega
      have e2 : ss[q]? = some (ss[q]'hlt) := List.getElem?_eq_getElem hlt
      have hs1 := wordN_succ (g := fun s => s.st && s.ir) e2
      have hs2 := wordN_succ (g := fun s => s.en) e2
      try dsimp only at hs1 hs2
      have b1 := wordN_bd ss (fun s => s.st && s.ir) q
      have b2 := wordN_bd ss (fun s => s.en) q
      have b3 := pow_bd q (by omega)
      have hpow : (2 : Int) ^ (q + 1) = 2 * 2 ^ q := by rw [Int.pow_succ]; omega
      generalize ss[q]'hlt = s at *
      have c2 := HH.out.at_ q s e2 2 _ rfl; have c4 := HH.out.at_ q s e2 4 _ rfl; have c7 := HH.out.at_ q s e2 7 _ rfl
      generalize wordN ss (fun s => s.st && s.ir) q = A at *
      generalize wordN ss (fun s => s.en) q = B at *
      generalize hP : (2 : Int) ^ q = p at *
      obtain ⟨l, v, en, re, ir, sc, ph, st⟩ := s
      try dsimp only at c2 c4 c7 hs1 hs2
      have HS1 := Lib.hid hs1; have HS2 := Lib.hid hs2; have HPW := Lib.hid hpow
      obtain ⟨A0, A1⟩ := b1
      obtain ⟨B0, B1⟩ := b2
      obtain ⟨p0, p1⟩ := b3
      have nn0 : (0 : Int) ≤ (q : Int) := by omega
      have nn1 : (q : Int) < (ss.length : Int) := by omega
      clear hs1 hs2 hpow e2 hP
      cases st
      · cases en
        · go_wp2_with fail
          go_roundg (ss.length - (q + 1))
          case measure => have := HK.out; omega
          case rel => exact ⟨q + 1, by go_num, by omega, rfl, by rw [HS1.out]; first | rfl | simp, by rw [HS2.out]; first | rfl | simp, by rw [HPW.out], rfl⟩
        · go_wp2_with fail
          go_roundg (ss.length - (q + 1))
          case measure => have := HK.out; omega
          case rel => exact ⟨q + 1, by go_num, by omega, rfl, by rw [HS1.out]; first | rfl | simp, by rw [HS2.out]; first | rfl | simp, by rw [HPW.out], rfl⟩
      · cases ir
        · cases en
          · go_wp2_with fail
            go_roundg (ss.length - (q + 1))
            case measure => have := HK.out; omega
            case rel => exact ⟨q + 1, by go_num, by omega, rfl, by rw [HS1.out]; first | rfl | simp, by rw [HS2.out]; first | rfl | simp, by rw [HPW.out], rfl⟩
          · go_wp2_with fail
            go_roundg (ss.length - (q + 1))
            case measure => have := HK.out; omega
            case rel => exact ⟨q + 1, by go_num, by omega, rfl, by rw [HS1.out]; first | rfl | simp, by rw [HS2.out]; first | rfl | simp, by rw [HPW.out], rfl⟩
        · cases en
          · go_wp2_with fail
            go_roundg (ss.length - (q + 1))
            case measure => have := HK.out; omega
            case rel => exact ⟨q + 1, by go_num, by omega, rfl, by rw [HS1.out]; first | rfl | simp, by rw [HS2.out]; first | rfl | simp, by rw [HPW.out], rfl⟩
          · go_wp2_with fail
            go_roundg (ss.length - (q + 1))
            case measure => have := HK.out; omega
            case rel => exact ⟨q + 1, by go_num, by omega, rfl, by rw [HS1.out]; first | rfl | simp, by rw [HS2.out]; first | rfl | simp, by rw [HPW.out], rfl⟩
    · have hqe : q = ss.length := by omega
      have hd : decide ((q : Int) < (ss.length : Int)) = false := by simp; omega
      rw [hqe]
      rw [hqe] at hd
      clear hqe hlt hq
      go_wp2
      go_ret2
      exact ⟨rfl, rfl⟩
end
end Go.Proofs.Ytfjkfigjenalgaa
