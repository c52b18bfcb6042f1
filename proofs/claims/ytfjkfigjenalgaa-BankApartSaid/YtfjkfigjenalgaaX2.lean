/- The document's timers: the next expiry, from the last timer on. No conditions beyond those that each statement shows. -/
import Derived.Test.YtfjkfigjenalgaaX1
namespace Go.Proofs.Ytfjkfigjenalgaa
open Go.RowKit
set_option linter.unusedVariables false
set_option linter.unusedSimpArgs false

/-- The next expiry among the last n timers, and whose it is, as the document looks for it. -/
def leftD (ss : List CS) : Nat → Int × Int
  | 0 => (18446744073709551615, -1)
  | n + 1 => match ss[ss.length - (n + 1)]? with
    | some s => if s.en && decide (s.left ≤ (leftD ss n).1) then (s.left, ((ss.length - (n + 1) : Nat) : Int)) else leftD ss n
    | none => leftD ss n
theorem leftD_succ {ss : List CS} {n : Nat} {s : CS} (hs : ss[ss.length - (n + 1)]? = some s) : leftD ss (n + 1) = if s.en && decide (s.left ≤ (leftD ss n).1) then (s.left, ((ss.length - (n + 1) : Nat) : Int)) else leftD ss n := by
  simp only [leftD, hs]

def RelLD (w0 : World) (ss : List CS) (k : Nat) (a b i : Value) (wr : World) : Prop :=
  ∃ q : Nat, i = I ((ss.length : Int) - 1 - (q : Nat)) ∧ q ≤ ss.length ∧ k = ss.length - q ∧ a = L (leftD ss q).1 ∧ b = I (leftD ss q).2 ∧ Below w0.heap.size w0 wr

section
variable {w w' : World} {g cap : Nat} {ss : List CS}

set_option maxHeartbeats 2000000 in
theorem rleft_any (h : RL w g ss) :
    Calls Try.prog 52 #[.slice (some ⟨g, 0, none⟩) ss.length cap] w fun e w' => e = .returned (.tuple #[L (leftD ss ss.length).1, I (leftD ss ss.length).2]) ∧ Below w.heap.size w w' := by
  have hi := h.hi
  have hlo := h.lo
  have HH := Lib.hid h
  clear h
  go_enter Try.func52, Try.ntmps52
  go_wp2_with fail
  go_loopg [4, 5, 6] ss.length (fun k a b i wr => RelLD w ss k a b i wr)
  case atStart => exact ⟨0, by first | rfl | (simp; done) | (simp; omega), by omega, rfl, rfl, rfl, Below.refl _ _⟩
  case round =>
    obtain ⟨q, rfl, hq, hk, rfl, rfl, hb⟩ := hrel
    have HK := Lib.hid hk
    clear hk
    by_cases hlt : q < ss.length
    · obtain ⟨j, hj⟩ : ∃ j : Nat, ss.length - (q + 1) = j := ⟨_, rfl⟩
      have hjl : j < ss.length := by omega
      have ej : (ss.length : Int) - 1 - (q : Nat) = (j : Int) := by omega
      rw [ej]
      have e2 : ss[j]? = some (ss[j]'hjl) := List.getElem?_eq_getElem hjl
      have hs := leftD_succ (n := q) (by rw [hj]; exact e2)
      rw [hj] at hs
      have hR := HH.out.below hb HH.out.lt
      have ok := hR.ok j _ e2
      generalize ss[j]'hjl = s at *
      have HR := Lib.hid hR
      have HB := Lib.hid hb
      have HE2 := Lib.hid e2
      have HEJ := Lib.hid ej
      have c0 : wr.cell? ⟨g, j * 8, none⟩ = some (U s.load) := hR.at_ j s e2 0 _ rfl
      have c1 := hR.at_ j s e2 1 _ rfl; have c2 := hR.at_ j s e2 2 _ rfl; have c3 := hR.at_ j s e2 3 _ rfl
      have c4 := hR.at_ j s e2 4 _ rfl; have c5 := hR.at_ j s e2 5 _ rfl; have c6 := hR.at_ j s e2 6 _ rfl; have c7 := hR.at_ j s e2 7 _ rfl
      obtain ⟨l, hl⟩ : ∃ l, Hid (s.left = l) := ⟨_, Lib.hid rfl⟩
      rw [hl.out] at hs
      generalize hA : leftD ss q = acc at *
      obtain ⟨a, b⟩ := acc
      try dsimp only at hs
      have HS := Lib.hid hs
      have nn0 : (0 : Int) ≤ (j : Int) := by omega
      have nn1 : (j : Int) < (ss.length : Int) := by omega
      obtain ⟨ld, v, en, re, ir, sc, ph, st⟩ := s
      have OK := Lib.hid ok
      try dsimp only at c0 c1 c2 c3 c4 c5 c6 c7
      clear hR hb e2 ej hs hA ok hj
      cases en
      · have hs2 : Hid (leftD ss (q + 1) = (a, b)) := Lib.hid HS.out
        go_wp2_with fail
        go_roundg (ss.length - (q + 1))
        case measure => have := HK.out; omega
        case rel => exact ⟨q + 1, by have := HEJ.out; first | (congr 1; omega) | (show Value.int .i64 _ = Value.int .i64 _; congr 1; omega), by omega, rfl, by rw [hs2.out], by rw [hs2.out], HB.out⟩
      · by_cases hle : l ≤ a
        · have d1 : decide (l ≤ a) = true := by simpa using hle
          have hs2 : Hid (leftD ss (q + 1) = (l, (j : Int))) := Lib.hid (by rw [HS.out, d1]; rfl)
          clear hle
          go_wp2_with ((go_at_call 41; fail))
          clear c0 c1 c2 c3 c4 c5 c6 c7
          refine (left_of ⟨ld, v, true, re, ir, sc, ph, st⟩ OK.out _ hl _).mono ?_
          rintro e w3 ⟨rfl, hb3⟩
          have R3 := HR.out.below hb3 HR.out.lt
          have HB3 := Lib.hid (HB.out.trans (hb3.mono HB.out.size))
          have k0 : w3.cell? ⟨g, j * 8, none⟩ = some (U ld) := R3.at_ j _ HE2.out 0 _ rfl
          have k1 := R3.at_ j _ HE2.out 1 _ rfl; have k2 := R3.at_ j _ HE2.out 2 _ rfl; have k3 := R3.at_ j _ HE2.out 3 _ rfl
          have k4 := R3.at_ j _ HE2.out 4 _ rfl; have k5 := R3.at_ j _ HE2.out 5 _ rfl; have k6 := R3.at_ j _ HE2.out 6 _ rfl; have k7 := R3.at_ j _ HE2.out 7 _ rfl
          try dsimp only at k1 k2 k3 k4 k5 k6 k7
          clear hb3 R3
          go_wp2_with ((go_at_call 41; fail))
          refine (left_of ⟨ld, v, true, re, ir, sc, ph, st⟩ OK.out _ hl _).mono ?_
          rintro e w4 ⟨rfl, hb4⟩
          have HB4 := Lib.hid (HB3.out.trans (hb4.mono HB3.out.size))
          clear hb4 k0 k1 k2 k3 k4 k5 k6 k7
          go_wp2_with fail
          go_roundg (ss.length - (q + 1))
          case measure => have := HK.out; omega
          case rel => exact ⟨q + 1, by have := HEJ.out; first | (congr 1; omega) | (show Value.int .i64 _ = Value.int .i64 _; congr 1; omega), by omega, rfl, by rw [hs2.out], by rw [hs2.out], HB4.out⟩
        · have d1 : decide (l ≤ a) = false := by simpa using hle
          have hs2 : Hid (leftD ss (q + 1) = (a, b)) := Lib.hid (by rw [HS.out, d1]; rfl)
          clear hle
          go_wp2_with ((go_at_call 41; fail))
          clear c0 c1 c2 c3 c4 c5 c6 c7
          refine (left_of ⟨ld, v, true, re, ir, sc, ph, st⟩ OK.out _ hl _).mono ?_
          rintro e w3 ⟨rfl, hb3⟩
          have HB3 := Lib.hid (HB.out.trans (hb3.mono HB.out.size))
          clear hb3
          go_wp2_with fail
          go_roundg (ss.length - (q + 1))
          case measure => have := HK.out; omega
          case rel => exact ⟨q + 1, by have := HEJ.out; first | (congr 1; omega) | (show Value.int .i64 _ = Value.int .i64 _; congr 1; omega), by omega, rfl, by rw [hs2.out], by rw [hs2.out], HB3.out⟩
    · have hqe : q = ss.length := by omega
      have ej : (ss.length : Int) - 1 - (q : Nat) = -1 := by omega
      rw [ej, hqe]
      have HB := Lib.hid hb
      clear hb hqe hlt hq ej
      go_wp2
      go_ret2
      exact ⟨rfl, HB.out⟩
end
end Go.Proofs.Ytfjkfigjenalgaa
