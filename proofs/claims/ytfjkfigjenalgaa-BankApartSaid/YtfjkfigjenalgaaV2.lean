/- A bank of timers: reset, the next expiry, a timer's copy; the nil bank. No conditions beyond those that each statement shows. -/
import Derived.Test.YtfjkfigjenalgaaV1
namespace Go.Proofs.Ytfjkfigjenalgaa
open Go.RowKit
set_option linter.unusedVariables false
set_option linter.unusedSimpArgs false

section
variable {w w' : World} {bb ab cap : Nat} {cs : List Nat} {ss : List CS}

set_option maxHeartbeats 1000000 in
theorem breset_any (h : BK w bb ab cap cs ss) :
    Calls Try.prog 34 #[.pointer (some ⟨bb, 0, none⟩)] w fun e w' => e = .returned (.tuple #[]) ∧ BK w' bb ab cap cs (ss.map fun _ => CS.zero) ∧ Kept w w' cs := by
  have HA := Lib.hid (all_any h)
  have HH := Lib.hid h
  have hi := h.hi
  clear h
  go_enter Try.func34, Try.ntmps34
  go_wp2_with (go_at_call 54; refine HA.out.mono ?_; rintro e w2 ⟨rfl, rfl⟩)
  go_loopg [7] ss.length (fun k i wr => RelW w bb ab cap cs ss (fun _ => CS.zero) k i wr)
  case atStart => exact ⟨0, rfl, by omega, rfl, by simpa using HH.out, Kept.of_below (Below.refl _ _)⟩
  case round =>
    obtain ⟨q, rfl, hq, hk, hB, hK⟩ := hrel
    by_cases hlt : q < ss.length
    · have hd : decide ((q : Int) < (ss.length : Int)) = true := by simp; omega
      obtain ⟨c, s, e1, e2, hm, hc, ok, hcell⟩ := hB.nth (k := q) (by simp; omega)
      rw [nth_map] at e2
      have HK := Lib.hid hk
      have E1 := Lib.hid e1
      have E2 := Lib.hid e2
      have HB := Lib.hid hB
      have HKp := Lib.hid hK
      have HM := Lib.hid hm
      clear hk e1 e2 hB hK hm
      have nn0 : (0 : Int) ≤ (q : Int) := by omega
      have nn1 : (q : Int) < (ss.length : Int) := by omega
      go_wp2_with ((go_at_call 22; fail))
      refine (reset_any hc).mono ?_
      rintro e w3 ⟨rfl, T⟩
      have hB3 := HB.out.set E1.out T CS.zero_ok
      have hK3 := HKp.out.trans (Kept.of_stored T HM.out)
      rw [step_map ss (fun _ => CS.zero) q s E2.out] at hB3
      have HB3 := Lib.hid hB3
      clear hB3 T hc hcell
      go_wp2_with fail
      go_roundg (ss.length - (q + 1))
      case measure => have := HK.out; omega
      case rel => exact ⟨q + 1, by go_num, by omega, rfl, HB3.out, hK3⟩
    · have hqe : q = ss.length := by omega
      have hd : decide ((q : Int) < (ss.length : Int)) = false := by simp; omega
      have hB2 : BK wr bb ab cap cs (ss.map fun _ => CS.zero) := by
        have := hB
        rw [hqe, List.take_length, List.drop_length, List.append_nil] at this
        exact this
      have HB2 := Lib.hid hB2
      clear hB hB2 hk hqe
      go_wp2
      first
        | exact bodyPost_ret (v := .tuple #[]) (by simp [results, go_sem]) rfl ⟨rfl, HB2.out, hK⟩
        | (go_end0; exact ⟨rfl, HB2.out, hK⟩)

/-- The next expiry among the first k timers, and whose it is. -/
def leftN (ss : List CS) : Nat → Int × Int
  | 0 => (18446744073709551615, -1)
  | k + 1 => match ss[k]? with
    | some s => if s.en && (decide ((leftN ss k).2 < 0) || decide (s.left < (leftN ss k).1)) then (s.left, (k : Int)) else leftN ss k
    | none => leftN ss k

theorem leftN_succ {ss : List CS} {k : Nat} {s : CS} (hs : ss[k]? = some s) : leftN ss (k + 1) = if s.en && (decide ((leftN ss k).2 < 0) || decide (s.left < (leftN ss k).1)) then (s.left, (k : Int)) else leftN ss k := by
  simp only [leftN, hs]

def RelF (w0 : World) (ss : List CS) (k : Nat) (a b i : Value) (wr : World) : Prop :=
  ∃ n : Nat, i = I (n : Nat) ∧ n ≤ ss.length ∧ k = ss.length - n ∧ a = L (leftN ss n).1 ∧ b = I (leftN ss n).2 ∧ Below w0.heap.size w0 wr

set_option maxHeartbeats 2000000 in
theorem bleft_any (h : BK w bb ab cap cs ss) :
    Calls Try.prog 29 #[.pointer (some ⟨bb, 0, none⟩)] w fun e w' => e = .returned (.tuple #[L (leftN ss ss.length).1, I (leftN ss ss.length).2]) ∧ Below w.heap.size w w' := by
  have HA := Lib.hid (all_any h)
  have HH := Lib.hid h
  have hi := h.hi
  clear h
  go_enter Try.func29, Try.ntmps29
  go_wp2_with (go_at_call 54; refine HA.out.mono ?_; rintro e w2 ⟨rfl, rfl⟩)
  go_loopg [4, 5, 12] ss.length (fun k a b i wr => RelF w ss k a b i wr)
  case atStart => exact ⟨0, rfl, by omega, rfl, rfl, rfl, Below.refl _ _⟩
  case round =>
    obtain ⟨q, rfl, hq, hk, rfl, rfl, hb⟩ := hrel
    have HK := Lib.hid hk
    clear hk
    by_cases hlt : q < ss.length
    · have hd : decide ((q : Int) < (ss.length : Int)) = true := by simp; omega
      obtain ⟨c, s, e1, e2, hm, hc, ok, hcell⟩ := (HH.out.below hb).nth (k := q) hlt
      have hs := leftN_succ e2
      have hlp := CS.left_pos s ok
      generalize hA : leftN ss q = acc at *
      obtain ⟨a, b⟩ := acc
      have HS := Lib.hid hs
      have HAA := Lib.hid hA
      clear e1 e2 hm hs hA
      have nn0 : (0 : Int) ≤ (q : Int) := by omega
      have nn1 : (q : Int) < (ss.length : Int) := by omega
      have Hc := Lib.hid hc
      have Hb := Lib.hid hb
      clear hc hb
      dsimp only at HS
      go_wp2_with ((go_at_call 19; fail))
      refine (left_any ok Hc.out).mono ?_
      rintro e w3 ⟨rfl, hb3⟩
      have H3 := Hc.out.below hb3 Hc.out.lt
      have B3 := Lib.hid (Hb.out.trans (hb3.mono Hb.out.size))
      clear hb3 hcell
      go_wp2_with ((go_at_call 21; fail))
      refine (runs_any ok H3).mono ?_
      rintro e w4 ⟨rfl, hb4⟩
      have B4 := Lib.hid (B3.out.trans (hb4.mono B3.out.size))
      clear hb4 H3 hlp
      generalize hL : s.left = l at *
      cases hen : s.en
      · rw [hen] at HS
        have hs2 : leftN ss (q + 1) = (a, b) := by rw [HS.out]; rfl
        have HS2 := Lib.hid hs2
        clear hs2 hen hL
        go_wp2_with fail
        go_roundg (ss.length - (q + 1))
        case measure => have := HK.out; omega
        case rel => exact ⟨q + 1, by go_num, by omega, rfl, by rw [HS2.out], by rw [HS2.out], B4.out⟩
      · rw [hen] at HS
        by_cases hbn : b < 0
        · have d1 : decide (b < 0) = true := by simpa using hbn
          have hs2 : leftN ss (q + 1) = (l, (q : Int)) := by rw [HS.out, d1]; rfl
          have HS2 := Lib.hid hs2
          clear hs2 hen hL hbn
          go_wp2_with fail
          go_roundg (ss.length - (q + 1))
          case measure => have := HK.out; omega
          case rel => exact ⟨q + 1, by go_num, by omega, rfl, by rw [HS2.out], by rw [HS2.out], B4.out⟩
        · have d1 : decide (b < 0) = false := by simpa using hbn
          by_cases hll : l < a
          · have d2 : decide (l < a) = true := by simpa using hll
            have hs2 : leftN ss (q + 1) = (l, (q : Int)) := by rw [HS.out, d1, d2]; rfl
            have HS2 := Lib.hid hs2
            clear hs2 hen hL hbn hll
            go_wp2_with fail
            go_roundg (ss.length - (q + 1))
            case measure => have := HK.out; omega
            case rel => exact ⟨q + 1, by go_num, by omega, rfl, by rw [HS2.out], by rw [HS2.out], B4.out⟩
          · have d2 : decide (l < a) = false := by simpa using hll
            have hs2 : leftN ss (q + 1) = (a, b) := by rw [HS.out, d1, d2]; rfl
            have HS2 := Lib.hid hs2
            clear hs2 hen hL hbn hll
            go_wp2_with fail
            go_roundg (ss.length - (q + 1))
            case measure => have := HK.out; omega
            case rel => exact ⟨q + 1, by go_num, by omega, rfl, by rw [HS2.out], by rw [HS2.out], B4.out⟩
    · have hqe : q = ss.length := by omega
      have hd : decide ((q : Int) < (ss.length : Int)) = false := by simp; omega
      rw [hqe]
      rw [hqe] at hd
      have Hb := Lib.hid hb
      clear hb hqe hlt hq
      go_wp2
      go_ret2
      exact ⟨rfl, Hb.out⟩
end
end Go.Proofs.Ytfjkfigjenalgaa
