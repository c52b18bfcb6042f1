/- The law BankPlays: the walk. Its conditions: those that its statement shows. -/
import Derived.Test.YtfjkfigjenalgaaX9
import Derived.Test.YtfjkfigjenalgaaV6
import Derived.Test.YtfjkfigjenalgaaT0
namespace Go.Proofs.Ytfjkfigjenalgaa
open Go.RowKit
set_option linter.unusedVariables false
set_option linter.unusedSimpArgs false

theorem bnew_bad (n : Int) (h : n < 1 ∨ 8 < n) (w : World) : Calls Try.prog 24 #[I n] w fun e w' => e = .returned (.tuple #[.pointer none, I 5]) ∧ w = w' := by
  by_cases h1 : n < 1
  · have d1 : decide (n < 1) = true := by simpa using h1
    go_enter Try.func24, Try.ntmps24
    go_wp2
    go_ret2
    exact ⟨rfl, rfl⟩
  · have d1 : decide (n < 1) = false := by simpa using h1
    have d2 : decide (8 < n) = true := by simp; omega
    go_enter Try.func24, Try.ntmps24
    go_wp2
    go_ret2
    exact ⟨rfl, rfl⟩

section
variable {B : Nat} {w w' : World} {bb ab cap g gc m : Nat} {cs : List Nat} {ss : List CS}
theorem bdo_m (h : BS B w bb ab cap g cs ss) (hm : ss.length = m) (k n off v : Int) (n0 : 0 ≤ n) (n1 : n ≤ 18446744073709551615) (o0 : 0 ≤ off) (o1 : off ≤ 4294967295) (v0 : 0 ≤ v) (v1 : v ≤ 4294967295) :
    Calls Try.prog 26 #[.pointer (some ⟨bb, 0, none⟩), .slice (some ⟨g, 0, none⟩) m gc, .agg #[I k, L n, U off, U v]] w (DoQ B w m (doBB ss k n off v)) := by
  subst hm; exact bdo_any h k n off v n0 n1 o0 o1 v0 v1
theorem balike_m (h : BS B w bb ab cap g cs ss) (hm : ss.length = m) :
    Calls Try.prog 27 #[.pointer (some ⟨bb, 0, none⟩), .slice (some ⟨g, 0, none⟩) m gc] w fun e w' => e = .returned (.bool true) ∧ Below w.heap.size w w' := by
  subst hm; exact balike_any h.bk h.rl

/-- The bank and the document's timers at the start. -/
theorem BS.start {w0 : World} (h : BK w bb ab cap cs (List.replicate m CS.zero)) (h1 : 1 ≤ m) (h8 : m ≤ 8) (hlo : ∀ c ∈ cs, w0.heap.size ≤ c) (hb : Below w0.heap.size w0 w) :
    BS w0.heap.size (w.alloc (.cells (madeCells zcells (m * 8)) 27)) bb ab cap w.heap.size cs (List.replicate m CS.zero) := by
  have b1 := (Below.refl w.heap.size w).alloc (Nat.le_refl _) (.cells (madeCells zcells (m * 8)) 27)
  exact ⟨h.below b1, RL.made w m h1 h8, fun hm => by have := h.lt _ hm; omega, hlo, Nat.le_trans hb.size b1.size⟩
end

/-- What holds ahead of each round. -/
def BPRel (w : World) (m len N : Nat) (k : Nat) (c l i : Value) (wr : World) : Prop :=
  ∃ bb ab cap g gc cs ss q, c = .pointer (some ⟨bb, 0, none⟩) ∧ l = .slice (some ⟨g, 0, none⟩) m gc ∧ i = I (q : Nat) ∧ q ≤ N ∧ q ≤ len ∧ k = N - q ∧ ss.length = m ∧ BS w.heap.size wr bb ab cap g cs ss ∧ Below w.heap.size w wr

set_option maxRecDepth 100000 in
set_option maxHeartbeats 2000000 in
theorem bplays_in (w : World) (m : Nat) (m1 : 1 ≤ m) (m8 : m ≤ 8) (A : Option Addr) (len cap : Nat) (hlen : len ≤ maxLen) (ha : Acts w A len) :
    Calls Try.prog 7 #[I (m : Nat), .slice A len cap] w fun e w' => e = .returned (.bool true) ∧ Below w.heap.size w w' := by
  unfold maxLen at hlen
  have HA := Lib.hid ha; clear ha
  have d1 : decide ((m : Int) < 1) = false := by simp; omega
  have d2 : decide (8 < (m : Int)) = false := by simp; omega
  have hmk := make27 m m8
  go_enter Try.func7, Try.ntmps7
  go_wp2_with ((go_at_call 24; fail))
  refine (bnew_any m m1 m8 w).mono ?_
  rintro e w1 ⟨bb, ab, cs, rfl, K1, hbb, hlo, b1⟩
  have hlt := K1.lt
  have HS := Lib.hid (BS.start (w0 := w) K1 m1 m8 hlo b1)
  have HB := Lib.hid (b1.alloc b1.size (.cells (madeCells zcells (m * 8)) 27))
  clear K1 hbb hlo b1 hlt
  go_wp2_with fail
  generalize hW : w1.alloc (.cells (madeCells zcells (m * 8)) 27) = w2 at *
  clear hW
  go_loopg [5, 7, 8] 60 (fun k c l i wr => BPRel w m len 60 k c l i wr)
  case atStart => exact ⟨_, _, _, _, _, _, _, 0, rfl, rfl, rfl, by omega, by omega, rfl, by simp, HS.out, HB.out⟩
  case round =>
    obtain ⟨bb, ab, cap, g, gc, cs, ss, q, rfl, rfl, rfl, hq, hql, hk, hm, hs, hb⟩ := hrel
    clear HS HB
    have HS := Lib.hid hs
    have HB := Lib.hid hb
    have HK := Lib.hid hk
    have HM := Lib.hid hm
    clear hs hk hm
    by_cases hlt : q < len
    · by_cases h60 : q < 60
      · have hd1 : decide ((q : Int) < (len : Int)) = true := by simp; omega
        have hd2 : decide ((q : Int) < 60) = true := by simp; omega
        obtain ⟨sb, so, ak, an, ao, av, hA, hat⟩ := HA.out q hlt
        subst hA
        have hat' := hat.below hb
        obtain ⟨⟨n0, n1, o0, o1, v0, v1⟩, _⟩ := hat
        obtain ⟨_, a0, a1, a2, a3⟩ := hat'
        have b0 : (0 : Int) ≤ (q : Int) := by omega
        have b1 : (q : Int) < (len : Int) := by omega
        clear hb
        go_wp2_with ((go_at_call 26; fail))
        refine (bdo_m HS.out HM.out ak an ao av n0 n1 o0 o1 v0 v1).mono ?_
        rintro e w3 ⟨bb', ab', cap', g', gc', cs', rfl, S3, b3⟩
        have HS3 := Lib.hid S3
        have HB3 := Lib.hid (HB.out.trans b3)
        have HM3 := Lib.hid ((doBB_len ss ak an ao av).trans HM.out)
        generalize doBB ss ak an ao av = ss' at *
        clear S3 b3 a0 a1 a2 a3
        go_wp2_with ((go_at_call 27; fail))
        refine (balike_m HS3.out HM3.out).mono ?_
        rintro e w4 ⟨rfl, b4⟩
        have HS4 := Lib.hid (HS3.out.below b4)
        have HB4 := Lib.hid (HB3.out.trans (b4.mono HS3.out.sz))
        clear b4
        go_wp2_with fail
        go_roundg (60 - (q + 1))
        case measure => have := HK.out; omega
        case rel => exact ⟨bb', ab', cap', g', gc', cs', ss', q + 1, rfl, rfl, by go_num, by omega, by omega, rfl, HM3.out, HS4.out, HB4.out⟩
      · have hd1 : decide ((q : Int) < (len : Int)) = true := by simp; omega
        have hd2 : decide ((q : Int) < 60) = false := by simp; omega
        clear hb
        go_wp2_with (go_at_call 25; refine (known_bank _).mono ?_; rintro e w4 ⟨rfl, hb4⟩)
        go_ret
        exact ⟨rfl, HB.out.trans (hb4.mono HB.out.size)⟩
    · have hd1 : decide ((q : Int) < (len : Int)) = false := by simp; omega
      clear hb
      go_wp2_with (go_at_call 25; refine (known_bank _).mono ?_; rintro e w4 ⟨rfl, hb4⟩)
      go_ret
      exact ⟨rfl, HB.out.trans (hb4.mono HB.out.size)⟩

theorem bplays_out (w : World) (n : Int) (h : n < 1 ∨ 8 < n) (A : Option Addr) (len cap : Nat) :
    Calls Try.prog 7 #[I n, .slice A len cap] w fun e w' => e = .returned (.bool true) ∧ Below w.heap.size w w' := by
  have HN := Lib.hid (bnew_bad n h)
  by_cases h1 : n < 1
  · have d1 : decide (n < 1) = true := by simpa using h1
    clear h h1
    go_enter Try.func7, Try.ntmps7
    go_wp2_with ((go_at_call 24; fail))
    refine (HN.out w).mono ?_
    rintro e w1 ⟨rfl, rfl⟩
    go_wp2_with (go_at_call 25; refine (known_bank _).mono ?_; rintro e w4 ⟨rfl, hb4⟩)
    go_ret
    exact ⟨rfl, hb4⟩
  · have d1 : decide (n < 1) = false := by simpa using h1
    have d2 : decide (8 < n) = true := by simp; omega
    clear h h1
    go_enter Try.func7, Try.ntmps7
    go_wp2_with ((go_at_call 24; fail))
    refine (HN.out w).mono ?_
    rintro e w1 ⟨rfl, rfl⟩
    go_wp2_with (go_at_call 25; refine (known_bank _).mono ?_; rintro e w4 ⟨rfl, hb4⟩)
    go_ret
    exact ⟨rfl, hb4⟩

theorem bplays_walk (w : World) (n : Int) (A : Option Addr) (len cap : Nat) (hlen : len ≤ maxLen) (ha : Acts w A len) :
    Calls Try.prog 7 #[I n, .slice A len cap] w fun e w' => e = .returned (.bool true) ∧ Below w.heap.size w w' := by
  by_cases h : n < 1 ∨ 8 < n
  · exact bplays_out w n h A len cap
  · obtain ⟨m, rfl⟩ : ∃ m : Nat, n = (m : Int) := ⟨n.toNat, by omega⟩
    exact bplays_in w m (by omega) (by omega) A len cap hlen ha

theorem bplays_row (w : World) (n : Int) (A : Option Addr) (len cap : Nat) (_hn : (Lit.int .i64 n).wf = true) (hlen : len ≤ maxLen) (ha : Acts w A len) :
    Calls Try.prog 7 #[I n, .slice A len cap] w fun e w' => e = .returned (.bool true) ∧ Below w.heap.size w w' := bplays_walk w n A len cap hlen ha
end Go.Proofs.Ytfjkfigjenalgaa
