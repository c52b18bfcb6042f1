/- A bank of timers in memory. No conditions beyond those that each statement shows. -/
import Derived.Test.YtfjkfigjenalgaaQ7
import Derived.Test.YtfjkfigjenalgaaS1
namespace Go.Proofs.Ytfjkfigjenalgaa
open Go.RowKit
set_option linter.unusedVariables false
set_option linter.unusedSimpArgs false

abbrev PT (c : Nat) : Value := .pointer (some ⟨c, 0, none⟩)

/-- Block bb is a bank of the timers cs, whose states are ss. -/
structure BK (w : World) (bb ab cap : Nat) (cs : List Nat) (ss : List CS) : Prop where
  len : cs.length = ss.length
  lo : 1 ≤ ss.length
  hi : ss.length ≤ 8
  box : Blk w bb #[.slice (some ⟨ab, 0, none⟩) ss.length cap] 81
  arr : ∃ cur : Array Value, Blk w ab cur 23 ∧ ∀ (i c : Nat), cs[i]? = some c → cur[i]? = some (PT c)
  tm : ∀ (i c : Nat) (s : CS), cs[i]? = some c → ss[i]? = some s → HC w c s ∧ s.Ok
  nd : cs.Nodup
  nb : bb ∉ cs
  na : ab ∉ cs
  ne : ab ≠ bb

/-- Nothing else has changed. -/
structure Kept (w w' : World) (cs : List Nat) : Prop where
  os : w'.os = w.os
  tape : w'.tape = w.tape
  output : w'.output = w.output
  size : w.heap.size ≤ w'.heap.size
  other : ∀ k, k < w.heap.size → k ∉ cs → w'.heap[k]? = w.heap[k]?

theorem Kept.of_stored {w w' : World} {c : Nat} {s : CS} {cs : List Nat} (h : Stored w w' c s) (hc : c ∈ cs) : Kept w w' cs :=
  ⟨h.os, h.tape, h.output, h.size, fun k hk hn => h.other k hk (fun e => hn (e ▸ hc))⟩
theorem Kept.of_below {w w' : World} {cs : List Nat} (h : Below w.heap.size w w') : Kept w w' cs := ⟨h.os, h.tape, h.output, h.size, fun k hk _ => h.block k hk⟩
theorem Kept.trans {w w1 w2 : World} {cs : List Nat} (h : Kept w w1 cs) (h2 : Kept w1 w2 cs) : Kept w w2 cs :=
  ⟨h2.os.trans h.os, h2.tape.trans h.tape, h2.output.trans h.output, Nat.le_trans h.size h2.size, fun k hk hn => (h2.other k (Nat.lt_of_lt_of_le hk h.size) hn).trans (h.other k hk hn)⟩
theorem Kept.below_ {w w' : World} {cs : List Nat} {B : Nat} (h : Kept w w' cs) (hc : ∀ c ∈ cs, B ≤ c) (hs : B ≤ w.heap.size) : Below B w w' :=
  ⟨h.os, h.tape, h.output, h.size, fun k hk => h.other k (by omega) (fun hm => by have := hc k hm; omega)⟩
theorem Kept.blk {w w' : World} {cs : List Nat} {g : Nat} {vs : Array Value} {T : TypeId} (h : Kept w w' cs) (hg : Blk w g vs T) (hn : g ∉ cs) : Blk w' g vs T := (h.other g hg.lt hn).trans hg

section
variable {w w' : World} {bb ab cap : Nat} {cs : List Nat} {ss : List CS}

theorem BK.below (h : BK w bb ab cap cs ss) (hb : Below w.heap.size w w') : BK w' bb ab cap cs ss := by
  obtain ⟨cur, h1, h2⟩ := h.arr
  exact ⟨h.len, h.lo, h.hi, h.box.below hb h.box.lt, ⟨cur, h1.below hb h1.lt, h2⟩, fun i c s hc hs => ⟨(h.tm i c s hc hs).1.below hb (h.tm i c s hc hs).1.lt, (h.tm i c s hc hs).2⟩, h.nd, h.nb, h.na, h.ne⟩

/-- Behind a call that writes to one timer. -/
theorem BK.set (h : BK w bb ab cap cs ss) {i c : Nat} {s' : CS} (hc : cs[i]? = some c) (T : Stored w w' c s') (ok : s'.Ok) : BK w' bb ab cap cs (ss.set i s') := by
  have hm : c ∈ cs := List.mem_of_getElem? hc
  obtain ⟨cur, h1, h2⟩ := h.arr
  refine ⟨by simpa using h.len, by simpa using h.lo, by simpa using h.hi, ?_, ⟨cur, ?_, h2⟩, fun j d s hd hs => ?_, h.nd, h.nb, h.na, h.ne⟩
  · rw [List.length_set]; exact Blk.stored h.box T (fun e => h.nb (e ▸ hm))
  · exact Blk.stored h1 T (fun e => h.na (e ▸ hm))
  · by_cases hij : i = j
    · subst hij
      rw [hc] at hd
      cases hd
      have hlt : i < ss.length := by rw [← h.len]; exact (List.getElem?_eq_some_iff.1 hc).1
      rw [List.getElem?_set_self hlt] at hs
      cases hs
      exact ⟨T.hc, ok⟩
    · rw [List.getElem?_set_ne hij] at hs
      obtain ⟨g1, g2⟩ := h.tm j d s hd hs
      refine ⟨Blk.stored g1 T ?_, g2⟩
      rintro rfl
      have a1 := List.getElem?_eq_some_iff.1 hc
      have a2 := List.getElem?_eq_some_iff.1 hd
      obtain ⟨l1, e1⟩ := a1
      obtain ⟨l2, e2⟩ := a2
      have hp := List.pairwise_iff_getElem.1 h.nd
      rcases Nat.lt_or_gt_of_ne hij with hl | hl
      · exact hp i j l1 l2 hl (e1.trans e2.symm)
      · exact hp j i l2 l1 hl (e2.trans e1.symm)

/-- A timer of the bank. -/
theorem BK.nth (h : BK w bb ab cap cs ss) {k : Nat} (hk : k < ss.length) : ∃ c s, cs[k]? = some c ∧ ss[k]? = some s ∧ c ∈ cs ∧ HC w c s ∧ s.Ok ∧ w.cell? ⟨ab, k, none⟩ = some (PT c) := by
  have hk' : k < cs.length := by rw [h.len]; exact hk
  obtain ⟨cur, h1, h2⟩ := h.arr
  have e1 : cs[k]? = some cs[k] := List.getElem?_eq_getElem hk'
  have e2 : ss[k]? = some ss[k] := List.getElem?_eq_getElem hk
  have t := h.tm k _ _ e1 e2
  exact ⟨_, _, e1, e2, List.mem_of_getElem? e1, t.1, t.2, h1.cell k (h2 k _ e1)⟩

theorem all_any (h : BK w bb ab cap cs ss) : Calls Try.prog 54 #[.pointer (some ⟨bb, 0, none⟩)] w fun e w' => e = .returned (.slice (some ⟨ab, 0, none⟩) ss.length cap) ∧ w = w' := by
  have c0 := h.box.cell 0 rfl
  go_enter Try.func54, Try.ntmps54
  go_wp2
  go_ret
  exact ⟨rfl, rfl⟩
theorem all_nil (w : World) : Calls Try.prog 54 #[.pointer none] w fun e w' => e = .returned (.slice none 0 0) ∧ w = w' := by
  go_enter Try.func54, Try.ntmps54
  go_wp2
  go_ret
  exact ⟨rfl, rfl⟩
theorem len_any (h : BK w bb ab cap cs ss) : Calls Try.prog 35 #[.pointer (some ⟨bb, 0, none⟩)] w fun e w' => e = .returned (I ss.length) ∧ w = w' := by
  have HA := Lib.hid (all_any h)
  clear h
  go_enter Try.func35, Try.ntmps35
  go_wp2_with (go_at_call 54; refine HA.out.mono ?_; rintro e w2 ⟨rfl, rfl⟩)
  go_ret
  exact ⟨rfl, rfl⟩
theorem len_nil (w : World) : Calls Try.prog 35 #[.pointer none] w fun e w' => e = .returned (I 0) ∧ w = w' := by
  go_enter Try.func35, Try.ntmps35
  go_wp2_with (go_at_call 54; refine (all_nil _).mono ?_; rintro e w2 ⟨rfl, rfl⟩)
  go_ret
  exact ⟨rfl, rfl⟩

/-- What holds ahead of each timer of a loop that writes. -/
def RelW (w0 : World) (bb ab cap : Nat) (cs : List Nat) (ss : List CS) (f : CS → CS) (k : Nat) (i : Value) (wr : World) : Prop :=
  ∃ n : Nat, i = I (n : Nat) ∧ n ≤ ss.length ∧ k = ss.length - n ∧ BK wr bb ab cap cs ((ss.take n).map f ++ ss.drop n) ∧ Kept w0 wr cs

theorem step_map (ss : List CS) (f : CS → CS) (n : Nat) (s : CS) (hs : ss[n]? = some s) : ((ss.take n).map f ++ ss.drop n).set n (f s) = (ss.take (n + 1)).map f ++ ss.drop (n + 1) := by
  obtain ⟨hl, he⟩ := List.getElem?_eq_some_iff.1 hs
  apply List.ext_getElem?
  intro j
  by_cases hj : n = j
  · subst hj
    rw [List.getElem?_set_self (by simp; omega)]
    rw [List.getElem?_append_left (by simp; omega)]
    simp [List.getElem?_take, hs]
  · rw [List.getElem?_set_ne hj]
    by_cases hlt : j < n
    · rw [List.getElem?_append_left (by simp; omega), List.getElem?_append_left (by simp; omega)]
      simp [List.getElem?_take, hlt, show j < n + 1 by omega]
    · rw [List.getElem?_append_right (by simp; omega), List.getElem?_append_right (by simp; omega)]
      simp only [List.length_map, List.length_take, List.getElem?_drop]
      congr 1
      omega
theorem nth_map (ss : List CS) (f : CS → CS) (n : Nat) : ((ss.take n).map f ++ ss.drop n)[n]? = ss[n]? := by
  by_cases hn : n ≤ ss.length
  · rw [List.getElem?_append_right (by simp; omega)]
    simp [List.getElem?_drop, Nat.min_eq_left hn]
  · rw [List.getElem?_eq_none (by simp; omega), List.getElem?_eq_none (by omega)]

set_option maxHeartbeats 1000000 in
theorem btick_any (h : BK w bb ab cap cs ss) (n : Int) (n0 : 0 ≤ n) (n1 : n ≤ 18446744073709551615) :
    Calls Try.prog 31 #[.pointer (some ⟨bb, 0, none⟩), L n] w fun e w' => e = .returned (.tuple #[]) ∧ BK w' bb ab cap cs (ss.map fun s => s.tick n) ∧ Kept w w' cs := by
  have HA := Lib.hid (all_any h)
  have HH := Lib.hid h
  have hi := h.hi
  clear h
  go_enter Try.func31, Try.ntmps31
  go_wp2_with (go_at_call 54; refine HA.out.mono ?_; rintro e w2 ⟨rfl, rfl⟩)
  go_loopg [9] ss.length (fun k i wr => RelW w bb ab cap cs ss (fun s => s.tick n) k i wr)
  case atStart => exact ⟨0, rfl, by omega, rfl, by simpa using HH.out, Kept.of_below (Below.refl _ _)⟩
  case round =>
    obtain ⟨q, rfl, hq, hk, hB, hK⟩ := hrel
    by_cases hlt : q < ss.length
    · have hd : decide ((q : Int) < (ss.length : Int)) = true := by simp; omega
      obtain ⟨c, s, e1, e2, hm, hc, ok, hcell⟩ := hB.nth (k := q) (by simp; omega)
      rw [nth_map] at e2
      have HK := Lib.hid hk
      have E1 := Lib.hid e1
      have E2 := Lib.hid e2
      have HB := Lib.hid hB
      have HKp := Lib.hid hK
      have HM := Lib.hid hm
      clear hk e1 e2 hB hK hm
      have nn0 : (0 : Int) ≤ (q : Int) := by omega
      have nn1 : (q : Int) < (ss.length : Int) := by omega
      go_wp2_with ((go_at_call 16; fail))
      refine (tick_any ok hc n n0 n1).mono ?_
      rintro e w3 ⟨rfl, T⟩
      have hB3 := HB.out.set E1.out T (s.tick_ok ok n n0)
      have hK3 := HKp.out.trans (Kept.of_stored T HM.out)
      rw [step_map ss (fun s => s.tick n) q s E2.out] at hB3
      have HB3 := Lib.hid hB3
      clear hB3 T hc hcell
      go_wp2_with fail
      go_roundg (ss.length - (q + 1))
      case measure => have := HK.out; omega
      case rel => exact ⟨q + 1, by go_num, by omega, rfl, HB3.out, hK3⟩
    · have hqe : q = ss.length := by omega
      have hd : decide ((q : Int) < (ss.length : Int)) = false := by simp; omega
      have hB2 : BK wr bb ab cap cs (ss.map fun s => s.tick n) := by
        have := hB
        rw [hqe, List.take_length, List.drop_length, List.append_nil] at this
        exact this
      have HB2 := Lib.hid hB2
      clear hB hB2 hk hqe
      go_wp2
      first
        | exact bodyPost_ret (v := .tuple #[]) (by simp [results, go_sem]) rfl ⟨rfl, HB2.out, hK⟩
        | (go_end0; exact ⟨rfl, HB2.out, hK⟩)
end
end Go.Proofs.Ytfjkfigjenalgaa
