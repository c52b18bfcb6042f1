/- A text of nineteen bytes; a number out of it. Each under the premises that its own statement shows. -/
import Derived.Test.YtajjibfipkijfaaH2
import Derived.Laws.IdiomStrings
set_option linter.unusedVariables false
set_option linter.unusedSimpArgs false
namespace Go.Proofs.Ytajjibfipkijfaa
open Go.RowKit

/-- A text of nineteen bytes. -/
structure S19 (s : ByteArray) (b : Nat → Int) : Prop where
  size : s.size = 19
  bd : ∀ j, 0 ≤ b j ∧ b j ≤ 255
  at_ : ∀ j (h : j < s.size), ((s[j]'h).toNat : Int) = b j

theorem S19.ix {s : ByteArray} {b : Nat → Int} (h : S19 s b) (k : Nat) (hk : k < 19) (w : World) : (Instr.index 9 (.string s) (.int .i64 (k : Int))).run Try.prog w = .ok (.int .u8 (b k)) w := by
  have hs := h.size
  rw [run_index_string w 9 s .i64 k Try.underlying9, dif_pos ⟨by omega, by omega⟩]
  congr 2
  have := h.at_ k (by omega)
  simpa using this

theorem S19.conv {s : ByteArray} {b : Nat → Int} (h : S19 s b) (a n : Nat) (han : a + n ≤ 19) (w : World) :
    ∃ c W2, (convert 9 55 (.string (s.extract a (a + n)))).run Try.prog w = .ok (.slice (some ⟨w.heap.size, 0, none⟩) n c) W2 ∧ Below w.heap.size w W2 ∧ ∀ i, i < n → W2.cell? ⟨w.heap.size, i, none⟩ = some (.int .u8 (b (a + i))) := by
  have hs := h.size
  have hz : (s.extract a (a + n)).size = n := by rw [ByteArray.size_extract]; omega
  have hc := run_bytes_of_string (P := Try.prog) w 9 55 5 (s.extract a (a + n)) Try.underlying9 Try.underlying55 Try.underlying5
  rw [hz] at hc
  refine ⟨_, _, hc, (Below.refl _ _).drew.alloc (by simp) _, fun i hi => ?_⟩
  have hh : ((w.drew.alloc (.cells (bytesRow (s.extract a (a + n)) (grownCap w n 0 5)) 5 ((bytesRow (s.extract a (a + n)) (grownCap w n 0 5)).size, (bytesRow (s.extract a (a + n)) (grownCap w n 0 5)).size + 1))).heap)[w.heap.size]? = some (.cells (bytesRow (s.extract a (a + n)) (grownCap w n 0 5)) 5 ((bytesRow (s.extract a (a + n)) (grownCap w n 0 5)).size, (bytesRow (s.extract a (a + n)) (grownCap w n 0 5)).size + 1)) := by
    show (w.heap.push _)[w.heap.size]? = _
    simp
  have hget : (bytesRow (s.extract a (a + n)) (grownCap w n 0 5))[i]? = some (.int .u8 (b (a + i))) := by
    have hi2 : i < (s.extract a (a + n)).data.size := by
      have : (s.extract a (a + n)).data.size = (s.extract a (a + n)).size := rfl
      rw [this, hz]; exact hi
    unfold bytesRow
    rw [Array.getElem?_append_left (by simpa using hi2), Array.getElem?_map, Array.getElem?_eq_getElem hi2]
    have e1 : ((s.extract a (a + n)).data[i]'hi2) = s[a + i]'(by omega) := by
      have e2 := ByteArray.getElem_extract (b := s) (start := a) (stop := a + n) (i := i) (by rw [hz]; exact hi)
      exact e2
    rw [e1]
    have := h.at_ (a + i) (by omega)
    simp [this]
  unfold World.cell?
  simp only [hh]
  simpa using hget

/-- Digits. -/
def DG (b : Nat → Int) (j : Nat) : Prop := 48 ≤ b j ∧ b j ≤ 57

section
variable {s : ByteArray} {b : Nat → Int}

set_option maxHeartbeats 1000000 in
theorem num_0 (h : S19 s b) (d0 : DG b 0) (d1 : DG b 1) (d2 : DG b 2) (d3 : DG b 3) (sb : Nat) (w : World) (hc : w.cell? ⟨sb, 0, none⟩ = some (.string s)) :
    Calls Try.prog 29 #[I 0, I 4, .pointer (some ⟨sb, 0, none⟩)] w fun e w' => e = .returned (I (1000 * (b 0 - 48) + 100 * (b 1 - 48) + 10 * (b 2 - 48) + (b 3 - 48))) ∧ Below w.heap.size w w' := by
  have hle : (4 : Int) ≤ (s.size : Int) := by rw [h.size]; decide
  obtain ⟨c, W2, hcv, hb, hcell⟩ := h.conv 0 4 (by decide) w
  have k0 := hcell 0 (by decide)
  obtain ⟨l0, u0⟩ := d0
  have w0 : IntKind.u8.wrap (b 0 - 48) = b 0 - 48 := by rw [IntKind.wrap_u8]; omega
  have k1 := hcell 1 (by decide)
  obtain ⟨l1, u1⟩ := d1
  have w1 : IntKind.u8.wrap (b 1 - 48) = b 1 - 48 := by rw [IntKind.wrap_u8]; omega
  have k2 := hcell 2 (by decide)
  obtain ⟨l2, u2⟩ := d2
  have w2 : IntKind.u8.wrap (b 2 - 48) = b 2 - 48 := by rw [IntKind.wrap_u8]; omega
  have k3 := hcell 3 (by decide)
  obtain ⟨l3, u3⟩ := d3
  have w3 : IntKind.u8.wrap (b 3 - 48) = b 3 - 48 := by rw [IntKind.wrap_u8]; omega
  have HB := Lib.hid hb
  clear hcell hb h
  simp only [Nat.add_zero, Nat.reduceAdd] at hcv k0 k1 k2 k3
  go_enter Try.func29, Try.ntmps29
  go_wp2_with fail
  refine wp_loop_rounds 5 ?_
  rw [rounds_succ]
  go_wp2_with fail
  rw [rounds_succ]
  go_wp2_with fail
  rw [rounds_succ]
  go_wp2_with fail
  rw [rounds_succ]
  go_wp2_with fail
  rw [rounds_succ]
  go_wp2_with fail
  go_ret
  exact ⟨ret_int (by omega), HB.out⟩

set_option maxHeartbeats 1000000 in
theorem num_5 (h : S19 s b) (d0 : DG b 5) (d1 : DG b 6) (sb : Nat) (w : World) (hc : w.cell? ⟨sb, 0, none⟩ = some (.string s)) :
    Calls Try.prog 29 #[I 5, I 2, .pointer (some ⟨sb, 0, none⟩)] w fun e w' => e = .returned (I (10 * (b 5 - 48) + (b 6 - 48))) ∧ Below w.heap.size w w' := by
  have hle : (7 : Int) ≤ (s.size : Int) := by rw [h.size]; decide
  obtain ⟨c, W2, hcv, hb, hcell⟩ := h.conv 5 2 (by decide) w
  have k0 := hcell 0 (by decide)
  obtain ⟨l0, u0⟩ := d0
  have w0 : IntKind.u8.wrap (b 5 - 48) = b 5 - 48 := by rw [IntKind.wrap_u8]; omega
  have k1 := hcell 1 (by decide)
  obtain ⟨l1, u1⟩ := d1
  have w1 : IntKind.u8.wrap (b 6 - 48) = b 6 - 48 := by rw [IntKind.wrap_u8]; omega
  have HB := Lib.hid hb
  clear hcell hb h
  simp only [Nat.add_zero, Nat.reduceAdd] at hcv k0 k1
  go_enter Try.func29, Try.ntmps29
  go_wp2_with fail
  refine wp_loop_rounds 3 ?_
  rw [rounds_succ]
  go_wp2_with fail
  rw [rounds_succ]
  go_wp2_with fail
  rw [rounds_succ]
  go_wp2_with fail
  go_ret
  exact ⟨ret_int (by omega), HB.out⟩

set_option maxHeartbeats 1000000 in
theorem num_8 (h : S19 s b) (d0 : DG b 8) (d1 : DG b 9) (sb : Nat) (w : World) (hc : w.cell? ⟨sb, 0, none⟩ = some (.string s)) :
    Calls Try.prog 29 #[I 8, I 2, .pointer (some ⟨sb, 0, none⟩)] w fun e w' => e = .returned (I (10 * (b 8 - 48) + (b 9 - 48))) ∧ Below w.heap.size w w' := by
  have hle : (10 : Int) ≤ (s.size : Int) := by rw [h.size]; decide
  obtain ⟨c, W2, hcv, hb, hcell⟩ := h.conv 8 2 (by decide) w
  have k0 := hcell 0 (by decide)
  obtain ⟨l0, u0⟩ := d0
  have w0 : IntKind.u8.wrap (b 8 - 48) = b 8 - 48 := by rw [IntKind.wrap_u8]; omega
  have k1 := hcell 1 (by decide)
  obtain ⟨l1, u1⟩ := d1
  have w1 : IntKind.u8.wrap (b 9 - 48) = b 9 - 48 := by rw [IntKind.wrap_u8]; omega
  have HB := Lib.hid hb
  clear hcell hb h
  simp only [Nat.add_zero, Nat.reduceAdd] at hcv k0 k1
  go_enter Try.func29, Try.ntmps29
  go_wp2_with fail
  refine wp_loop_rounds 3 ?_
  rw [rounds_succ]
  go_wp2_with fail
  rw [rounds_succ]
  go_wp2_with fail
  rw [rounds_succ]
  go_wp2_with fail
  go_ret
  exact ⟨ret_int (by omega), HB.out⟩

set_option maxHeartbeats 1000000 in
theorem num_11 (h : S19 s b) (d0 : DG b 11) (d1 : DG b 12) (sb : Nat) (w : World) (hc : w.cell? ⟨sb, 0, none⟩ = some (.string s)) :
    Calls Try.prog 29 #[I 11, I 2, .pointer (some ⟨sb, 0, none⟩)] w fun e w' => e = .returned (I (10 * (b 11 - 48) + (b 12 - 48))) ∧ Below w.heap.size w w' := by
  have hle : (13 : Int) ≤ (s.size : Int) := by rw [h.size]; decide
  obtain ⟨c, W2, hcv, hb, hcell⟩ := h.conv 11 2 (by decide) w
  have k0 := hcell 0 (by decide)
  obtain ⟨l0, u0⟩ := d0
  have w0 : IntKind.u8.wrap (b 11 - 48) = b 11 - 48 := by rw [IntKind.wrap_u8]; omega
  have k1 := hcell 1 (by decide)
  obtain ⟨l1, u1⟩ := d1
  have w1 : IntKind.u8.wrap (b 12 - 48) = b 12 - 48 := by rw [IntKind.wrap_u8]; omega
  have HB := Lib.hid hb
  clear hcell hb h
  simp only [Nat.add_zero, Nat.reduceAdd] at hcv k0 k1
  go_enter Try.func29, Try.ntmps29
  go_wp2_with fail
  refine wp_loop_rounds 3 ?_
  rw [rounds_succ]
  go_wp2_with fail
  rw [rounds_succ]
  go_wp2_with fail
  rw [rounds_succ]
  go_wp2_with fail
  go_ret
  exact ⟨ret_int (by omega), HB.out⟩

set_option maxHeartbeats 1000000 in
theorem num_14 (h : S19 s b) (d0 : DG b 14) (d1 : DG b 15) (sb : Nat) (w : World) (hc : w.cell? ⟨sb, 0, none⟩ = some (.string s)) :
    Calls Try.prog 29 #[I 14, I 2, .pointer (some ⟨sb, 0, none⟩)] w fun e w' => e = .returned (I (10 * (b 14 - 48) + (b 15 - 48))) ∧ Below w.heap.size w w' := by
  have hle : (16 : Int) ≤ (s.size : Int) := by rw [h.size]; decide
  obtain ⟨c, W2, hcv, hb, hcell⟩ := h.conv 14 2 (by decide) w
  have k0 := hcell 0 (by decide)
  obtain ⟨l0, u0⟩ := d0
  have w0 : IntKind.u8.wrap (b 14 - 48) = b 14 - 48 := by rw [IntKind.wrap_u8]; omega
  have k1 := hcell 1 (by decide)
  obtain ⟨l1, u1⟩ := d1
  have w1 : IntKind.u8.wrap (b 15 - 48) = b 15 - 48 := by rw [IntKind.wrap_u8]; omega
  have HB := Lib.hid hb
  clear hcell hb h
  simp only [Nat.add_zero, Nat.reduceAdd] at hcv k0 k1
  go_enter Try.func29, Try.ntmps29
  go_wp2_with fail
  refine wp_loop_rounds 3 ?_
  rw [rounds_succ]
  go_wp2_with fail
  rw [rounds_succ]
  go_wp2_with fail
  rw [rounds_succ]
  go_wp2_with fail
  go_ret
  exact ⟨ret_int (by omega), HB.out⟩

set_option maxHeartbeats 1000000 in
theorem num_17 (h : S19 s b) (d0 : DG b 17) (d1 : DG b 18) (sb : Nat) (w : World) (hc : w.cell? ⟨sb, 0, none⟩ = some (.string s)) :
    Calls Try.prog 29 #[I 17, I 2, .pointer (some ⟨sb, 0, none⟩)] w fun e w' => e = .returned (I (10 * (b 17 - 48) + (b 18 - 48))) ∧ Below w.heap.size w w' := by
  have hle : (19 : Int) ≤ (s.size : Int) := by rw [h.size]; decide
  obtain ⟨c, W2, hcv, hb, hcell⟩ := h.conv 17 2 (by decide) w
  have k0 := hcell 0 (by decide)
  obtain ⟨l0, u0⟩ := d0
  have w0 : IntKind.u8.wrap (b 17 - 48) = b 17 - 48 := by rw [IntKind.wrap_u8]; omega
  have k1 := hcell 1 (by decide)
  obtain ⟨l1, u1⟩ := d1
  have w1 : IntKind.u8.wrap (b 18 - 48) = b 18 - 48 := by rw [IntKind.wrap_u8]; omega
  have HB := Lib.hid hb
  clear hcell hb h
  simp only [Nat.add_zero, Nat.reduceAdd] at hcv k0 k1
  go_enter Try.func29, Try.ntmps29
  go_wp2_with fail
  refine wp_loop_rounds 3 ?_
  rw [rounds_succ]
  go_wp2_with fail
  rw [rounds_succ]
  go_wp2_with fail
  rw [rounds_succ]
  go_wp2_with fail
  go_ret
  exact ⟨ret_int (by omega), HB.out⟩
end
end Go.Proofs.Ytajjibfipkijfaa
