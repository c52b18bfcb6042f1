/- A bank of timers: words of bits, and the register that an offset names. No conditions beyond those that each statement shows. -/
import Derived.Test.YtfjkfigjenalgaaV2
namespace Go.Proofs.Ytfjkfigjenalgaa
open Go.RowKit
set_option linter.unusedVariables false
set_option linter.unusedSimpArgs false

theorem mask_1 (w : World) : Calls Try.prog 47 #[.int .i64 1] w fun e w' => e = .returned (L 1) ∧ w = w' := by
  go_enter Try.func47, Try.ntmps47
  go_wp2
  go_ret
  exact ⟨rfl, rfl⟩
theorem mask_5 (w : World) : Calls Try.prog 47 #[.int .i64 5] w fun e w' => e = .returned (L 31) ∧ w = w' := by
  go_enter Try.func47, Try.ntmps47
  go_wp2
  go_ret
  exact ⟨rfl, rfl⟩
theorem field_05 (w : World) : Calls Try.prog 59 #[.int .i64 0, .int .i64 5] w fun e w' => e = .returned (U 31) ∧ w = w' := by
  go_enter Try.func59, Try.ntmps59
  go_wp2_with (go_at_call 47; refine (mask_5 _).mono ?_; rintro e w' ⟨rfl, rfl⟩)
  go_ret
  exact ⟨rfl, rfl⟩
theorem Field_05 (n : Int) (h0 : 0 ≤ n) (h1 : n ≤ 4294967295) (w : World) : Calls Try.prog 57 #[U n, .int .i64 0, .int .i64 5] w fun e w' => e = .returned (U (n % 32)) ∧ w = w' := by
  go_enter Try.func57, Try.ntmps57
  go_wp2_with (go_at_call 59; refine (field_05 _).mono ?_; rintro e w' ⟨rfl, rfl⟩)
  go_ret
  exact ⟨ret_int (by rw [and_31 n h0 h1]; first | done | omega | simp), rfl⟩

theorem put_0_andNot (n : Int) (h0 : 0 ≤ n) (h1 : n < 1) : bits .andNot .u32 n 1 = n := by
  have h : ∀ m : Fin 1, bits .andNot .u32 ((m.val : Nat) : Int) 1 = ((m.val : Nat) : Int) := by decide +kernel
  have := h ⟨n.toNat, by omega⟩
  simpa [Int.toNat_of_nonneg h0] using this
theorem put_0_or (n : Int) (h0 : 0 ≤ n) (h1 : n < 1) : bits .or .u32 n 1 = n + 1 := by
  have h : ∀ m : Fin 1, bits .or .u32 ((m.val : Nat) : Int) 1 = ((m.val : Nat) : Int) + 1 := by decide +kernel
  have := h ⟨n.toNat, by omega⟩
  simpa [Int.toNat_of_nonneg h0] using this
theorem field_01 (w : World) : Calls Try.prog 59 #[.int .i64 0, .int .i64 1] w fun e w' => e = .returned (U 1) ∧ w = w' := by
  go_enter Try.func59, Try.ntmps59
  go_wp2_with (go_at_call 47; refine (mask_1 _).mono ?_; rintro e w' ⟨rfl, rfl⟩)
  go_ret
  exact ⟨rfl, rfl⟩
theorem Put_0 (n : Int) (h0 : 0 ≤ n) (h1 : n < 1) (w : World) : Calls Try.prog 58 #[U n, .int .i64 0, .int .i64 1, U 1] w fun e w' => e = .returned (U (n + 1)) ∧ w = w' := by
  have e0 : bits .and .u32 1 1 = 1 := by decide
  have e1 := put_0_andNot n h0 h1
  have e2 := put_0_or n h0 h1
  go_enter Try.func58, Try.ntmps58
  go_wp2_with (go_at_call 59; refine (field_01 _).mono ?_; rintro e w' ⟨rfl, rfl⟩)
  go_ret
  exact ⟨rfl, rfl⟩

theorem put_1_andNot (n : Int) (h0 : 0 ≤ n) (h1 : n < 2) : bits .andNot .u32 n 2 = n := by
  have h : ∀ m : Fin 2, bits .andNot .u32 ((m.val : Nat) : Int) 2 = ((m.val : Nat) : Int) := by decide +kernel
  have := h ⟨n.toNat, by omega⟩
  simpa [Int.toNat_of_nonneg h0] using this
theorem put_1_or (n : Int) (h0 : 0 ≤ n) (h1 : n < 2) : bits .or .u32 n 2 = n + 2 := by
  have h : ∀ m : Fin 2, bits .or .u32 ((m.val : Nat) : Int) 2 = ((m.val : Nat) : Int) + 2 := by decide +kernel
  have := h ⟨n.toNat, by omega⟩
  simpa [Int.toNat_of_nonneg h0] using this
theorem field_11 (w : World) : Calls Try.prog 59 #[.int .i64 1, .int .i64 1] w fun e w' => e = .returned (U 2) ∧ w = w' := by
  go_enter Try.func59, Try.ntmps59
  go_wp2_with (go_at_call 47; refine (mask_1 _).mono ?_; rintro e w' ⟨rfl, rfl⟩)
  go_ret
  exact ⟨rfl, rfl⟩
theorem Put_1 (n : Int) (h0 : 0 ≤ n) (h1 : n < 2) (w : World) : Calls Try.prog 58 #[U n, .int .i64 1, .int .i64 1, U 1] w fun e w' => e = .returned (U (n + 2)) ∧ w = w' := by
  have e0 : bits .and .u32 2 2 = 2 := by decide
  have e1 := put_1_andNot n h0 h1
  have e2 := put_1_or n h0 h1
  go_enter Try.func58, Try.ntmps58
  go_wp2_with (go_at_call 59; refine (field_11 _).mono ?_; rintro e w' ⟨rfl, rfl⟩)
  go_ret
  exact ⟨rfl, rfl⟩

theorem put_2_andNot (n : Int) (h0 : 0 ≤ n) (h1 : n < 4) : bits .andNot .u32 n 4 = n := by
  have h : ∀ m : Fin 4, bits .andNot .u32 ((m.val : Nat) : Int) 4 = ((m.val : Nat) : Int) := by decide +kernel
  have := h ⟨n.toNat, by omega⟩
  simpa [Int.toNat_of_nonneg h0] using this
theorem put_2_or (n : Int) (h0 : 0 ≤ n) (h1 : n < 4) : bits .or .u32 n 4 = n + 4 := by
  have h : ∀ m : Fin 4, bits .or .u32 ((m.val : Nat) : Int) 4 = ((m.val : Nat) : Int) + 4 := by decide +kernel
  have := h ⟨n.toNat, by omega⟩
  simpa [Int.toNat_of_nonneg h0] using this
theorem field_21 (w : World) : Calls Try.prog 59 #[.int .i64 2, .int .i64 1] w fun e w' => e = .returned (U 4) ∧ w = w' := by
  go_enter Try.func59, Try.ntmps59
  go_wp2_with (go_at_call 47; refine (mask_1 _).mono ?_; rintro e w' ⟨rfl, rfl⟩)
  go_ret
  exact ⟨rfl, rfl⟩
theorem Put_2 (n : Int) (h0 : 0 ≤ n) (h1 : n < 4) (w : World) : Calls Try.prog 58 #[U n, .int .i64 2, .int .i64 1, U 1] w fun e w' => e = .returned (U (n + 4)) ∧ w = w' := by
  have e0 : bits .and .u32 4 4 = 4 := by decide
  have e1 := put_2_andNot n h0 h1
  have e2 := put_2_or n h0 h1
  go_enter Try.func58, Try.ntmps58
  go_wp2_with (go_at_call 59; refine (field_21 _).mono ?_; rintro e w' ⟨rfl, rfl⟩)
  go_ret
  exact ⟨rfl, rfl⟩

theorem put_3_andNot (n : Int) (h0 : 0 ≤ n) (h1 : n < 8) : bits .andNot .u32 n 8 = n := by
  have h : ∀ m : Fin 8, bits .andNot .u32 ((m.val : Nat) : Int) 8 = ((m.val : Nat) : Int) := by decide +kernel
  have := h ⟨n.toNat, by omega⟩
  simpa [Int.toNat_of_nonneg h0] using this
theorem put_3_or (n : Int) (h0 : 0 ≤ n) (h1 : n < 8) : bits .or .u32 n 8 = n + 8 := by
  have h : ∀ m : Fin 8, bits .or .u32 ((m.val : Nat) : Int) 8 = ((m.val : Nat) : Int) + 8 := by decide +kernel
  have := h ⟨n.toNat, by omega⟩
  simpa [Int.toNat_of_nonneg h0] using this
theorem field_31 (w : World) : Calls Try.prog 59 #[.int .i64 3, .int .i64 1] w fun e w' => e = .returned (U 8) ∧ w = w' := by
  go_enter Try.func59, Try.ntmps59
  go_wp2_with (go_at_call 47; refine (mask_1 _).mono ?_; rintro e w' ⟨rfl, rfl⟩)
  go_ret
  exact ⟨rfl, rfl⟩
theorem Put_3 (n : Int) (h0 : 0 ≤ n) (h1 : n < 8) (w : World) : Calls Try.prog 58 #[U n, .int .i64 3, .int .i64 1, U 1] w fun e w' => e = .returned (U (n + 8)) ∧ w = w' := by
  have e0 : bits .and .u32 8 8 = 8 := by decide
  have e1 := put_3_andNot n h0 h1
  have e2 := put_3_or n h0 h1
  go_enter Try.func58, Try.ntmps58
  go_wp2_with (go_at_call 59; refine (field_31 _).mono ?_; rintro e w' ⟨rfl, rfl⟩)
  go_ret
  exact ⟨rfl, rfl⟩

theorem put_4_andNot (n : Int) (h0 : 0 ≤ n) (h1 : n < 16) : bits .andNot .u32 n 16 = n := by
  have h : ∀ m : Fin 16, bits .andNot .u32 ((m.val : Nat) : Int) 16 = ((m.val : Nat) : Int) := by decide +kernel
  have := h ⟨n.toNat, by omega⟩
  simpa [Int.toNat_of_nonneg h0] using this
theorem put_4_or (n : Int) (h0 : 0 ≤ n) (h1 : n < 16) : bits .or .u32 n 16 = n + 16 := by
  have h : ∀ m : Fin 16, bits .or .u32 ((m.val : Nat) : Int) 16 = ((m.val : Nat) : Int) + 16 := by decide +kernel
  have := h ⟨n.toNat, by omega⟩
  simpa [Int.toNat_of_nonneg h0] using this
theorem field_41 (w : World) : Calls Try.prog 59 #[.int .i64 4, .int .i64 1] w fun e w' => e = .returned (U 16) ∧ w = w' := by
  go_enter Try.func59, Try.ntmps59
  go_wp2_with (go_at_call 47; refine (mask_1 _).mono ?_; rintro e w' ⟨rfl, rfl⟩)
  go_ret
  exact ⟨rfl, rfl⟩
theorem Put_4 (n : Int) (h0 : 0 ≤ n) (h1 : n < 16) (w : World) : Calls Try.prog 58 #[U n, .int .i64 4, .int .i64 1, U 1] w fun e w' => e = .returned (U (n + 16)) ∧ w = w' := by
  have e0 : bits .and .u32 16 16 = 16 := by decide
  have e1 := put_4_andNot n h0 h1
  have e2 := put_4_or n h0 h1
  go_enter Try.func58, Try.ntmps58
  go_wp2_with (go_at_call 59; refine (field_41 _).mono ?_; rintro e w' ⟨rfl, rfl⟩)
  go_ret
  exact ⟨rfl, rfl⟩

theorem put_5_andNot (n : Int) (h0 : 0 ≤ n) (h1 : n < 32) : bits .andNot .u32 n 32 = n := by
  have h : ∀ m : Fin 32, bits .andNot .u32 ((m.val : Nat) : Int) 32 = ((m.val : Nat) : Int) := by decide +kernel
  have := h ⟨n.toNat, by omega⟩
  simpa [Int.toNat_of_nonneg h0] using this
theorem put_5_or (n : Int) (h0 : 0 ≤ n) (h1 : n < 32) : bits .or .u32 n 32 = n + 32 := by
  have h : ∀ m : Fin 32, bits .or .u32 ((m.val : Nat) : Int) 32 = ((m.val : Nat) : Int) + 32 := by decide +kernel
  have := h ⟨n.toNat, by omega⟩
  simpa [Int.toNat_of_nonneg h0] using this
theorem field_51 (w : World) : Calls Try.prog 59 #[.int .i64 5, .int .i64 1] w fun e w' => e = .returned (U 32) ∧ w = w' := by
  go_enter Try.func59, Try.ntmps59
  go_wp2_with (go_at_call 47; refine (mask_1 _).mono ?_; rintro e w' ⟨rfl, rfl⟩)
  go_ret
  exact ⟨rfl, rfl⟩
theorem Put_5 (n : Int) (h0 : 0 ≤ n) (h1 : n < 32) (w : World) : Calls Try.prog 58 #[U n, .int .i64 5, .int .i64 1, U 1] w fun e w' => e = .returned (U (n + 32)) ∧ w = w' := by
  have e0 : bits .and .u32 32 32 = 32 := by decide
  have e1 := put_5_andNot n h0 h1
  have e2 := put_5_or n h0 h1
  go_enter Try.func58, Try.ntmps58
  go_wp2_with (go_at_call 59; refine (field_51 _).mono ?_; rintro e w' ⟨rfl, rfl⟩)
  go_ret
  exact ⟨rfl, rfl⟩

theorem put_6_andNot (n : Int) (h0 : 0 ≤ n) (h1 : n < 64) : bits .andNot .u32 n 64 = n := by
  have h : ∀ m : Fin 64, bits .andNot .u32 ((m.val : Nat) : Int) 64 = ((m.val : Nat) : Int) := by decide +kernel
  have := h ⟨n.toNat, by omega⟩
  simpa [Int.toNat_of_nonneg h0] using this
theorem put_6_or (n : Int) (h0 : 0 ≤ n) (h1 : n < 64) : bits .or .u32 n 64 = n + 64 := by
  have h : ∀ m : Fin 64, bits .or .u32 ((m.val : Nat) : Int) 64 = ((m.val : Nat) : Int) + 64 := by decide +kernel
  have := h ⟨n.toNat, by omega⟩
  simpa [Int.toNat_of_nonneg h0] using this
theorem field_61 (w : World) : Calls Try.prog 59 #[.int .i64 6, .int .i64 1] w fun e w' => e = .returned (U 64) ∧ w = w' := by
  go_enter Try.func59, Try.ntmps59
  go_wp2_with (go_at_call 47; refine (mask_1 _).mono ?_; rintro e w' ⟨rfl, rfl⟩)
  go_ret
  exact ⟨rfl, rfl⟩
theorem Put_6 (n : Int) (h0 : 0 ≤ n) (h1 : n < 64) (w : World) : Calls Try.prog 58 #[U n, .int .i64 6, .int .i64 1, U 1] w fun e w' => e = .returned (U (n + 64)) ∧ w = w' := by
  have e0 : bits .and .u32 64 64 = 64 := by decide
  have e1 := put_6_andNot n h0 h1
  have e2 := put_6_or n h0 h1
  go_enter Try.func58, Try.ntmps58
  go_wp2_with (go_at_call 59; refine (field_61 _).mono ?_; rintro e w' ⟨rfl, rfl⟩)
  go_ret
  exact ⟨rfl, rfl⟩

theorem put_7_andNot (n : Int) (h0 : 0 ≤ n) (h1 : n < 128) : bits .andNot .u32 n 128 = n := by
  have h : ∀ m : Fin 128, bits .andNot .u32 ((m.val : Nat) : Int) 128 = ((m.val : Nat) : Int) := by decide +kernel
  have := h ⟨n.toNat, by omega⟩
  simpa [Int.toNat_of_nonneg h0] using this
theorem put_7_or (n : Int) (h0 : 0 ≤ n) (h1 : n < 128) : bits .or .u32 n 128 = n + 128 := by
  have h : ∀ m : Fin 128, bits .or .u32 ((m.val : Nat) : Int) 128 = ((m.val : Nat) : Int) + 128 := by decide +kernel
  have := h ⟨n.toNat, by omega⟩
  simpa [Int.toNat_of_nonneg h0] using this
theorem field_71 (w : World) : Calls Try.prog 59 #[.int .i64 7, .int .i64 1] w fun e w' => e = .returned (U 128) ∧ w = w' := by
  go_enter Try.func59, Try.ntmps59
  go_wp2_with (go_at_call 47; refine (mask_1 _).mono ?_; rintro e w' ⟨rfl, rfl⟩)
  go_ret
  exact ⟨rfl, rfl⟩
theorem Put_7 (n : Int) (h0 : 0 ≤ n) (h1 : n < 128) (w : World) : Calls Try.prog 58 #[U n, .int .i64 7, .int .i64 1, U 1] w fun e w' => e = .returned (U (n + 128)) ∧ w = w' := by
  have e0 : bits .and .u32 128 128 = 128 := by decide
  have e1 := put_7_andNot n h0 h1
  have e2 := put_7_or n h0 h1
  go_enter Try.func58, Try.ntmps58
  go_wp2_with (go_at_call 59; refine (field_71 _).mono ?_; rintro e w' ⟨rfl, rfl⟩)
  go_ret
  exact ⟨rfl, rfl⟩

theorem Put_any (i : Nat) (hi : i < 8) (n : Int) (h0 : 0 ≤ n) (h1 : n < 2 ^ i) (w : World) : Calls Try.prog 58 #[U n, I (i : Nat), .int .i64 1, U 1] w fun e w' => e = .returned (U (n + 2 ^ i)) ∧ w = w' := by
  obtain rfl | rfl | rfl | rfl | rfl | rfl | rfl | rfl : i = 0 ∨ i = 1 ∨ i = 2 ∨ i = 3 ∨ i = 4 ∨ i = 5 ∨ i = 6 ∨ i = 7 := by omega
  · exact Put_0 n h0 (by simpa using h1) w
  · exact Put_1 n h0 (by simpa using h1) w
  · exact Put_2 n h0 (by simpa using h1) w
  · exact Put_3 n h0 (by simpa using h1) w
  · exact Put_4 n h0 (by simpa using h1) w
  · exact Put_5 n h0 (by simpa using h1) w
  · exact Put_6 n h0 (by simpa using h1) w
  · exact Put_7 n h0 (by simpa using h1) w

/-- The word of those among the first k timers of which g holds. -/
def wordN (ss : List CS) (g : CS → Bool) : Nat → Int
  | 0 => 0
  | k + 1 => match ss[k]? with
    | some s => if g s then wordN ss g k + 2 ^ k else wordN ss g k
    | none => wordN ss g k
theorem wordN_succ {ss : List CS} {g : CS → Bool} {k : Nat} {s : CS} (hs : ss[k]? = some s) : wordN ss g (k + 1) = if g s then wordN ss g k + 2 ^ k else wordN ss g k := by
  simp only [wordN, hs]
theorem wordN_bd (ss : List CS) (g : CS → Bool) : ∀ k, 0 ≤ wordN ss g k ∧ wordN ss g k < 2 ^ k
  | 0 => by simp [wordN]
  | k + 1 => by
    have ih := wordN_bd ss g k
    have hp : (2 : Int) ^ (k + 1) = 2 ^ k + 2 ^ k := by rw [Int.pow_succ]; omega
    have hpp : (0 : Int) < 2 ^ k := Int.pow_pos (by decide)
    simp only [wordN]
    split
    · split <;> omega
    · omega

def RelWd (w0 : World) (ss : List CS) (g : CS → Bool) (k : Nat) (a i : Value) (wr : World) : Prop :=
  ∃ n : Nat, i = I (n : Nat) ∧ n ≤ ss.length ∧ k = ss.length - n ∧ a = U (wordN ss g n) ∧ Below w0.heap.size w0 wr

section
variable {w w' : World} {bb ab cap : Nat} {cs : List Nat} {ss : List CS}

set_option maxHeartbeats 2000000 in
theorem word_runs (h : BK w bb ab cap cs ss) :
    Calls Try.prog 55 #[.pointer (some ⟨bb, 0, none⟩), .func (.func 21) #[] #[]] w fun e w' => e = .returned (U (wordN ss (fun s => s.en) ss.length)) ∧ Below w.heap.size w w' := by
  have HA := Lib.hid (all_any h)
  have HH := Lib.hid h
  have hi := h.hi
  clear h
  go_enter Try.func55, Try.ntmps55
  go_wp2_with fail
  go_step3
  go_wp2_with fail
  go_step3
  go_wp2_with (go_at_call 54; refine HA.out.mono ?_; rintro e w2 ⟨rfl, rfl⟩)
  go_loopg [5, 11] ss.length (fun k a i wr => RelWd w ss (fun s => s.en) k a i wr)
  case atStart => exact ⟨0, rfl, by omega, rfl, rfl, Below.refl _ _⟩
  case round =>
    obtain ⟨q, rfl, hq, hk, rfl, hb⟩ := hrel
    have HK := Lib.hid hk
    clear hk
    by_cases hlt : q < ss.length
    · have hd : decide ((q : Int) < (ss.length : Int)) = true := by simp; omega
      obtain ⟨c, s, e1, e2, hm, hc, ok, hcell⟩ := (HH.out.below hb).nth (k := q) hlt
      have hs := wordN_succ (g := fun s => s.en) e2
      have hbd := wordN_bd ss (fun s => s.en) q
      have PA := Lib.hid (Put_any q (by omega) (wordN ss (fun s => s.en) q) hbd.1 hbd.2)
      generalize hA : wordN ss (fun s => s.en) q = acc at *
      obtain ⟨gv, hgv⟩ : ∃ gv, (s.en) = gv := ⟨_, rfl⟩
      try dsimp only at hs
      rw [hgv] at hs
      have HS := Lib.hid hs
      have HAA := Lib.hid hA
      have HG := Lib.hid hgv
      clear e1 e2 hm hs hA hgv hbd
      have nn0 : (0 : Int) ≤ (q : Int) := by omega
      have nn1 : (q : Int) < (ss.length : Int) := by omega
      have Hc := Lib.hid hc
      have Hb := Lib.hid hb
      clear hc hb
      go_wp2_with ((go_at_call 21; fail))
      refine (runs_any ok Hc.out).mono ?_
      rw [HG.out]
      rintro e w3 ⟨rfl, hb3⟩
      have B3 := Lib.hid (Hb.out.trans (hb3.mono Hb.out.size))
      clear hb3 hcell
      cases gv
      · have HS2 : Hid (wordN ss (fun s => s.en) (q + 1) = acc) := Lib.hid HS.out
        go_wp2_with fail
        go_roundg (ss.length - (q + 1))
        case measure => have := HK.out; omega
        case rel => exact ⟨q + 1, by go_num, by omega, rfl, by rw [HS2.out], B3.out⟩
      · have HS2 : Hid (wordN ss (fun s => s.en) (q + 1) = acc + 2 ^ q) := Lib.hid HS.out
        go_wp2_with ((go_at_call 58; fail))
        refine (PA.out _).mono ?_
        rintro e w4 ⟨rfl, rfl⟩
        go_wp2_with fail
        go_roundg (ss.length - (q + 1))
        case measure => have := HK.out; omega
        case rel => exact ⟨q + 1, by go_num, by omega, rfl, by rw [HS2.out], B3.out⟩
    · have hqe : q = ss.length := by omega
      have hd : decide ((q : Int) < (ss.length : Int)) = false := by simp; omega
      rw [hqe]
      rw [hqe] at hd
      have Hb := Lib.hid hb
      clear hb hqe hlt hq
      go_wp2
      rw [Exit.noGoto_ret]
      go_ret
      exact ⟨rfl, Hb.out⟩

set_option maxHeartbeats 2000000 in
theorem word_lines (h : BK w bb ab cap cs ss) :
    Calls Try.prog 55 #[.pointer (some ⟨bb, 0, none⟩), .func (.func 23) #[] #[]] w fun e w' => e = .returned (U (wordN ss (fun s => s.st && s.ir) ss.length)) ∧ Below w.heap.size w w' := by
  have HA := Lib.hid (all_any h)
  have HH := Lib.hid h
  have hi := h.hi
  clear h
  go_enter Try.func55, Try.ntmps55
  go_wp2_with fail
  go_step3
  go_wp2_with fail
  go_step3
  go_wp2_with (go_at_call 54; refine HA.out.mono ?_; rintro e w2 ⟨rfl, rfl⟩)
  go_loopg [5, 11] ss.length (fun k a i wr => RelWd w ss (fun s => s.st && s.ir) k a i wr)
  case atStart => exact ⟨0, rfl, by omega, rfl, rfl, Below.refl _ _⟩
  case round =>
    obtain ⟨q, rfl, hq, hk, rfl, hb⟩ := hrel
    have HK := Lib.hid hk
    clear hk
    by_cases hlt : q < ss.length
    · have hd : decide ((q : Int) < (ss.length : Int)) = true := by simp; omega
      obtain ⟨c, s, e1, e2, hm, hc, ok, hcell⟩ := (HH.out.below hb).nth (k := q) hlt
      have hs := wordN_succ (g := fun s => s.st && s.ir) e2
      have hbd := wordN_bd ss (fun s => s.st && s.ir) q
      have PA := Lib.hid (Put_any q (by omega) (wordN ss (fun s => s.st && s.ir) q) hbd.1 hbd.2)
      generalize hA : wordN ss (fun s => s.st && s.ir) q = acc at *
      obtain ⟨gv, hgv⟩ : ∃ gv, (s.st && s.ir) = gv := ⟨_, rfl⟩
      try dsimp only at hs
      rw [hgv] at hs
      have HS := Lib.hid hs
      have HAA := Lib.hid hA
      have HG := Lib.hid hgv
      clear e1 e2 hm hs hA hgv hbd
      have nn0 : (0 : Int) ≤ (q : Int) := by omega
      have nn1 : (q : Int) < (ss.length : Int) := by omega
      have Hc := Lib.hid hc
      have Hb := Lib.hid hb
      clear hc hb
      go_wp2_with ((go_at_call 23; fail))
      refine (line_any ok Hc.out).mono ?_
      rw [HG.out]
      rintro e w3 ⟨rfl, hb3⟩
      have B3 := Lib.hid (Hb.out.trans (hb3.mono Hb.out.size))
      clear hb3 hcell
      cases gv
      · have HS2 : Hid (wordN ss (fun s => s.st && s.ir) (q + 1) = acc) := Lib.hid HS.out
        go_wp2_with fail
        go_roundg (ss.length - (q + 1))
        case measure => have := HK.out; omega
        case rel => exact ⟨q + 1, by go_num, by omega, rfl, by rw [HS2.out], B3.out⟩
      · have HS2 : Hid (wordN ss (fun s => s.st && s.ir) (q + 1) = acc + 2 ^ q) := Lib.hid HS.out
        go_wp2_with ((go_at_call 58; fail))
        refine (PA.out _).mono ?_
        rintro e w4 ⟨rfl, rfl⟩
        go_wp2_with fail
        go_roundg (ss.length - (q + 1))
        case measure => have := HK.out; omega
        case rel => exact ⟨q + 1, by go_num, by omega, rfl, by rw [HS2.out], B3.out⟩
    · have hqe : q = ss.length := by omega
      have hd : decide ((q : Int) < (ss.length : Int)) = false := by simp; omega
      rw [hqe]
      rw [hqe] at hd
      have Hb := Lib.hid hb
      clear hb hqe hlt hq
      go_wp2
      rw [Exit.noGoto_ret]
      go_ret
      exact ⟨rfl, Hb.out⟩

theorem bruns_any (h : BK w bb ab cap cs ss) : Calls Try.prog 30 #[.pointer (some ⟨bb, 0, none⟩)] w fun e w' => e = .returned (U (wordN ss (fun s => s.en) ss.length)) ∧ Below w.heap.size w w' := by
  have HA := Lib.hid (word_runs h)
  clear h
  go_enter Try.func30, Try.ntmps30
  go_wp2_with (go_at_call 55; refine HA.out.mono ?_; rintro e w2 ⟨rfl, hb⟩)
  go_ret
  exact ⟨rfl, hb⟩
theorem blines_any (h : BK w bb ab cap cs ss) : Calls Try.prog 36 #[.pointer (some ⟨bb, 0, none⟩)] w fun e w' => e = .returned (U (wordN ss (fun s => s.st && s.ir) ss.length)) ∧ Below w.heap.size w w' := by
  have HA := Lib.hid (word_lines h)
  clear h
  go_enter Try.func36, Try.ntmps36
  go_wp2_with (go_at_call 55; refine HA.out.mono ?_; rintro e w2 ⟨rfl, hb⟩)
  go_ret
  exact ⟨rfl, hb⟩
end
end Go.Proofs.Ytfjkfigjenalgaa
