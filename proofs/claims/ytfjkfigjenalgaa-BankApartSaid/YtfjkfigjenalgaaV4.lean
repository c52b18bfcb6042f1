/- A bank of timers: an offset's register, loads and stores; the nil bank. No conditions beyond those that each statement shows. -/
import Derived.Test.YtfjkfigjenalgaaV3
namespace Go.Proofs.Ytfjkfigjenalgaa
open Go.RowKit
set_option linter.unusedVariables false
set_option linter.unusedSimpArgs false

section
variable {w w' : World} {bb ab cap : Nat} {cs : List Nat} {ss : List CS}

theorem find_nil (off : Int) (h0 : 0 ≤ off) (h1 : off ≤ 4294967295) (w : World) : Calls Try.prog 53 #[.pointer none, U off] w fun e w' => e = .returned (.tuple #[.pointer none, U 0, I 10]) ∧ w = w' := by
  have F := Lib.hid (Field_05 off h0 h1)
  go_enter Try.func53, Try.ntmps53
  go_wp2_with (go_at_call 57; refine (F.out _).mono ?_; rintro e w2 ⟨rfl, rfl⟩)
  exact bodyPost_ret (v := .tuple #[.pointer none, U 0, I 10]) (by simp [results, Try.results53, go_sem]) rfl ⟨rfl, rfl⟩
theorem find_align (off : Int) (h0 : 0 ≤ off) (h1 : off ≤ 4294967295) (h4 : off % 4 ≠ 0) (w : World) : Calls Try.prog 53 #[.pointer (some ⟨bb, 0, none⟩), U off] w fun e w' => e = .returned (.tuple #[.pointer none, U 0, I 11]) ∧ w = w' := by
  have F := Lib.hid (Field_05 off h0 h1)
  have q : (off % 4 == 0) = false := by simpa using h4
  have q' : (off % 4 != 0) = true := by simpa using h4
  go_enter Try.func53, Try.ntmps53
  go_wp2_with (go_at_call 57; refine (F.out _).mono ?_; rintro e w2 ⟨rfl, rfl⟩)
  all_goals exact bodyPost_ret (v := .tuple #[.pointer none, U 0, I 11]) (by simp [results, Try.results53, go_sem]) rfl ⟨rfl, rfl⟩
theorem find_bus (h : BK w bb ab cap cs ss) (off : Int) (h0 : 0 ≤ off) (h1 : off ≤ 4294967295) (h4 : off % 4 = 0) (hb : (ss.length : Int) ≤ off / 32 ∨ 16 ≤ off % 32) :
    Calls Try.prog 53 #[.pointer (some ⟨bb, 0, none⟩), U off] w fun e w' => e = .returned (.tuple #[.pointer none, U 0, I 10]) ∧ w = w' := by
  have F := Lib.hid (Field_05 off h0 h1)
  have HL := Lib.hid (len_any h)
  have hi := h.hi
  clear h
  by_cases hl : (ss.length : Int) ≤ off / 32
  · have d1 : decide ((ss.length : Int) ≤ off / 32) = true := by simpa using hl
    clear hb
    go_enter Try.func53, Try.ntmps53
    go_wp2_with (first | (go_at_call 57; refine (F.out _).mono ?_; rintro e w2 ⟨rfl, rfl⟩) | (go_at_call 35; refine HL.out.mono ?_; rintro e w2 ⟨rfl, rfl⟩))
    all_goals exact bodyPost_ret (v := .tuple #[.pointer none, U 0, I 10]) (by simp [results, Try.results53, go_sem]) rfl ⟨rfl, rfl⟩
  · have d1 : decide ((ss.length : Int) ≤ off / 32) = false := by simpa using hl
    have h16 : 16 ≤ off % 32 := by omega
    have d2 : decide (16 ≤ off % 32) = true := by simpa using h16
    clear hb
    go_enter Try.func53, Try.ntmps53
    go_wp2_with (first | (go_at_call 57; refine (F.out _).mono ?_; rintro e w2 ⟨rfl, rfl⟩) | (go_at_call 35; refine HL.out.mono ?_; rintro e w2 ⟨rfl, rfl⟩))
    all_goals exact bodyPost_ret (v := .tuple #[.pointer none, U 0, I 10]) (by simp [results, Try.results53, go_sem]) rfl ⟨rfl, rfl⟩
theorem find_ok (h : BK w bb ab cap cs ss) (off r : Int) (k c : Nat) (h0 : 0 ≤ off) (h1 : off ≤ 4294967295) (h4 : off % 4 = 0) (hk : off / 32 = k) (hr : off % 32 = r) (hl : k < ss.length) (h16 : r < 16) (hc : cs[k]? = some c) :
    Calls Try.prog 53 #[.pointer (some ⟨bb, 0, none⟩), U off] w fun e w' => e = .returned (.tuple #[PT c, U r, I 0]) ∧ w = w' := by
  have F := Lib.hid (Field_05 off h0 h1)
  have HL := Lib.hid (len_any h)
  have hi := h.hi
  have c0 := h.box.cell 0 rfl
  obtain ⟨cur, a1, a2⟩ := h.arr
  have ck := a1.cell k (a2 k c hc)
  clear h a1 a2 hc
  have r0 : 0 ≤ r := by omega
  have d1 : decide ((ss.length : Int) ≤ (k : Int)) = false := by simp; omega
  have d2 : decide (16 ≤ r) = false := by simp; omega
  have nn0 : (0 : Int) ≤ (k : Int) := by omega
  have nn1 : (k : Int) < (ss.length : Int) := by omega
  go_enter Try.func53, Try.ntmps53
  go_wp2_with (first | (go_at_call 57; refine (F.out _).mono ?_; rintro e w2 ⟨rfl, rfl⟩) | (go_at_call 35; refine HL.out.mono ?_; rintro e w2 ⟨rfl, rfl⟩))
  all_goals exact bodyPost_ret (v := .tuple #[PT c, U r, I 0]) (by simp [results, Try.results53, go_sem]) rfl ⟨rfl, rfl⟩

/-- What a load gives. -/
def bloadB (ss : List CS) (off : Int) : Int × Int := if off % 4 ≠ 0 then (0, 11) else match ss[(off / 32).toNat]? with
  | some s => s.loadB (off % 32)
  | none => (0, 10)

theorem bload_nil (off : Int) (h0 : 0 ≤ off) (h1 : off ≤ 4294967295) (w : World) : Calls Try.prog 32 #[.pointer none, U off] w fun e w' => e = .returned (.tuple #[U 0, I 10]) ∧ w = w' := by
  have F := Lib.hid (find_nil off h0 h1)
  go_enter Try.func32, Try.ntmps32
  go_wp2_with (go_at_call 53; refine (F.out _).mono ?_; rintro e w2 ⟨rfl, rfl⟩)
  go_ret2
  exact ⟨rfl, rfl⟩
theorem bload_any (h : BK w bb ab cap cs ss) (off : Int) (h0 : 0 ≤ off) (h1 : off ≤ 4294967295) :
    Calls Try.prog 32 #[.pointer (some ⟨bb, 0, none⟩), U off] w fun e w' => e = .returned (.tuple #[U (bloadB ss off).1, I (bloadB ss off).2]) ∧ w = w' := by
  unfold bloadB
  by_cases h4 : off % 4 ≠ 0
  · rw [if_pos h4]
    have F := Lib.hid (find_align (bb := bb) off h0 h1 h4 w)
    clear h4
    go_enter Try.func32, Try.ntmps32
    go_wp2_with (go_at_call 53; refine F.out.mono ?_; rintro e w2 ⟨rfl, rfl⟩)
    go_ret2
    exact ⟨rfl, rfl⟩
  rw [if_neg h4]
  have h4' : off % 4 = 0 := by omega
  by_cases hl : (ss.length : Int) ≤ off / 32
  · rw [List.getElem?_eq_none (by omega)]
    have F := Lib.hid (find_bus h off h0 h1 h4' (Or.inl hl))
    clear h4 hl h4'
    go_enter Try.func32, Try.ntmps32
    go_wp2_with (go_at_call 53; refine F.out.mono ?_; rintro e w2 ⟨rfl, rfl⟩)
    go_ret2
    exact ⟨rfl, rfl⟩
  · obtain ⟨c, s, e1, e2, hm, hc, ok, hcell⟩ := h.nth (k := (off / 32).toNat) (by omega)
    rw [e2]
    dsimp only
    by_cases h16 : 16 ≤ off % 32
    · have hv : s.loadB (off % 32) = (0, 10) := by
        unfold CS.loadB
        rw [if_neg (by omega), if_neg (by omega), if_neg (by omega), if_neg (by omega), if_neg (by omega)]
      rw [hv]
      have F := Lib.hid (find_bus h off h0 h1 h4' (Or.inr h16))
      clear h4 hl h4' h16 hcell e1 e2 hc
      go_enter Try.func32, Try.ntmps32
      go_wp2_with (go_at_call 53; refine F.out.mono ?_; rintro e w2 ⟨rfl, rfl⟩)
      go_ret2
      exact ⟨rfl, rfl⟩
    · obtain ⟨r, hr⟩ : ∃ r, off % 32 = r := ⟨_, rfl⟩
      have F := Lib.hid (find_ok h off r (off / 32).toNat c h0 h1 h4' (by omega) hr (by omega) (by omega) e1)
      have LD := Lib.hid (load_any hc r (by omega) (by omega))
      rw [hr]
      clear h4 hl h4' h16 hcell e1 e2 hr h
      go_enter Try.func32, Try.ntmps32
      go_wp2_with (first | (go_at_call 53; refine F.out.mono ?_; rintro e w2 ⟨rfl, rfl⟩) | (go_at_call 18; refine LD.out.mono ?_; rintro e w2 ⟨rfl, rfl⟩))
      go_ret2
      exact ⟨rfl, rfl⟩

/-- What a store leaves, and its error. -/
def bstoreB (ss : List CS) (off v : Int) : List CS × Int := if off % 4 ≠ 0 then (ss, 11) else match ss[(off / 32).toNat]? with
  | some s => (ss.set (off / 32).toNat (s.storeB (off % 32) v).1, (s.storeB (off % 32) v).2)
  | none => (ss, 10)

theorem bstore_nil (off v : Int) (h0 : 0 ≤ off) (h1 : off ≤ 4294967295) (w : World) : Calls Try.prog 28 #[.pointer none, U off, U v] w fun e w' => e = .returned (I 10) ∧ w = w' := by
  have F := Lib.hid (find_nil off h0 h1)
  go_enter Try.func28, Try.ntmps28
  go_wp2_with (go_at_call 53; refine (F.out _).mono ?_; rintro e w2 ⟨rfl, rfl⟩)
  go_ret
  exact ⟨rfl, rfl⟩
theorem bstore_any (h : BK w bb ab cap cs ss) (off v : Int) (h0 : 0 ≤ off) (h1 : off ≤ 4294967295) (v0 : 0 ≤ v) (v1 : v ≤ 4294967295) :
    Calls Try.prog 28 #[.pointer (some ⟨bb, 0, none⟩), U off, U v] w fun e w' => e = .returned (I (bstoreB ss off v).2) ∧ BK w' bb ab cap cs (bstoreB ss off v).1 ∧ Kept w w' cs := by
  have HH := Lib.hid h
  have HK : Hid (Kept w w cs) := Lib.hid (Kept.of_below (Below.refl _ _))
  unfold bstoreB
  by_cases h4 : off % 4 ≠ 0
  · rw [if_pos h4]
    have F := Lib.hid (find_align (bb := bb) off h0 h1 h4 w)
    clear h4 h
    go_enter Try.func28, Try.ntmps28
    go_wp2_with (go_at_call 53; refine F.out.mono ?_; rintro e w2 ⟨rfl, rfl⟩)
    go_ret
    exact ⟨rfl, HH.out, HK.out⟩
  rw [if_neg h4]
  have h4' : off % 4 = 0 := by omega
  by_cases hl : (ss.length : Int) ≤ off / 32
  · rw [List.getElem?_eq_none (by omega)]
    have F := Lib.hid (find_bus h off h0 h1 h4' (Or.inl hl))
    clear h4 hl h4' h
    go_enter Try.func28, Try.ntmps28
    go_wp2_with (go_at_call 53; refine F.out.mono ?_; rintro e w2 ⟨rfl, rfl⟩)
    go_ret
    exact ⟨rfl, HH.out, HK.out⟩
  · obtain ⟨c, s, e1, e2, hm, hc, ok, hcell⟩ := h.nth (k := (off / 32).toNat) (by omega)
    rw [e2]
    dsimp only
    by_cases h16 : 16 ≤ off % 32
    · have hv : s.storeB (off % 32) v = (s, 10) := by
        unfold CS.storeB
        rw [if_neg (by omega), if_neg (by omega), if_neg (by omega), if_neg (by omega), if_neg (by omega)]
      rw [hv]
      have hset : ss.set (off / 32).toNat s = ss := by
        apply List.ext_getElem?
        intro j
        by_cases hj : (off / 32).toNat = j
        · subst hj; rw [List.getElem?_set_self (by omega), e2]
        · rw [List.getElem?_set_ne hj]
      rw [hset]
      have F := Lib.hid (find_bus h off h0 h1 h4' (Or.inr h16))
      clear h4 hl h4' h16 hcell e1 e2 hc hv hset h
      go_enter Try.func28, Try.ntmps28
      go_wp2_with (go_at_call 53; refine F.out.mono ?_; rintro e w2 ⟨rfl, rfl⟩)
      go_ret
      exact ⟨rfl, HH.out, HK.out⟩
    · obtain ⟨r, hr⟩ : ∃ r, off % 32 = r := ⟨_, rfl⟩
      have F := Lib.hid (find_ok h off r (off / 32).toNat c h0 h1 h4' (by omega) hr (by omega) (by omega) e1)
      have LD := Lib.hid (store_any ok hc r v (by omega) (by omega) v0 v1)
      have OK2 := Lib.hid (s.storeB_ok ok r v v0 v1)
      rw [hr]
      have E1 := Lib.hid e1
      have HM := Lib.hid hm
      generalize (off / 32).toNat = k at *
      clear h4 hl h4' h16 hcell e1 e2 hr hc h hm
      go_enter Try.func28, Try.ntmps28
      go_wp2_with (first | (go_at_call 53; refine F.out.mono ?_; rintro e w2 ⟨rfl, rfl⟩) | (go_at_call 20; refine LD.out.mono ?_; rintro e w3 ⟨rfl, T⟩))
      go_ret
      exact ⟨rfl, HH.out.set E1.out T OK2.out, Kept.of_stored T HM.out⟩

/-- A copy of a timer. -/
theorem timer_ok (h : BK w bb ab cap cs ss) (k c : Nat) (s : CS) (hk : k < ss.length) (e1 : cs[k]? = some c) (e2 : ss[k]? = some s) :
    Calls Try.prog 33 #[.pointer (some ⟨bb, 0, none⟩), I (k : Nat)] w fun e w' => e = .returned (PT w.heap.size) ∧ w.alloc (.cells s.cells 67) = w' := by
  have HL := Lib.hid (len_any h)
  have hi := h.hi
  have c0 := h.box.cell 0 rfl
  obtain ⟨cur, a1, a2⟩ := h.arr
  have ck := a1.cell k (a2 k c e1)
  have CP := Lib.hid (copy_any (h.tm k c s e1 e2).1)
  clear h a1 a2 e1 e2
  have d0 : decide ((k : Int) < 0) = false := by simp
  have d1 : decide ((ss.length : Int) ≤ (k : Int)) = false := by simp; omega
  have nn0 : (0 : Int) ≤ (k : Int) := by omega
  have nn1 : (k : Int) < (ss.length : Int) := by omega
  go_enter Try.func33, Try.ntmps33
  go_wp2_with (first | (go_at_call 35; refine HL.out.mono ?_; rintro e w2 ⟨rfl, rfl⟩) | (go_at_call 15; refine CP.out.mono ?_; rintro e w3 ⟨rfl, hw3⟩))
  all_goals (go_ret; exact ⟨rfl, hw3⟩)
theorem timer_low (h : BK w bb ab cap cs ss) : Calls Try.prog 33 #[.pointer (some ⟨bb, 0, none⟩), .int .i64 (-1)] w fun e w' => e = .returned (.pointer none) ∧ w = w' := by
  go_enter Try.func33, Try.ntmps33
  go_wp2
  go_ret
  exact ⟨rfl, rfl⟩
theorem timer_high (h : BK w bb ab cap cs ss) : Calls Try.prog 33 #[.pointer (some ⟨bb, 0, none⟩), I ss.length] w fun e w' => e = .returned (.pointer none) ∧ w = w' := by
  have HL := Lib.hid (len_any h)
  have hi := h.hi
  clear h
  have d0 : decide ((ss.length : Int) < 0) = false := by simp
  have d1 : decide ((ss.length : Int) ≤ (ss.length : Int)) = true := by simp
  go_enter Try.func33, Try.ntmps33
  go_wp2_with (go_at_call 35; refine HL.out.mono ?_; rintro e w2 ⟨rfl, rfl⟩)
  all_goals (go_ret; exact ⟨rfl, rfl⟩)
theorem timer_nil (w : World) : Calls Try.prog 33 #[.pointer none, .int .i64 0] w fun e w' => e = .returned (.pointer none) ∧ w = w' := by
  go_enter Try.func33, Try.ntmps33
  go_wp2_with (go_at_call 35; refine (len_nil _).mono ?_; rintro e w2 ⟨rfl, rfl⟩)
  all_goals (go_ret; exact ⟨rfl, rfl⟩)
theorem bcopy_nil (w : World) : Calls Try.prog 37 #[.pointer none] w fun e w' => e = .returned (.pointer none) ∧ w = w' := by
  go_enter Try.func37, Try.ntmps37
  go_wp2
  go_ret
  exact ⟨rfl, rfl⟩
theorem btick_nil (n : Int) (w : World) : Calls Try.prog 31 #[.pointer none, L n] w fun e w' => e = .returned (.tuple #[]) ∧ w = w' := by
  go_enter Try.func31, Try.ntmps31
  go_wp2_with (go_at_call 54; refine (all_nil _).mono ?_; rintro e w2 ⟨rfl, rfl⟩)
  refine wp_loop_rounds 1 ?_
  rw [rounds_succ]
  go_wp2
  first
    | exact bodyPost_ret (v := .tuple #[]) (by simp [results, go_sem]) rfl ⟨rfl, rfl⟩
    | (go_end0; exact ⟨rfl, rfl⟩)
theorem breset_nil (w : World) : Calls Try.prog 34 #[.pointer none] w fun e w' => e = .returned (.tuple #[]) ∧ w = w' := by
  go_enter Try.func34, Try.ntmps34
  go_wp2_with (go_at_call 54; refine (all_nil _).mono ?_; rintro e w2 ⟨rfl, rfl⟩)
  refine wp_loop_rounds 1 ?_
  rw [rounds_succ]
  go_wp2
  first
    | exact bodyPost_ret (v := .tuple #[]) (by simp [results, go_sem]) rfl ⟨rfl, rfl⟩
    | (go_end0; exact ⟨rfl, rfl⟩)
theorem bleft_nil (w : World) : Calls Try.prog 29 #[.pointer none] w fun e w' => e = .returned (.tuple #[L 18446744073709551615, .int .i64 (-1)]) ∧ w = w' := by
  go_enter Try.func29, Try.ntmps29
  go_wp2_with (go_at_call 54; refine (all_nil _).mono ?_; rintro e w2 ⟨rfl, rfl⟩)
  refine wp_loop_rounds 1 ?_
  rw [rounds_succ]
  go_wp2
  go_ret2
  exact ⟨rfl, rfl⟩
theorem word_nil (f : Nat) (w : World) : Calls Try.prog 55 #[.pointer none, .func (.func f) #[] #[]] w fun e w' => e = .returned (U 0) ∧ w = w' := by
  go_enter Try.func55, Try.ntmps55
  go_wp2_with fail
  go_step3
  go_wp2_with fail
  go_step3
  go_wp2_with (go_at_call 54; refine (all_nil _).mono ?_; rintro e w2 ⟨rfl, rfl⟩)
  refine wp_loop_rounds 1 ?_
  rw [rounds_succ]
  go_wp2
  rw [Exit.noGoto_ret]
  go_ret
  exact ⟨rfl, rfl⟩
theorem bruns_nil (w : World) : Calls Try.prog 30 #[.pointer none] w fun e w' => e = .returned (U 0) ∧ w = w' := by
  go_enter Try.func30, Try.ntmps30
  go_wp2_with (go_at_call 55; refine (word_nil _ _).mono ?_; rintro e w2 ⟨rfl, rfl⟩)
  go_ret
  exact ⟨rfl, rfl⟩
theorem blines_nil (w : World) : Calls Try.prog 36 #[.pointer none] w fun e w' => e = .returned (U 0) ∧ w = w' := by
  go_enter Try.func36, Try.ntmps36
  go_wp2_with (go_at_call 55; refine (word_nil _ _).mono ?_; rintro e w2 ⟨rfl, rfl⟩)
  go_ret
  exact ⟨rfl, rfl⟩
end
end Go.Proofs.Ytfjkfigjenalgaa
