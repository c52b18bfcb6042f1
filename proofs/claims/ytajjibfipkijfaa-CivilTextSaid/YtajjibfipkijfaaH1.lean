/- Seconds and dates, both ways, as the program and the document tell them; '==' on the document's dates. Each under the premises that its own statement shows. -/
import Derived.Test.YtajjibfipkijfaaG1
import Derived.Laws.StructEq
set_option linter.unusedSimpArgs false
namespace Go.Proofs.Ytajjibfipkijfaa
open Go.RowKit
set_option linter.unusedVariables false

/-- A date, as six cells. -/
structure DT where
  y : Int
  m : Int
  d : Int
  h : Int
  i : Int
  s : Int
abbrev DT.cs (x : DT) : Array Value := #[I x.y, I x.m, I x.d, I x.h, I x.i, I x.s]
def DT.right (x : DT) : Bool := rightB x.y x.m x.d x.h x.i x.s
def DT.sec (x : DT) : Int := secB x.y x.m x.d x.h x.i x.s
def DT.zero : DT := ⟨0, 0, 0, 0, 0, 0⟩

theorem date_right {n y m d h i s : Int} (hd : IsDate n y m d) (h0 : 0 ≤ h) (h1 : h ≤ 23) (i0 : 0 ≤ i) (i1 : i ≤ 59) (s0 : 0 ≤ s) (s1 : s ≤ 59) : rightB y m d h i s = true := by
  have := hd.y0; have := hd.y1; have := hd.d0; have := hd.d1
  simp [rightB, withinB]; omega
theorem right_date {y m d h i s : Int} (hr : rightB y m d h i s = true) : IsDate (secB y m d h i s / 86400) y m d ∧ secB y m d h i s % 86400 / 3600 = h ∧ secB y m d h i s % 3600 / 60 = i ∧ secB y m d h i s % 60 = s ∧ 0 ≤ secB y m d h i s ∧ secB y m d h i s ≤ 253402300799 := by
  obtain ⟨y0, y1, m0, m1, d0, d1, h0, h1, i0, i1, s0, s1⟩ := right_m hr
  have hd : IsDate (aheadB y + cumB y m + d - 1) y m d := ⟨y0, y1, m0, m1, d0, d1, rfl⟩
  have n0 := hd.n0
  have n1 := hd.n1
  have e : secB y m d h i s / 86400 = aheadB y + cumB y m + d - 1 := by unfold secB; omega
  refine ⟨by rw [e]; exact hd, ?_, ?_, ?_, ?_, ?_⟩
  all_goals (unfold secB; omega)

theorem of_both (S : Int) (h0 : 0 ≤ S) (h1 : S ≤ 18446744073709551615) : ∃ (x : DT) (e : Int), (∀ w, Calls Try.prog 7 #[.int .u64 S] w fun r w' => r = .returned (.tuple #[.agg x.cs, .int .i64 e]) ∧ Below w.heap.size w w') ∧
    (∀ w, Calls Try.prog 8 #[.int .u64 S] w fun r w' => r = .returned (.tuple #[.agg x.cs, .int .i64 e]) ∧ Below w.heap.size w w') ∧
    ((e = 0 ∧ S ≤ 253402300799 ∧ x.right = true ∧ x.sec = S) ∨ (e = 5 ∧ 253402300799 < S)) := by
  by_cases hS : S ≤ 253402300799
  · obtain ⟨y, m, d, hd⟩ := date_of (S / 86400) (by omega) (by omega)
    have hB : ∀ w, Calls Try.prog 8 #[.int .u64 S] w fun r w' => r = .returned (.tuple #[.agg #[I y, I m, I d, I (S % 86400 / 3600), I (S % 3600 / 60), I (S % 60)], .int .i64 0]) ∧ Below w.heap.size w w' := fun w => by
      have := rof_any S y m d h0 hS hd w
      rw [show S % 86400 / 60 % 60 = S % 3600 / 60 by omega] at this
      exact this
    have hr : rightB y m d (S % 86400 / 3600) (S % 3600 / 60) (S % 60) = true := date_right hd (by omega) (by omega) (by omega) (by omega) (by omega) (by omega)
    have hs : secB y m d (S % 86400 / 3600) (S % 3600 / 60) (S % 60) = S := by
      have := hd.num
      unfold secB
      omega
    exact ⟨⟨y, m, d, S % 86400 / 3600, S % 3600 / 60, S % 60⟩, 0, fun w => of_any S y m d h0 hS hd w, hB, Or.inl ⟨rfl, hS, hr, hs⟩⟩
  · exact ⟨DT.zero, 5, fun w => of_no S (by omega) h1 w, fun w => rof_no S (by omega) h1 w, Or.inr ⟨rfl, by omega⟩⟩

theorem sec_both (x : DT) : ∃ (n f : Int), (∀ w, Calls Try.prog 9 #[.agg x.cs] w fun r w' => r = .returned (.tuple #[.int .u64 n, .int .i64 f]) ∧ Below w.heap.size w w') ∧
    (∀ w, Calls Try.prog 10 #[.agg x.cs] w fun r w' => r = .returned (.tuple #[.int .u64 n, .int .i64 f]) ∧ Below w.heap.size w w') ∧
    ((f = 0 ∧ x.right = true ∧ n = x.sec) ∨ (f = 5 ∧ n = 0 ∧ x.right = false)) := by
  cases hr : x.right
  · exact ⟨0, 5, fun w => sec_no _ _ _ _ _ _ hr w, fun w => rsec_no _ _ _ _ _ _ hr w, Or.inr ⟨rfl, rfl, rfl⟩⟩
  · exact ⟨x.sec, 0, fun w => sec_yes _ _ _ _ _ _ hr w, fun w => rsec_yes _ _ _ _ _ _ hr w, Or.inl ⟨rfl, rfl, rfl⟩⟩

/-- The date of a date's seconds is that date. -/
theorem of_back (x : DT) (hr : x.right = true) (w : World) : Calls Try.prog 7 #[.int .u64 x.sec] w fun r w' => r = .returned (.tuple #[.agg x.cs, .int .i64 0]) ∧ Below w.heap.size w w' := by
  obtain ⟨y, m, d, h, i, s⟩ := x
  obtain ⟨hd, e1, e2, e3, n0, n1⟩ := right_date hr
  have := of_any (secB y m d h i s) y m d n0 n1 hd w
  rw [e1, e2, e3] at this
  exact this
/-- The seconds of a date of seconds are those. -/
theorem sec_back (x : DT) (S : Int) (hr : x.right = true) (hS : x.sec = S) (w : World) : Calls Try.prog 9 #[.agg x.cs] w fun r w' => r = .returned (.tuple #[.int .u64 S, .int .i64 0]) ∧ Below w.heap.size w w' := by
  subst hS; exact sec_yes _ _ _ _ _ _ hr w

theorem all_range_ints : ∀ (xs ys : List Int), xs.length = ys.length → ((List.range xs.length).all fun i => xs.getD i 0 == ys.getD i 0) = (xs == ys)
  | [], [], _ => rfl
  | x :: xs, y :: ys, h => by
    have ih := all_range_ints xs ys (by simpa using h)
    rw [List.length_cons, List.range_succ_eq_map, List.all_cons, List.all_map]
    simp only [List.getD_cons_zero, Function.comp_def, List.getD_cons_succ, ih]
    simp [List.cons_beq_cons]
  | [], _ :: _, h => by simp at h
  | _ :: _, [], h => by simp at h

theorem run_equalIn_ints {P : Program} (w : World) (k : IntKind) (d : Nat) (t e : TypeId) (n : Nat) (ht : P.underlying t = some (.array n e)) (he : P.underlying e = some (.int k)) (hsz : ∀ w, (sizeOf e).run P w = .ok 1 w)
    (xs ys : List Int) (hx : xs.length = n) (hy : ys.length = n) :
    (Op.equalIn (d + 2) t (.agg (xs.map (Value.int k)).toArray) (.agg (ys.map (Value.int k)).toArray)).run P w = .ok (xs == ys) w := by
  rw [← all_range_ints xs ys (hx.trans hy.symm), hx, List.range_eq_range', Op.equalIn]
  simp only [Sem.run_bind, run_underlying ht, Result.andThen_ok, hsz, Std.Legacy.Range.forIn_eq_forIn_range', Std.Legacy.Range.size, Nat.sub_zero, Nat.add_sub_cancel, Nat.div_one]
  have hl : ∀ i ∈ List.range' 0 n 1, i < n := fun i hi => by simpa using (List.mem_range'_1.1 hi).2
  generalize List.range' 0 n 1 = l at hl ⊢
  induction l with
  | nil => simp
  | cons i l ih =>
    have hi : i < n := hl i (by simp)
    have px : (part e (xs.map (Value.int k)).toArray (i * 1)).run P w = .ok (.int k (xs.getD i 0)) w := by
      simp [part, isAgg, run_underlying he, List.getD, List.getElem?_eq_getElem (show i < xs.length by omega)]
    have py : (part e (ys.map (Value.int k)).toArray (i * 1)).run P w = .ok (.int k (ys.getD i 0)) w := by
      simp [part, isAgg, run_underlying he, List.getD, List.getElem?_eq_getElem (show i < ys.length by omega)]
    have pe : (Op.equalIn (d + 1) e (.int k (xs.getD i 0)) (.int k (ys.getD i 0))).run P w = .ok (xs.getD i 0 == ys.getD i 0) w :=
      run_equalIn_int w d e k k _ _ he
    simp only [List.forIn_cons, Sem.run_bind, px, py, pe, Result.andThen_ok, List.all_cons]
    cases hb : (xs.getD i 0 == ys.getD i 0)
    · simp
    · simp only [Bool.not_true, Bool.false_eq_true, if_false, Sem.run_pure, Result.andThen_ok, Bool.true_and]
      exact ih fun j hj => hl j (by simp [hj])

theorem size3 (w : World) : (sizeOf 3).run Try.prog w = .ok 1 w := by kernel_rfl
theorem eq_dates (x : DT) (w : World) : (Op.equalIn 10000 29 (.agg x.cs) (.agg x.cs)).run Try.prog w = .ok true w := by
  have := run_equalIn_ints w .i64 9998 29 3 6 Try.underlying29 Try.underlying3 size3 [x.y, x.m, x.d, x.h, x.i, x.s] [x.y, x.m, x.d, x.h, x.i, x.s] rfl rfl
  rw [show ([x.y, x.m, x.d, x.h, x.i, x.s] == [x.y, x.m, x.d, x.h, x.i, x.s]) = true by simp] at this
  exact this
end Go.Proofs.Ytajjibfipkijfaa
