/- Lemmas for the laws of chapter 30 (civil): contracts of functions of the program, each under the premises that its own statement shows. -/
import Derived.Test.YtajjibfipkijfaaE3
set_option linter.unusedSimpArgs false
set_option linter.unusedVariables false
namespace Go.Proofs.Ytajjibfipkijfaa
open Go.RowKit

theorem date_k0 : IsDate (0 / 86400) 1970 1 1 := ⟨by decide, by decide, by decide, by decide, by decide, by decide, by decide⟩
theorem date_k1 : IsDate (951782400 / 86400) 2000 2 29 := ⟨by decide, by decide, by decide, by decide, by decide, by decide, by decide⟩

theorem of_k0 (w : World) : Calls Try.prog 7 #[.int .u64 0] w fun e w' => e = .returned (.tuple #[.agg #[I 1970, I 1, I 1, I 0, I 0, I 0], .int .i64 0]) ∧ Below w.heap.size w w' :=
  (of_any 0 1970 1 1 (by decide) (by decide) date_k0 w).mono fun _ _ ⟨h1, h2⟩ => ⟨by rw [h1]; rfl, h2⟩
theorem of_k1 (w : World) : Calls Try.prog 7 #[.int .u64 951782400] w fun e w' => e = .returned (.tuple #[.agg #[I 2000, I 2, I 29, I 0, I 0, I 0], .int .i64 0]) ∧ Below w.heap.size w w' :=
  (of_any 951782400 2000 2 29 (by decide) (by decide) date_k1 w).mono fun _ _ ⟨h1, h2⟩ => ⟨by rw [h1]; rfl, h2⟩
theorem text_k0 (w : World) : Calls Try.prog 21 #[.agg #[I 1970, I 1, I 1, I 0, I 0, I 0]] w fun e w' => e = .returned (.string ⟨#[49, 57, 55, 48, 45, 48, 49, 45, 48, 49, 84, 48, 48, 58, 48, 48, 58, 48, 48]⟩) ∧ Below w.heap.size w w' :=
  (text_yes 1970 1 1 0 0 0 (by decide) w).mono fun _ _ ⟨h1, h2⟩ => ⟨by rw [h1]; exact ret_str (by decide), h2⟩
theorem text_k1 (w : World) : Calls Try.prog 21 #[.agg #[I 2000, I 2, I 29, I 0, I 0, I 0]] w fun e w' => e = .returned (.string ⟨#[50, 48, 48, 48, 45, 48, 50, 45, 50, 57, 84, 48, 48, 58, 48, 48, 58, 48, 48]⟩) ∧ Below w.heap.size w w' :=
  (text_yes 2000 2 29 0 0 0 (by decide) w).mono fun _ _ ⟨h1, h2⟩ => ⟨by rw [h1]; exact ret_str (by decide), h2⟩

set_option maxHeartbeats 1000000 in
theorem known_any (w : World) : Calls Try.prog 19 #[] w fun e w' => e = .returned (.bool true) ∧ Below w.heap.size w w' := by
  go_enter Try.func19, Try.ntmps19
  go_wp2_with fail
  refine (of_k0 w).mono ?_
  rintro e w1 ⟨rfl, hb1⟩
  go_wp2_with fail
  refine (of_k1 _).mono ?_
  rintro e w2 ⟨rfl, hb2⟩
  have D2 : Blk w2 w1.heap.size #[I 1970, I 1, I 1, I 0, I 0, I 0] 24 := (Blk.new w1 _ _).below hb2 (by simp)
  have B2 : Below w.heap.size w w2 := (hb1.alloc hb1.size _).trans (hb2.mono (by have := hb1.size; simp; omega))
  have d0 := D2.cell 0 rfl
  have d1 := D2.cell 1 rfl
  have d2 := D2.cell 2 rfl
  have d3 := D2.cell 3 rfl
  have d4 := D2.cell 4 rfl
  have d5 := D2.cell 5 rfl
  have l2 := D2.lt
  go_wp2_with fail
  refine (text_k0 _).mono ?_
  rintro e w3 ⟨rfl, hb3⟩
  have E3 : Blk w3 w2.heap.size #[I 2000, I 2, I 29, I 0, I 0, I 0] 24 := (Blk.new w2 _ _).below hb3 (by simp)
  have B3 : Below w.heap.size w w3 := (B2.alloc B2.size _).trans (hb3.mono (by have := B2.size; simp; omega))
  have f0 := E3.cell 0 rfl
  have f1 := E3.cell 1 rfl
  have f2 := E3.cell 2 rfl
  have f3 := E3.cell 3 rfl
  have f4 := E3.cell 4 rfl
  have f5 := E3.cell 5 rfl
  clear d0 d1 d2 d3 d4 d5 l2
  go_wp2_with (first | (go_at_call 18; refine (weekday_any _ (by omega) (by omega) _).mono ?_; rintro e w4 ⟨rfl, rfl⟩) | (go_at_call 21; refine (text_k1 _).mono ?_; rintro e w5 ⟨rfl, hb5⟩))
  go_ret
  exact ⟨rfl, B3.trans (hb5.mono B3.size)⟩

def lexB : List Int → List Int → Bool
  | x :: xs, y :: ys => if x = y then lexB xs ys else decide (x < y)
  | _, _ => false

def RelL (w : World) (xs ys : List Int) (x y : Array Value) (k : Nat) (i : Value) (wr : World) : Prop :=
  Below w.heap.size w wr ∧ Blk wr (w.heap.size + 1 + 1) x 28 ∧ Blk wr (w.heap.size + 1 + 1 + 1) y 28 ∧ ∃ q : Nat, q ≤ 6 ∧ 6 - q = k ∧ i = I q ∧ lexB (xs.drop q) (ys.drop q) = lexB xs ys

theorem drop_getD (xs : List Int) (q : Nat) (h : q < xs.length) : xs.drop q = xs.getD q 0 :: xs.drop (q + 1) := by
  rw [List.drop_eq_getElem_cons h]; simp [h]

set_option maxHeartbeats 2000000 in
theorem less_l (w : World) (xs ys : List Int) (x0 x1 x2 x3 x4 x5 y0 y1 y2 y3 y4 y5 : Int) (hx : xs = [x0, x1, x2, x3, x4, x5]) (hy : ys = [y0, y1, y2, y3, y4, y5]) :
    Calls Try.prog 20 #[.agg #[I x0, I x1, I x2, I x3, I x4, I x5], .agg #[I y0, I y1, I y2, I y3, I y4, I y5]] w fun e w' => e = .returned (.bool (lexB xs ys)) ∧ Below w.heap.size w w' := by
  have hmain : ∀ w0 : World, Blk w0 (w.heap.size + 1 + 1) #[I x0, I x1, I x2, I x3, I x4, I x5] 28 → Blk w0 (w.heap.size + 1 + 1 + 1) #[I y0, I y1, I y2, I y3, I y4, I y5] 28 →
     ∀ q : Nat, q < 6 → (∀ x : WX w0, x.w.cell? ⟨w.heap.size + 1 + 1, q, none⟩ = some (I (xs.getD q 0))) ∧ (∀ x : WX w0, x.w.cell? ⟨w.heap.size + 1 + 1 + 1, q, none⟩ = some (I (ys.getD q 0))) := by
    intro w0 h1 h2 q hq
    subst hx hy
    refine ⟨fun x => x.cell (h1.cell q ?_), fun x => x.cell (h2.cell q ?_)⟩
    all_goals rcases (by omega : q = 0 ∨ q = 1 ∨ q = 2 ∨ q = 3 ∨ q = 4 ∨ q = 5) with rfl | rfl | rfl | rfl | rfl | rfl <;> rfl
  have hlx : xs.length = 6 := by rw [hx]; rfl
  have hly : ys.length = 6 := by rw [hy]; rfl
  have Hm := Lib.hid hmain; clear hmain
  clear hx hy
  have Hlx := Lib.hid hlx; have Hly := Lib.hid hly; clear hlx hly
  go_enter Try.func20, Try.ntmps20
  go_wp2_with fail
  go_loopg [34] (6) (fun k i wr => RelL w xs ys #[I x0, I x1, I x2, I x3, I x4, I x5] #[I y0, I y1, I y2, I y3, I y4, I y5] k i wr)
  case atStart =>
    refine ⟨((((Below.refl _ _).alloc (Nat.le_refl _) _).alloc (by simp) _).alloc (by simp; omega) _).alloc (by simp; omega) _, ?_, ?_, 0, by omega, rfl, rfl, rfl⟩
    · exact Blk.alloc (by simpa using Blk.new ((w.alloc _).alloc _) #[I x0, I x1, I x2, I x3, I x4, I x5] 28) _
    · simpa using Blk.new (((w.alloc _).alloc _).alloc _) #[I y0, I y1, I y2, I y3, I y4, I y5] 28
  case round =>
    obtain ⟨hb, hBx, hBy, q, hq, hqk, rfl, hlex⟩ := hrel
    by_cases hlt : q < 6
    · obtain ⟨cx, cy⟩ := Hm.out wr hBx hBy q hlt
      have hdx := drop_getD xs q (by rw [Hlx.out]; exact hlt)
      have hdy := drop_getD ys q (by rw [Hly.out]; exact hlt)
      rw [hdx, hdy] at hlex
      clear hdx hdy
      generalize xs.getD q 0 = a at *
      generalize ys.getD q 0 = b at *
      have hz0 : (0 : Int) ≤ (q : Int) := by omega
      have hz6 : (q : Int) < 6 := by omega
      by_cases hab : a = b
      · subst hab
        have hl2 : lexB (xs.drop (q + 1)) (ys.drop (q + 1)) = lexB xs ys := by rw [← hlex, lexB, if_pos rfl]
        have HL := Lib.hid hl2; clear hl2 hlex
        go_wp2_with fail
        refine wp_region_grown (by kernel_rfl) (by kernel_rfl) ?_
        repeat (go_big_quiet_step (fail))
        refine wpQuiet_nil ?_
        intro w2 hb2
        clear cx cy
        go_wp2
        go_roundg (6 - (q + 1))
        case measure => omega
        case rel => exact ⟨hb.trans (hb2.mono hb.size), hBx.below hb2 hBx.lt, hBy.below hb2 hBy.lt, q + 1, by omega, rfl, by go_num, HL.out⟩
      · have hl2 : lexB xs ys = decide (a < b) := by rw [← hlex, lexB, if_neg hab]
        have hne : (a != b) = true := by simp [hab]
        have HL := Lib.hid hl2; clear hl2 hlex hab
        go_wp2_with fail
        refine wp_region_grown (by kernel_rfl) (by kernel_rfl) ?_
        repeat (go_big_quiet_step (fail))
        refine wpQuiet_nil ?_
        intro w2 hb2
        have cx2 : ∀ x : WX w2, x.w.cell? ⟨w.heap.size + 1 + 1, q, none⟩ = some (I a) := fun x => cx ⟨x.w, hb2.trans (x.h.mono hb2.size)⟩
        have cy2 : ∀ x : WX w2, x.w.cell? ⟨w.heap.size + 1 + 1 + 1, q, none⟩ = some (I b) := fun x => cy ⟨x.w, hb2.trans (x.h.mono hb2.size)⟩
        have hbb := hb.trans (hb2.mono hb.size)
        clear cx cy hBx hBy
        go_wp2_with fail
        refine wp_region_grown (by kernel_rfl) (by kernel_rfl) ?_
        repeat (go_big_quiet_step (fail))
        refine wpQuiet_nil ?_
        intro w3 hb3
        go_wp2
        go_ret
        exact ⟨ret_bool HL.out.symm, hbb.trans (hb3.mono hbb.size)⟩
    · obtain rfl : q = 6 := by omega
      have h6 : lexB xs ys = false := by
        rw [← hlex, List.drop_of_length_le (by rw [Hlx.out]; omega)]; simp [lexB]
      clear hlex
      go_wp2
      go_ret
      exact ⟨ret_bool h6.symm, hb⟩

theorem less_any (x0 x1 x2 x3 x4 x5 y0 y1 y2 y3 y4 y5 : Int) (w : World) :
    Calls Try.prog 20 #[.agg #[I x0, I x1, I x2, I x3, I x4, I x5], .agg #[I y0, I y1, I y2, I y3, I y4, I y5]] w fun e w' => e = .returned (.bool (lexB [x0, x1, x2, x3, x4, x5] [y0, y1, y2, y3, y4, y5])) ∧ Below w.heap.size w w' :=
  less_l w _ _ x0 x1 x2 x3 x4 x5 y0 y1 y2 y3 y4 y5 rfl rfl
end Go.Proofs.Ytajjibfipkijfaa
