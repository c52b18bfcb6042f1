/- Lemmas for the laws of chapter 30 (civil): contracts of functions of the program, each under the premises that its own statement shows. -/
import Derived.Test.YtajjibfipkijfaaE1
import Derived.Test.YtajjibfipkijfaaD2
import Derived.Laws.BytesArg
set_option linter.unusedSimpArgs false
set_option linter.unusedVariables false
namespace Go.Proofs.Ytajjibfipkijfaa
open Go.RowKit

theorem strOfNums_append (xs ys : List Int) : strOfNums xs ++ strOfNums ys = strOfNums (xs ++ ys) := by
  apply ByteArray.ext
  simp [strOfNums, ByteArray.data_append]

set_option maxHeartbeats 1000000 in
theorem two_any (z : Int) (h0 : 0 ≤ z) (h1 : z ≤ 99) (w : World) :
    Calls Try.prog 30 #[.int .i64 z] w fun e w' => e = .returned (.string (strOfNums (dig2 z))) ∧ Below w.heap.size w w' := by
  have hB := Blk.new w #[.int .u8 (48 + z / 10), .int .u8 (48 + z % 10)] 5
  have hcv := run_convert_bytes_arg (P := Try.prog) (w.alloc (.cells #[.int .u8 (48 + z / 10), .int .u8 (48 + z % 10)] 5)) 55 5 Try.underlying55 Try.underlying5 w.heap.size 0 2 2 (dig2 z) rfl (fun i hi => by
    rcases (by omega : i = 0 ∨ i = 1) with rfl | rfl
    · exact hB.cell 0 rfl
    · exact hB.cell 1 rfl) 9 Try.underlying9
  clear hB
  go_enter Try.func30, Try.ntmps30
  go_wp2
  go_ret
  exact ⟨rfl, (Below.refl _ _).alloc (Nat.le_refl _) _⟩

def textL (y m d h i s : Int) : List Int := dig2 (y / 100) ++ dig2 (y % 100) ++ [45] ++ dig2 m ++ [45] ++ dig2 d ++ [84] ++ dig2 h ++ [58] ++ dig2 i ++ [58] ++ dig2 s

theorem rtext_no (y m d h i s : Int) (hr : rightB y m d h i s = false) (w : World) :
    Calls Try.prog 24 #[.agg #[I y, I m, I d, I h, I i, I s]] w fun e w' => e = .returned (.string ByteArray.empty) ∧ Below w.heap.size w w' := by
  go_enter Try.func24, Try.ntmps24
  go_wp2_with (go_at_call 13; refine (rright_any _ _ _ _ _ _ _).mono ?_; rintro e w2 ⟨rfl, hb2⟩)
  go_ret
  exact ⟨rfl, ((Below.refl _ _).alloc (Nat.le_refl _) _).trans (hb2.mono (by simp))⟩

theorem ret_str {a b : ByteArray} (h : a = b) : Ending.returned (.string a) = .returned (.string b) := by rw [h]

theorem sg_const (n : Int) (b : UInt8) (h : UInt8.ofNat n.toNat = b) : (ByteArray.mk #[b]) = strOfNums [n] := by
  subst h; rfl

set_option maxHeartbeats 2000000 in
theorem rtext_yes (y m d h i s : Int) (hr : rightB y m d h i s = true) (w : World) :
    Calls Try.prog 24 #[.agg #[I y, I m, I d, I h, I i, I s]] w fun e w' => e = .returned (.string (strOfNums (textL y m d h i s))) ∧ Below w.heap.size w w' := by
  obtain ⟨y0, y1, m0, m1, d0, d1, h0, h1, i0, i1, s0, s1⟩ := right_m hr
  have hdm := days_bd y m (by omega) m0 m1
  have hB := Blk.new w #[I y, I m, I d, I h, I i, I s] 29
  go_enter Try.func24, Try.ntmps24
  go_wp2_with (go_at_call 13; refine (rright_any _ _ _ _ _ _ _).mono ?_; rintro e w2 ⟨rfl, hb2⟩; have hB2 := hB.below hb2 hB.lt)
  have c0 : ∀ x : WX w2, x.w.cell? ⟨w.heap.size, 0, none⟩ = some (I y) := fun x => x.cell (hB2.cell 0 rfl)
  have c1 : ∀ x : WX w2, x.w.cell? ⟨w.heap.size, 1, none⟩ = some (I m) := fun x => x.cell (hB2.cell 1 rfl)
  have c2 : ∀ x : WX w2, x.w.cell? ⟨w.heap.size, 2, none⟩ = some (I d) := fun x => x.cell (hB2.cell 2 rfl)
  have c3 : ∀ x : WX w2, x.w.cell? ⟨w.heap.size, 3, none⟩ = some (I h) := fun x => x.cell (hB2.cell 3 rfl)
  have c4 : ∀ x : WX w2, x.w.cell? ⟨w.heap.size, 4, none⟩ = some (I i) := fun x => x.cell (hB2.cell 4 rfl)
  have c5 : ∀ x : WX w2, x.w.cell? ⟨w.heap.size, 5, none⟩ = some (I s) := fun x => x.cell (hB2.cell 5 rfl)
  have hb : Below w.heap.size w w2 := ((Below.refl _ _).alloc (Nat.le_refl _) _).trans (hb2.mono (by simp))
  clear hB hB2
  have hsz : ∀ z : Int, (strOfNums (dig2 z)).size = 2 := fun z => by simp [strOfNums_size, dig2]
  refine wp_region_grown (by kernel_rfl) (by kernel_rfl) ?_
  repeat (go_big_quiet_step ((go_at_call 30; exact WX.of (two_any _ (by omega) (by omega) _))))
  refine wpQuiet_nil ?_
  intro w3 hb3
  clear c0 c1 c2 c3 c4 c5
  go_wp2
  go_ret
  refine ⟨ret_str ?_, hb.trans (hb3.mono hb.size)⟩
  rw [sg_const 45 45 rfl, sg_const 84 84 rfl, sg_const 58 58 rfl]
  simp only [strOfNums_append, textL]
end Go.Proofs.Ytajjibfipkijfaa
