/- Texts and dates, both ways, as plain bytes. Each under the premises that its own statement shows. -/
import Derived.Test.YtajjibfipkijfaaJ0
import Derived.Test.YtajjibfipkijfaaE3
set_option linter.unusedVariables false
set_option linter.unusedSimpArgs false
namespace Go.Proofs.Ytajjibfipkijfaa
open Go.RowKit

/-- A text's bytes. -/
def byteOf (s : ByteArray) (j : Nat) : Int := if h : j < s.size then ((s[j]'h).toNat : Int) else 0
theorem s19_of {s : ByteArray} (h : s.size = 19) : S19 s (byteOf s) := by
  refine ⟨h, fun j => ?_, fun j hj => ?_⟩
  · unfold byteOf
    split
    · rename_i hj
      have := (s[j]'hj).toNat_lt
      omega
    · omega
  · unfold byteOf; rw [dif_pos hj]

/-- A text of bytes that are told. -/
theorem strOfNums_get {xs : List Int} (j : Nat) (hj : j < (strOfNums xs).size) (hx : j < xs.length) (h0 : 0 ≤ xs[j]) (h1 : xs[j] ≤ 255) : (((strOfNums xs)[j]'hj).toNat : Int) = xs[j] := by
  have e : ((strOfNums xs)[j]'hj) = UInt8.ofNat (xs[j]).toNat := by
    show ((strOfNums xs).data[j]'hj) = _
    simp [strOfNums]
  rw [e, UInt8.toNat_ofNat']
  omega

theorem str_ext {s : ByteArray} {xs : List Int} (hs : s.size = xs.length) (h : ∀ j (hj : j < xs.length), byteOf s j = xs[j]) : strOfNums xs = s := by
  apply ByteArray.ext
  apply Array.ext
  · simp [strOfNums]; exact hs.symm
  · intro i h1 h2
    have hi : i < xs.length := by simpa [strOfNums] using h1
    have hb := h i hi
    unfold byteOf at hb
    rw [dif_pos (by omega)] at hb
    have hb' : ((s.data[i]'h2).toNat : Int) = xs[i] := hb
    simp only [strOfNums, List.getElem_toArray, List.getElem_map]
    rw [← hb']
    simp

theorem textL_len (y m d h i s : Int) : (textL y m d h i s).length = 19 := rfl

theorem text_of_date {b : Nat → Int} {s : ByteArray} (hs : s.size = 19) (hb : ∀ j, byteOf s j = b j) (ha : okAll b) (hr : (dateOf b).right = true) :
    strOfNums (textL (dateOf b).y (dateOf b).m (dateOf b).d (dateOf b).h (dateOf b).i (dateOf b).s) = s := by
  have dg : ∀ j, j < 19 → ¬ (j = 4 ∨ j = 7) → ¬ j = 10 → ¬ (j = 13 ∨ j = 16) → DG b j := fun j hj h1 h2 h3 => by
    have := ha j hj
    unfold okAt at this
    rw [if_neg h1, if_neg h2, if_neg h3] at this
    exact this
  have g4 : b 4 = 45 := by have := ha 4 (by decide); unfold okAt at this; rw [if_pos (by decide)] at this; exact this
  have g7 : b 7 = 45 := by have := ha 7 (by decide); unfold okAt at this; rw [if_pos (by decide)] at this; exact this
  have g10 : b 10 = 84 := by have := ha 10 (by decide); unfold okAt at this; rw [if_neg (by decide), if_pos (by decide)] at this; exact this
  have g13 : b 13 = 58 := by have := ha 13 (by decide); unfold okAt at this; rw [if_neg (by decide), if_neg (by decide), if_pos (by decide)] at this; exact this
  have g16 : b 16 = 58 := by have := ha 16 (by decide); unfold okAt at this; rw [if_neg (by decide), if_neg (by decide), if_pos (by decide)] at this; exact this
  obtain ⟨l0, u0⟩ := dg 0 (by decide) (by decide) (by decide) (by decide)
  obtain ⟨l1, u1⟩ := dg 1 (by decide) (by decide) (by decide) (by decide)
  obtain ⟨l2, u2⟩ := dg 2 (by decide) (by decide) (by decide) (by decide)
  obtain ⟨l3, u3⟩ := dg 3 (by decide) (by decide) (by decide) (by decide)
  obtain ⟨l5, u5⟩ := dg 5 (by decide) (by decide) (by decide) (by decide)
  obtain ⟨l6, u6⟩ := dg 6 (by decide) (by decide) (by decide) (by decide)
  obtain ⟨l8, u8⟩ := dg 8 (by decide) (by decide) (by decide) (by decide)
  obtain ⟨l9, u9⟩ := dg 9 (by decide) (by decide) (by decide) (by decide)
  obtain ⟨l11, u11⟩ := dg 11 (by decide) (by decide) (by decide) (by decide)
  obtain ⟨l12, u12⟩ := dg 12 (by decide) (by decide) (by decide) (by decide)
  obtain ⟨l14, u14⟩ := dg 14 (by decide) (by decide) (by decide) (by decide)
  obtain ⟨l15, u15⟩ := dg 15 (by decide) (by decide) (by decide) (by decide)
  obtain ⟨l17, u17⟩ := dg 17 (by decide) (by decide) (by decide) (by decide)
  obtain ⟨l18, u18⟩ := dg 18 (by decide) (by decide) (by decide) (by decide)
  have hd : textL (dateOf b).y (dateOf b).m (dateOf b).d (dateOf b).h (dateOf b).i (dateOf b).s = [b 0, b 1, b 2, b 3, b 4, b 5, b 6, b 7, b 8, b 9, b 10, b 11, b 12, b 13, b 14, b 15, b 16, b 17, b 18] := by
    unfold textL dig2 dateOf
    simp only [List.cons_append, List.nil_append, List.cons.injEq, and_true]
    refine ⟨?_, ?_, ?_, ?_, ?_, ?_, ?_, ?_, ?_, ?_, ?_, ?_, ?_, ?_, ?_, ?_, ?_, ?_, ?_⟩ <;> omega
  rw [hd]
  refine str_ext hs fun j hj => ?_
  rw [hb j]
  have hj' : j < 19 := hj
  obtain rfl | rfl | rfl | rfl | rfl | rfl | rfl | rfl | rfl | rfl | rfl | rfl | rfl | rfl | rfl | rfl | rfl | rfl | rfl : j = 0 ∨ j = 1 ∨ j = 2 ∨ j = 3 ∨ j = 4 ∨ j = 5 ∨ j = 6 ∨ j = 7 ∨ j = 8 ∨ j = 9 ∨ j = 10 ∨ j = 11 ∨ j = 12 ∨ j = 13 ∨ j = 14 ∨ j = 15 ∨ j = 16 ∨ j = 17 ∨ j = 18 := by omega
  all_goals rfl

theorem date_of_text (x : DT) (hr : x.right = true) : ∃ b, S19 (strOfNums (textL x.y x.m x.d x.h x.i x.s)) b ∧ okAll b ∧ dateOf b = x := by
  obtain ⟨y, m, d, h, i, s⟩ := x
  replace hr : rightB y m d h i s = true := hr
  dsimp only
  obtain ⟨y0, y1, m0, m1, d0, d1, h0, h1, i0, i1, s0, s1⟩ := right_m hr
  have hdm := days_bd y m (by omega) m0 m1
  have hz : (strOfNums (textL y m d h i s)).size = 19 := by simp [strOfNums_size, textL, dig2]
  have hb : ∀ j (hj : j < (textL y m d h i s).length), byteOf (strOfNums (textL y m d h i s)) j = (textL y m d h i s)[j] := fun j hj => by
    have hj2 : j < (strOfNums (textL y m d h i s)).size := by rw [hz]; exact hj
    unfold byteOf
    rw [dif_pos hj2]
    have hall : ∀ x ∈ textL y m d h i s, 0 ≤ x ∧ x ≤ 255 := by
      intro x hx
      simp [textL, dig2] at hx
      omega
    have hm := hall _ (List.getElem_mem hj)
    exact strOfNums_get j hj2 hj hm.1 hm.2
  have hb' : ∀ j (hj : j < 19), byteOf (strOfNums (textL y m d h i s)) j = (textL y m d h i s)[j]'hj := fun j hj => hb j hj
  have S := s19_of hz
  clear hb
  generalize strOfNums (textL y m d h i s) = st at *
  have b0 := hb' 0 (by decide)
  have b1 := hb' 1 (by decide)
  have b2 := hb' 2 (by decide)
  have b3 := hb' 3 (by decide)
  have b4 := hb' 4 (by decide)
  have b5 := hb' 5 (by decide)
  have b6 := hb' 6 (by decide)
  have b7 := hb' 7 (by decide)
  have b8 := hb' 8 (by decide)
  have b9 := hb' 9 (by decide)
  have b10 := hb' 10 (by decide)
  have b11 := hb' 11 (by decide)
  have b12 := hb' 12 (by decide)
  have b13 := hb' 13 (by decide)
  have b14 := hb' 14 (by decide)
  have b15 := hb' 15 (by decide)
  have b16 := hb' 16 (by decide)
  have b17 := hb' 17 (by decide)
  have b18 := hb' 18 (by decide)
  simp [textL, dig2] at b0 b1 b2 b3 b4 b5 b6 b7 b8 b9 b10 b11 b12 b13 b14 b15 b16 b17 b18
  refine ⟨byteOf st, S, fun j hj => ?_, ?_⟩
  · obtain rfl | rfl | rfl | rfl | rfl | rfl | rfl | rfl | rfl | rfl | rfl | rfl | rfl | rfl | rfl | rfl | rfl | rfl | rfl : j = 0 ∨ j = 1 ∨ j = 2 ∨ j = 3 ∨ j = 4 ∨ j = 5 ∨ j = 6 ∨ j = 7 ∨ j = 8 ∨ j = 9 ∨ j = 10 ∨ j = 11 ∨ j = 12 ∨ j = 13 ∨ j = 14 ∨ j = 15 ∨ j = 16 ∨ j = 17 ∨ j = 18 := by omega
    all_goals
      unfold okAt
      first
        | (rw [if_pos (by decide)]; assumption)
        | (rw [if_neg (by decide), if_pos (by decide)]; assumption)
        | (rw [if_neg (by decide), if_neg (by decide), if_pos (by decide)]; assumption)
        | (rw [if_neg (by decide), if_neg (by decide), if_neg (by decide)]; unfold DG; omega)
  · unfold dateOf
    rw [b0, b1, b2, b3, b5, b6, b8, b9, b11, b12, b14, b15, b17, b18]
    simp only [DT.mk.injEq]
    refine ⟨?_, ?_, ?_, ?_, ?_, ?_⟩ <;> omega
end Go.Proofs.Ytajjibfipkijfaa
