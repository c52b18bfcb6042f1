/- Lemmas for the laws of chapter 30 (civil): contracts of functions of the program, each under the premises that its own statement shows. -/
import Derived.Test.YtajjibfipkijfaaE2
set_option linter.unusedSimpArgs false
set_option linter.unusedVariables false
namespace Go.Proofs.Ytajjibfipkijfaa
open Go.RowKit

theorem text_no (y m d h i s : Int) (hr : rightB y m d h i s = false) (w : World) :
    Calls Try.prog 21 #[.agg #[I y, I m, I d, I h, I i, I s]] w fun e w' => e = .returned (.string ByteArray.empty) ∧ Below w.heap.size w w' := by
  go_enter Try.func21, Try.ntmps21
  go_wp2_with (go_at_call 12; refine (right_any _ _ _ _ _ _ _).mono ?_; rintro e w2 ⟨rfl, hb2⟩)
  go_ret
  exact ⟨rfl, ((Below.refl _ _).alloc (Nat.le_refl _) _).trans (hb2.mono (by simp))⟩

/-- An append of one constant byte by the function itself, and the store: what it leaves. -/
theorem OutOK.conv {w : World} {ob : Nat} {xs : List Int} {g n cap : Nat} (h : OutOK w ob xs (.slice (some ⟨g, 0, none⟩) n cap)) :
    (convert 55 9 (.slice (some ⟨g, 0, none⟩) n cap)).run Try.prog w = .ok (.string (strOfNums xs)) w := by
  have ho := h.own
  have hl := ho.1
  rcases ho.2 with ⟨h1, _⟩ | ⟨g', cap', cur, h1, h2, h3, h4, h5, h6, h7⟩
  · simp at h1
  · simp only [Value.slice.injEq, Option.some.injEq, Addr.mk.injEq, and_true] at h1
    obtain ⟨rfl, rfl, rfl⟩ := h1
    refine run_convert_bytes_arg (P := Try.prog) w 55 5 Try.underlying55 Try.underlying5 g 0 xs.length cap xs rfl (fun i hi => ?_) 9 Try.underlying9
    have hb : Blk w g cur 5 := h3
    have e : cur.toList[i]? = some (.int .u8 (xs.getD i 0)) := by
      have : (cur.toList.take (xs.length * 1))[i]? = some (.int .u8 (xs.getD i 0)) := by
        rw [h7]; simp [hi]
      rw [List.getElem?_take] at this
      split at this
      · exact this
      · cases this
    rw [Nat.zero_add]
    exact hb.cell i (by simpa using e)

set_option maxHeartbeats 4000000 in
theorem text_yes (y m d h i s : Int) (hr : rightB y m d h i s = true) (w : World) :
    Calls Try.prog 21 #[.agg #[I y, I m, I d, I h, I i, I s]] w fun e w' => e = .returned (.string (strOfNums (textL y m d h i s))) ∧ Below w.heap.size w w' := by
  obtain ⟨y0, y1, m0, m1, d0, d1, h0, h1, i0, i1, s0, s1⟩ := right_m hr
  have hdm := days_bd y m (by omega) m0 m1
  obtain ⟨i5, hi, hz0, hz1, hz2⟩ := info_parts info5
  have hB := Blk.new w #[I y, I m, I d, I h, I i, I s] 24
  have hmf : ∀ (fn : Fn) (first cap : Array Value) (w : World), (Instr.makeFunc fn first cap).run Try.prog w = .ok (.func fn first cap) w := fun _ _ _ _ => rfl
  go_enter Try.func21, Try.ntmps21
  go_wp2_with (first | (go_at_call 12; refine (right_any _ _ _ _ _ _ _).mono ?_; rintro e w2 ⟨rfl, hb2⟩; have hB2 := hB.below hb2 hB.lt; have c0 := hB2.cell 0 rfl; have hlt2 := hB2.lt) | (go_at_call 28; fail))
  have hb2' : Below w.heap.size w w2 := ((Below.refl _ _).alloc (Nat.le_refl _) _).trans (hb2.mono (by simp))
  generalize hob : w2.heap.size = ob at *
  have ho3 : OutOK (w2.alloc (.cells #[.slice none 0 0] 55)) ob [] (.slice none 0 0) := by rw [← hob]; exact out_new w2
  have hs3 : (w2.alloc (.cells #[.slice none 0 0] 55)).heap.size = ob + 1 := by simp [hob]
  have hbl3 : Blk ((w2.alloc (.cells #[.slice none 0 0] 55)).alloc (.cells #[I (y / 100)] 3)) (ob + 1) #[I (y / 100)] 3 := by rw [← hs3]; exact Blk.new _ _ _
  have hB3 : Below w.heap.size w ((w2.alloc (.cells #[.slice none 0 0] 55)).alloc (.cells #[I (y / 100)] 3)) := (hb2'.alloc (by omega) _).alloc (by omega) _
  have D3 : Blk ((w2.alloc (.cells #[.slice none 0 0] 55)).alloc (.cells #[I (y / 100)] 3)) w.heap.size #[I y, I m, I d, I h, I i, I s] 24 := (hB2.alloc _).alloc _
  have Hob := Lib.hid hob; clear hob hs3 hB2 c0 hb2 hb2'
  refine (put_any _ ob (ob + 1) 0 [y / 100] [] (.slice none 0 0) (by simp) (by simp) (fun j hj => by simp at hj; subst hj; simp; omega) hbl3 (ho3.alloc _)).mono ?_
  rintro e w4 ⟨rfl, hb4, v4, ho4⟩
  have B4 : Below w.heap.size w w4 := hB3.trans (hb4.mono (Nat.le_of_lt hlt2))
  have D4 := D3.below hb4 hlt2
  have l4 := ho4.blk.lt
  have m4 : w.heap.size < w4.heap.size := by omega
  have k4 := ho4.blk.cell 0 rfl
  have d40 := D4.cell 0 rfl
  clear ho3 hbl3 hb4
  go_wp2_with ((go_at_call 28; fail))
  refine (put_any _ ob w4.heap.size 0 [y % 100] _ v4 (by simp) (by simp [putK, dig2]) (fun j hj => by simp at hj; subst hj; simp; omega) (Blk.new _ _ _) (ho4.alloc _)).mono ?_
  rintro e w5 ⟨rfl, hb5, v5, ho5⟩
  have hb5' := ((Below.refl ob w4).alloc (by omega) _).trans hb5
  have B5 : Below w.heap.size w w5 := B4.trans (hb5'.mono (Nat.le_of_lt hlt2))
  have D5 := D4.below hb5' hlt2
  have l5 := ho5.blk.lt
  have k5 := ho5.blk.cell 0 rfl
  clear d40 k4 m4 l4 ho4 hb5 hb5'
  generalize hX5 : [] ++ putK 0 [y / 100] [y / 100].length ++ putK 0 [y % 100] [y % 100].length = X5 at *
  have L5 : X5.length ≤ 50 := by rw [← hX5]; simp [putK, dig2]
  have HX5 := Lib.hid hX5; clear hX5
  go_wp2_with (first | (at_builtin; go_must (refine wpList_append_lies _ rfl (.tmp 21) (.tmp 22) 55 rfl (ob + 1) 5 i5 (.int .u8 0) 1 1 Try.underlying55 hi hz0 hz1 hz2 rfl (by omega) v5 X5.length (X5.map (Value.int .u8)) rfl (ho5.alloc (.cells #[.int .u8 45] 5)).own ⟨w5.heap.size, 0, none⟩ 1 1 [.int .u8 45] rfl rfl (cell_one_new _ _ _) ?c26 (by omega) ?c36 ?c46 ?c56 (w5.heap.size + 1) (by simp) ?_); go_must ((case c26 => simp [Value.oneCell'])); go_must ((case c36 => (unfold maxLen; omega))); go_must ((case c46 => omega)); go_must ((case c56 => (simp; omega))); go_must (intro g6 cap6 w6 hown6 hgrow6 _ _); go_must (have hst6 := (ho5.alloc (.cells #[.int .u8 45] 5)).step (ys := [45]) hgrow6 hown6); go_must (have hk6 := (ho5.alloc (.cells #[.int .u8 45] 5)).blk.grown hgrow6 (own_blk_ne (ho5.alloc (.cells #[.int .u8 45] 5)).own (ho5.alloc (.cells #[.int .u8 45] 5)).blk (by decide))); go_must (have k6 := hk6.cell 0 rfl); go_must (have kf6 := hk6.free 0); go_must (have E6 := (D5.alloc (.cells #[.int .u8 45] 5)).grown hgrow6 (own_blk_ne (ho5.alloc (.cells #[.int .u8 45] 5)).own (D5.alloc _) (by decide))); go_must (have e61 := E6.cell 1 rfl); go_must (have e62 := E6.cell 2 rfl); go_must (have l6 := hst6.1.blk.lt); go_must (simp only [World.size_setCell] at l6); go_must (have m6 : w.heap.size < w6.heap.size := by omega); go_must (have q6 := g6); go_must (clear k5 q6)) | (go_at_call 28; fail))
  have H6 := hst6.1
  have S6 := hst6.2.1 ob (Nat.le_refl _)
  have F6 := E6.set_ne 0 (.slice (some ⟨g6, 0, none⟩) (X5.length + 1) cap6) (show ob ≠ w.heap.size by omega)
  have G6 : Below w.heap.size w (w6.setCell ⟨ob, 0, none⟩ (.slice (some ⟨g6, 0, none⟩) (X5.length + 1) cap6)) := B5.trans (((Below.refl w.heap.size w5).alloc (by omega) _).trans (S6.mono (Nat.le_of_lt hlt2)))
  clear e61 e62 k6 kf6 hk6 hst6 hown6 hgrow6 E6 S6
  refine (put_any _ ob w6.heap.size 45 [m, d] _ (.slice (some ⟨g6, 0, none⟩) (X5.length + 1) cap6) (by simp) (by simp; omega) (fun j hj => by simp at hj; rcases (by omega : j = 0 ∨ j = 1 ∨ j = 2) with rfl | rfl | rfl <;> simp at hj ⊢ <;> omega) (by simpa using Blk.new (w6.setCell ⟨ob, 0, none⟩ (.slice (some ⟨g6, 0, none⟩) (X5.length + 1) cap6)) _ _) (H6.alloc _)).mono ?_
  rintro e w7 ⟨rfl, hb7, v7, ho7⟩
  have hb7' := ((Below.refl ob (w6.setCell ⟨ob, 0, none⟩ (.slice (some ⟨g6, 0, none⟩) (X5.length + 1) cap6))).alloc (by simp; omega) _).trans hb7
  have B7 : Below w.heap.size w w7 := G6.trans (hb7'.mono (Nat.le_of_lt hlt2))
  have D7 := F6.below hb7' hlt2
  have l7 := ho7.blk.lt
  have k7 := ho7.blk.cell 0 rfl
  clear hb7 hb7' F6 G6 H6 l6 m6
  generalize hX7 : X5 ++ [45] ++ putK 45 [m, d] [m, d].length = X7 at *
  have L7 : X7.length ≤ 60 := by rw [← hX7]; simp [putK, dig2]; omega
  have HX7 := Lib.hid hX7; clear hX7
  go_wp2_with (first | (at_builtin; go_must (refine wpList_append_lies _ rfl (.tmp 31) (.tmp 32) 55 rfl (ob + 1) 5 i5 (.int .u8 0) 1 1 Try.underlying55 hi hz0 hz1 hz2 rfl (by omega) v7 X7.length (X7.map (Value.int .u8)) rfl (ho7.alloc (.cells #[.int .u8 84] 5)).own ⟨w7.heap.size, 0, none⟩ 1 1 [.int .u8 84] rfl rfl (cell_one_new _ _ _) ?c28 (by omega) ?c38 ?c48 ?c58 (w7.heap.size + 1) (by simp) ?_); go_must ((case c28 => simp [Value.oneCell'])); go_must ((case c38 => (unfold maxLen; omega))); go_must ((case c48 => omega)); go_must ((case c58 => (simp; omega))); go_must (intro g8 cap8 w8 hown8 hgrow8 _ _); go_must (have hst8 := (ho7.alloc (.cells #[.int .u8 84] 5)).step (ys := [84]) hgrow8 hown8); go_must (have hk8 := (ho7.alloc (.cells #[.int .u8 84] 5)).blk.grown hgrow8 (own_blk_ne (ho7.alloc (.cells #[.int .u8 84] 5)).own (ho7.alloc (.cells #[.int .u8 84] 5)).blk (by decide))); go_must (have k8 := hk8.cell 0 rfl); go_must (have kf8 := hk8.free 0); go_must (have E8 := (D7.alloc (.cells #[.int .u8 84] 5)).grown hgrow8 (own_blk_ne (ho7.alloc (.cells #[.int .u8 84] 5)).own (D7.alloc _) (by decide))); go_must (have e83 := E8.cell 3 rfl); go_must (have e84 := E8.cell 4 rfl); go_must (have e85 := E8.cell 5 rfl); go_must (have l8 := hst8.1.blk.lt); go_must (simp only [World.size_setCell] at l8); go_must (have m8 : w.heap.size < w8.heap.size := by omega); go_must (have q8 := g8); go_must (clear k7 q8)) | (go_at_call 28; fail))
  have H8 := hst8.1
  have S8 := hst8.2.1 ob (Nat.le_refl _)
  have F8 := E8.set_ne 0 (.slice (some ⟨g8, 0, none⟩) (X7.length + 1) cap8) (show ob ≠ w.heap.size by omega)
  have G8 : Below w.heap.size w (w8.setCell ⟨ob, 0, none⟩ (.slice (some ⟨g8, 0, none⟩) (X7.length + 1) cap8)) := B7.trans (((Below.refl w.heap.size w7).alloc (by omega) _).trans (S8.mono (Nat.le_of_lt hlt2)))
  clear e83 e84 e85 k8 kf8 hk8 hst8 hown8 hgrow8 E8 S8
  refine (put_any _ ob w8.heap.size 58 [h, i, s] _ (.slice (some ⟨g8, 0, none⟩) (X7.length + 1) cap8) (by simp) (by simp; omega) (fun j hj => by simp at hj; rcases (by omega : j = 0 ∨ j = 1 ∨ j = 2) with rfl | rfl | rfl <;> simp at hj ⊢ <;> omega) (by simpa using Blk.new (w8.setCell ⟨ob, 0, none⟩ (.slice (some ⟨g8, 0, none⟩) (X7.length + 1) cap8)) _ _) (H8.alloc _)).mono ?_
  rintro e w9 ⟨rfl, hb9, v9, ho9⟩
  have hb9' := ((Below.refl ob (w8.setCell ⟨ob, 0, none⟩ (.slice (some ⟨g8, 0, none⟩) (X7.length + 1) cap8))).alloc (by simp; omega) _).trans hb9
  have B9 : Below w.heap.size w w9 := G8.trans (hb9'.mono (Nat.le_of_lt hlt2))
  have D9 := F8.below hb9' hlt2
  have l9 := ho9.blk.lt
  have k9 := ho9.blk.cell 0 rfl
  clear hb9 hb9' F8 G8 H8 l8 m8
  generalize hX9 : X7 ++ [84] ++ putK 58 [h, i, s] [h, i, s].length = X9 at *
  have hXt : X9 = textL y m d h i s := by rw [← hX9, ← HX7.out, ← HX5.out]; simp [putK, textL, dig2]
  clear hX9
  have hex : ∃ g n cap, v9 = .slice (some ⟨g, 0, none⟩) n cap := by
    rcases ho9.own.2 with ⟨_, h2⟩ | ⟨g, cap, cur, h1, _⟩
    · rw [hXt] at h2; simp [textL, dig2] at h2
    · exact ⟨g, _, cap, h1⟩
  obtain ⟨g9, n9, cap9, hv9⟩ := hex
  rw [hv9] at ho9
  have hcv := ho9.conv
  have kk := ho9.blk.cell 0 rfl
  rw [hXt] at hcv
  clear k9 hv9 D9 ho9
  go_wp2
  go_ret
  exact ⟨rfl, B9⟩
end Go.Proofs.Ytajjibfipkijfaa
