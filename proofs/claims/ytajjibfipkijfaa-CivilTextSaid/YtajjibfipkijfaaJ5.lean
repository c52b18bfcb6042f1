/- The walk of the law CivilText. Its conditions: those that its statement shows. -/
import Derived.Test.YtajjibfipkijfaaJ2
import Derived.Test.YtajjibfipkijfaaJ3
import Derived.Test.YtajjibfipkijfaaJ4
import Derived.Test.YtajjibfipkijfaaH6
import Derived.Deep.CutRange
import Derived.Deep.DeepCutAuto
set_option linter.unusedVariables false
set_option linter.unusedSimpArgs false
namespace Go.Proofs.Ytajjibfipkijfaa
open Go.RowKit

theorem parse_both (s : ByteArray) : ∃ (r : DT) (e : Int), (∀ w, Calls Try.prog 22 #[.string s] w fun x w' => x = .returned (.tuple #[.agg r.cs, .int .i64 e]) ∧ Below w.heap.size w w') ∧
    (∀ w, Calls Try.prog 23 #[.string s] w fun x w' => x = .returned (.tuple #[.agg r.cs, .int .i64 e]) ∧ Below w.heap.size w w') ∧
    ((e = 0 ∧ r.right = true ∧ strOfNums (textL r.y r.m r.d r.h r.i r.s) = s) ∨ e ≠ 0) := by
  by_cases hs : s.size = 19
  · have S := s19_of hs
    have rd : (b4 : byteOf s 4 = 45 ∧ byteOf s 7 = 45 ∧ byteOf s 10 = 84 ∧ byteOf s 13 = 58 ∧ byteOf s 16 = 58) → ∀ r e, Res (byteOf s) r e → ∀ w, Calls Try.prog 23 #[.string s] w fun x w' => x = .returned (.tuple #[.agg r.cs, .int .i64 e]) ∧ Below w.heap.size w w' := fun g r e hr w => rparse_walk S g.1 g.2.1 g.2.2.1 g.2.2.2.1 g.2.2.2.2 r e hr w
    have seps : okAll (byteOf s) → (byteOf s 4 = 45 ∧ byteOf s 7 = 45 ∧ byteOf s 10 = 84 ∧ byteOf s 13 = 58 ∧ byteOf s 16 = 58) := fun ha => by
      have a4 := ha 4 (by decide); have a7 := ha 7 (by decide); have a10 := ha 10 (by decide); have a13 := ha 13 (by decide); have a16 := ha 16 (by decide)
      unfold okAt at a4 a7 a10 a13 a16
      rw [if_pos (by decide)] at a4 a7
      rw [if_neg (by decide), if_pos (by decide)] at a10
      rw [if_neg (by decide), if_neg (by decide), if_pos (by decide)] at a13 a16
      exact ⟨a4, a7, a10, a13, a16⟩
    by_cases ha : okAll (byteOf s)
    · cases hr : (dateOf (byteOf s)).right
      · have R : Res (byteOf s) DT.zero 5 := ⟨fun h => absurd ha h, fun _ _ => ⟨rfl, rfl⟩, fun _ h => (by rw [hr] at h; cases h)⟩
        exact ⟨_, _, fun w => parse_walk S _ _ R w, fun w => rd (seps ha) _ _ R w, Or.inr (by decide)⟩
      · have R : Res (byteOf s) (dateOf (byteOf s)) 0 := ⟨fun h => absurd ha h, fun _ h => (by rw [hr] at h; cases h), fun _ _ => ⟨rfl, rfl⟩⟩
        exact ⟨_, _, fun w => parse_walk S _ _ R w, fun w => rd (seps ha) _ _ R w, Or.inl ⟨rfl, hr, text_of_date hs (fun _ => rfl) ha hr⟩⟩
    · have R : Res (byteOf s) DT.zero 3 := ⟨fun _ => ⟨rfl, rfl⟩, fun h => absurd h ha, fun h => absurd h ha⟩
      refine ⟨_, _, fun w => parse_walk S _ _ R w, fun w => ?_, Or.inr (by decide)⟩
      by_cases hg : byteOf s 4 = 45 ∧ byteOf s 7 = 45 ∧ byteOf s 10 = 84 ∧ byteOf s 13 = 58 ∧ byteOf s 16 = 58
      · exact rd hg _ _ R w
      · exact rparse_sep S hg w
  · exact ⟨DT.zero, 3, fun w => parse_len hs w, fun w => rparse_len hs w, Or.inr (by decide)⟩

theorem text_both (x : DT) : ∃ t : ByteArray, (∀ w, Calls Try.prog 21 #[.agg x.cs] w fun e w' => e = .returned (.string t) ∧ Below w.heap.size w w') ∧ (∀ w, Calls Try.prog 24 #[.agg x.cs] w fun e w' => e = .returned (.string t) ∧ Below w.heap.size w w') ∧
    ∃ (y : DT) (f : Int), (∀ w, Calls Try.prog 22 #[.string t] w fun e w' => e = .returned (.tuple #[.agg y.cs, .int .i64 f]) ∧ Below w.heap.size w w') ∧ ((f = 0 ∧ x.right = true ∧ y = x) ∨ (f = 3 ∧ x.right = false)) := by
  cases hr : x.right
  · exact ⟨ByteArray.empty, fun w => text_no _ _ _ _ _ _ hr w, fun w => rtext_no _ _ _ _ _ _ hr w, DT.zero, 3, fun w => parse_len (by decide) w, Or.inr ⟨rfl, rfl⟩⟩
  · obtain ⟨b, S, ha, hd⟩ := date_of_text x hr
    have R : Res b x 0 := ⟨fun h => absurd ha h, fun _ h => (by rw [hd, hr] at h; cases h), fun _ _ => ⟨hd.symm, rfl⟩⟩
    exact ⟨_, fun w => text_yes _ _ _ _ _ _ hr w, fun w => rtext_yes _ _ _ _ _ _ hr w, x, 0, fun w => parse_walk S x 0 R w, Or.inl ⟨rfl, rfl, rfl⟩⟩

theorem right_no (y m d h i s : Int) (hr : rightB y m d h i s = false) (w : World) :
    Calls Try.prog 12 #[.agg #[I y, I m, I d, I h, I i, I s]] w fun e w' => e = .returned (.bool false) ∧ Below w.heap.size w w' := by
  have := right_any y m d h i s w
  rw [hr] at this
  exact this

def SomeStr (w0 : World) (c : Value) (wx : World) : Prop := ∃ u : ByteArray, c = .string u ∧ wx = w0

set_option maxRecDepth 100000 in
set_option maxHeartbeats 4000000 in
theorem text_walk (dt : DT) (str : ByteArray) (hsz : str.size ≤ 140737488351232) (w : World) :
    Calls Try.prog 6 #[.agg dt.cs, .string str] w fun e w' => e = .returned (.bool true) ∧ Below w.heap.size w w' := by
  obtain ⟨t, tA, tB, y, f, pT, hT⟩ := text_both dt
  obtain ⟨yr, hyr⟩ : ∃ q, Hid (dt.right = q) := ⟨_, Lib.hid rfl⟩
  obtain ⟨y', m, d, h, i, s⟩ := dt
  have TA := Lib.hid tA; have TB := Lib.hid tB; have PT := Lib.hid pT; have HT := Lib.hid hT
  clear tA tB pT hT
  have D1 := Lib.hid (Blk.new w #[I y', I m, I d, I h, I i, I s] 24)
  have B1 := Lib.hid ((Below.refl w.heap.size w).alloc (Nat.le_refl _) (.cells #[I y', I m, I d, I h, I i, I s] 24))
  go_enter Try.func6, Try.ntmps6
  go_upto_region 1 with fail
  go_cut [1] (fun c wx => SomeStr (w.alloc (.cells #[I y', I m, I d, I h, I i, I s] 24)) c wx)
  case first =>
    go_wp2_with fail
    all_goals (go_meet; exact ⟨_, rfl, rfl⟩)
  case rest =>
    obtain ⟨u, rfl, hwc⟩ := hcut
    obtain ⟨⟨r0, r1, r2, r3, r4, r5⟩, er, pA, pB, hP⟩ := parse_both u
    have PA := Lib.hid pA; have PB := Lib.hid pB; have HP := Lib.hid hP
    clear pA pB hP
    have D := D1.out
    have B := B1.out
    rw [← hwc] at D B
    clear hwc D1 B1
    have p0 := D.cell 0 rfl; have p1 := D.cell 1 rfl; have p2 := D.cell 2 rfl; have p3 := D.cell 3 rfl; have p4 := D.cell 4 rfl; have p5 := D.cell 5 rfl
    go_wp2_with ((go_at_call 21; fail))
    clear p0 p1 p2 p3 p4 p5
    refine (TA.out _).mono ?_
    rintro e w2 ⟨rfl, hb2⟩
    replace D := D.below hb2 D.lt; replace B := B.trans (hb2.mono B.size)
    clear hb2
    go_wp2_with ((go_at_call 22; fail))
    refine (PA.out _).mono ?_
    rintro e w3 ⟨rfl, hb3⟩
    replace D := D.below hb3 D.lt; replace B := B.trans (hb3.mono B.size)
    clear hb3
    have X := Blk.new w3 #[I r0, I r1, I r2, I r3, I r4, I r5] 24
    replace D := D.alloc (.cells #[I r0, I r1, I r2, I r3, I r4, I r5] 24)
    replace B := B.alloc B.size (.cells #[I r0, I r1, I r2, I r3, I r4, I r5] 24)
    go_wp2_with ((go_at_call 23; fail))
    refine (PB.out _).mono ?_
    rintro e w4 ⟨rfl, hb4⟩
    replace D := D.below hb4 D.lt; replace X := X.below hb4 X.lt; replace B := B.trans (hb4.mono B.size)
    clear hb4
    generalize w3.heap.size = g1 at *
    have Y := Blk.new w4 #[I r0, I r1, I r2, I r3, I r4, I r5] 29
    replace D := D.alloc (.cells #[I r0, I r1, I r2, I r3, I r4, I r5] 29)
    replace X := X.alloc (.cells #[I r0, I r1, I r2, I r3, I r4, I r5] 29)
    replace B := B.alloc B.size (.cells #[I r0, I r1, I r2, I r3, I r4, I r5] 29)
    go_upto_region 5 with fail
    change Code.wp _ _ _ _ (w4.alloc (.cells #[I r0, I r1, I r2, I r3, I r4, I r5] 29))
    generalize w4.alloc (.cells #[I r0, I r1, I r2, I r3, I r4, I r5] 29) = w5 at *
    generalize w4.heap.size = g2 at *
    have p0 := D.wx 0 rfl; have p1 := D.wx 1 rfl; have p2 := D.wx 2 rfl; have p3 := D.wx 3 rfl; have p4 := D.wx 4 rfl; have p5 := D.wx 5 rfl; have q0 := X.wx 0 rfl; have q1 := X.wx 1 rfl; have q2 := X.wx 2 rfl; have q3 := X.wx 3 rfl; have q4 := X.wx 4 rfl; have q5 := X.wx 5 rfl; have k0 := Y.wx 0 rfl; have k1 := Y.wx 1 rfl; have k2 := Y.wx 2 rfl; have k3 := Y.wx 3 rfl; have k4 := Y.wx 4 rfl; have k5 := Y.wx 5 rfl
    have HB := Lib.hid B
    have HX := Lib.hid X
    have HD := Lib.hid D
    clear B X D Y
    have heq : ∀ w : World, (Op.equalIn 10000 29 (.agg #[I r0, I r1, I r2, I r3, I r4, I r5]) (.agg #[I r0, I r1, I r2, I r3, I r4, I r5])).run Try.prog w = .ok true w := fun w => eq_dates ⟨r0, r1, r2, r3, r4, r5⟩ w
    have htt : (t.toList == t.toList) = true := by simp
    rcases HP.out with ⟨rfl, hr, hst⟩ | hne
    · have TY := Lib.hid (fun w => text_yes r0 r1 r2 r3 r4 r5 hr w)
      have hst' : strOfNums (textL r0 r1 r2 r3 r4 r5) = u := hst
      rw [hst'] at TY
      have huu : (u.toList == u.toList) = true := by simp
      clear hst hst' hr
      refine wp_region_grown (by kernel_rfl) (by kernel_rfl) ?_
      repeat (go_big_quiet_step (first | (go_at_call 11; exact WX.of (lof_any _ _ _ _ _ _ _)) | (go_at_call 24; exact WX.of (TB.out _)) | (go_at_call 21; exact WX.of (TY.out _))))
      refine wpQuiet_nil ?_
      intro w6 hb6
      clear p0 p1 p2 p3 p4 p5 q0 q1 q2 q3 q4 q5 k0 k1 k2 k3 k4 k5 heq htt huu
      have D := HD.out.below hb6 HD.out.lt
      have B := HB.out.trans (hb6.mono HB.out.size)
      clear hb6
      rcases HT.out with ⟨rfl, hxr, rfl⟩ | ⟨rfl, hxr⟩
      · have RI := Lib.hid (fun w => right_of y' m d h i s hxr w)
        clear hxr
        go_wp2_with ((go_at_call 22; fail))
        refine (PT.out _).mono ?_
        rintro e w7 ⟨rfl, hb7⟩
        have Z := Blk.new w7 #[I y', I m, I d, I h, I i, I s] 24
        replace D := (D.below hb7 D.lt).alloc (.cells #[I y', I m, I d, I h, I i, I s] 24)
        replace B := (B.trans (hb7.mono B.size)).alloc (B.trans (hb7.mono B.size)).size (.cells #[I y', I m, I d, I h, I i, I s] 24)
        clear hb7
        go_wp2_with ((go_at_call 19; fail))
        refine (known_any _).mono ?_
        rintro e w8 ⟨rfl, hb8⟩
        replace D := D.below hb8 D.lt; replace Z := Z.below hb8 Z.lt; replace B := B.trans (hb8.mono B.size)
        clear hb8
        have p0 := D.cell 0 rfl; have p1 := D.cell 1 rfl; have p2 := D.cell 2 rfl; have p3 := D.cell 3 rfl; have p4 := D.cell 4 rfl; have p5 := D.cell 5 rfl
        go_wp2_with ((go_at_call 12; fail))
        clear p0 p1 p2 p3 p4 p5
        refine (RI.out _).mono ?_
        rintro e w9 ⟨rfl, hb9⟩
        replace D := D.below hb9 D.lt; replace Z := Z.below hb9 Z.lt; replace B := B.trans (hb9.mono B.size)
        clear hb9
        have p0 := D.cell 0 rfl; have p1 := D.cell 1 rfl; have p2 := D.cell 2 rfl; have p3 := D.cell 3 rfl; have p4 := D.cell 4 rfl; have p5 := D.cell 5 rfl; have z0 := Z.cell 0 rfl; have z1 := Z.cell 1 rfl; have z2 := Z.cell 2 rfl; have z3 := Z.cell 3 rfl; have z4 := Z.cell 4 rfl; have z5 := Z.cell 5 rfl
        go_wp2_with fail
        go_ret
        exact ⟨ret_bool (by simp), B⟩
      · have RI := Lib.hid (fun w => right_no y' m d h i s hxr w)
        clear hxr
        obtain ⟨v0, v1, v2, v3, v4, v5⟩ := y
        go_wp2_with ((go_at_call 22; fail))
        refine (PT.out _).mono ?_
        rintro e w7 ⟨rfl, hb7⟩
        replace D := (D.below hb7 D.lt).alloc (.cells #[I v0, I v1, I v2, I v3, I v4, I v5] 24)
        replace B := (B.trans (hb7.mono B.size)).alloc (B.trans (hb7.mono B.size)).size (.cells #[I v0, I v1, I v2, I v3, I v4, I v5] 24)
        clear hb7
        go_wp2_with ((go_at_call 19; fail))
        refine (known_any _).mono ?_
        rintro e w8 ⟨rfl, hb8⟩
        replace D := D.below hb8 D.lt; replace B := B.trans (hb8.mono B.size)
        clear hb8
        have p0 := D.cell 0 rfl; have p1 := D.cell 1 rfl; have p2 := D.cell 2 rfl; have p3 := D.cell 3 rfl; have p4 := D.cell 4 rfl; have p5 := D.cell 5 rfl
        go_wp2_with ((go_at_call 12; fail))
        clear p0 p1 p2 p3 p4 p5
        refine (RI.out _).mono ?_
        rintro e w9 ⟨rfl, hb9⟩
        replace B := B.trans (hb9.mono B.size)
        clear hb9
        go_wp2_with fail
        go_ret
        exact ⟨ret_bool (by simp), B⟩
    · have e1 : (er == 0) = false := by simpa using hne
      have e2 : (er == er) = true := by simp
      have e3 : (er != er) = false := by simp
      clear hne
      refine wp_region_grown (by kernel_rfl) (by kernel_rfl) ?_
      repeat (go_big_quiet_step (first | (go_at_call 11; exact WX.of (lof_any _ _ _ _ _ _ _)) | (go_at_call 24; exact WX.of (TB.out _))))
      refine wpQuiet_nil ?_
      intro w6 hb6
      clear p0 p1 p2 p3 p4 p5 q0 q1 q2 q3 q4 q5 k0 k1 k2 k3 k4 k5 heq htt e1 e2 e3
      have D := HD.out.below hb6 HD.out.lt
      have B := HB.out.trans (hb6.mono HB.out.size)
      clear hb6
      rcases HT.out with ⟨rfl, hxr, rfl⟩ | ⟨rfl, hxr⟩
      · have RI := Lib.hid (fun w => right_of y' m d h i s hxr w)
        clear hxr
        go_wp2_with ((go_at_call 22; fail))
        refine (PT.out _).mono ?_
        rintro e w7 ⟨rfl, hb7⟩
        have Z := Blk.new w7 #[I y', I m, I d, I h, I i, I s] 24
        replace D := (D.below hb7 D.lt).alloc (.cells #[I y', I m, I d, I h, I i, I s] 24)
        replace B := (B.trans (hb7.mono B.size)).alloc (B.trans (hb7.mono B.size)).size (.cells #[I y', I m, I d, I h, I i, I s] 24)
        clear hb7
        go_wp2_with ((go_at_call 19; fail))
        refine (known_any _).mono ?_
        rintro e w8 ⟨rfl, hb8⟩
        replace D := D.below hb8 D.lt; replace Z := Z.below hb8 Z.lt; replace B := B.trans (hb8.mono B.size)
        clear hb8
        have p0 := D.cell 0 rfl; have p1 := D.cell 1 rfl; have p2 := D.cell 2 rfl; have p3 := D.cell 3 rfl; have p4 := D.cell 4 rfl; have p5 := D.cell 5 rfl
        go_wp2_with ((go_at_call 12; fail))
        clear p0 p1 p2 p3 p4 p5
        refine (RI.out _).mono ?_
        rintro e w9 ⟨rfl, hb9⟩
        replace D := D.below hb9 D.lt; replace Z := Z.below hb9 Z.lt; replace B := B.trans (hb9.mono B.size)
        clear hb9
        have p0 := D.cell 0 rfl; have p1 := D.cell 1 rfl; have p2 := D.cell 2 rfl; have p3 := D.cell 3 rfl; have p4 := D.cell 4 rfl; have p5 := D.cell 5 rfl; have z0 := Z.cell 0 rfl; have z1 := Z.cell 1 rfl; have z2 := Z.cell 2 rfl; have z3 := Z.cell 3 rfl; have z4 := Z.cell 4 rfl; have z5 := Z.cell 5 rfl
        go_wp2_with fail
        go_ret
        exact ⟨ret_bool (by simp), B⟩
      · have RI := Lib.hid (fun w => right_no y' m d h i s hxr w)
        clear hxr
        obtain ⟨v0, v1, v2, v3, v4, v5⟩ := y
        go_wp2_with ((go_at_call 22; fail))
        refine (PT.out _).mono ?_
        rintro e w7 ⟨rfl, hb7⟩
        replace D := (D.below hb7 D.lt).alloc (.cells #[I v0, I v1, I v2, I v3, I v4, I v5] 24)
        replace B := (B.trans (hb7.mono B.size)).alloc (B.trans (hb7.mono B.size)).size (.cells #[I v0, I v1, I v2, I v3, I v4, I v5] 24)
        clear hb7
        go_wp2_with ((go_at_call 19; fail))
        refine (known_any _).mono ?_
        rintro e w8 ⟨rfl, hb8⟩
        replace D := D.below hb8 D.lt; replace B := B.trans (hb8.mono B.size)
        clear hb8
        have p0 := D.cell 0 rfl; have p1 := D.cell 1 rfl; have p2 := D.cell 2 rfl; have p3 := D.cell 3 rfl; have p4 := D.cell 4 rfl; have p5 := D.cell 5 rfl
        go_wp2_with ((go_at_call 12; fail))
        clear p0 p1 p2 p3 p4 p5
        refine (RI.out _).mono ?_
        rintro e w9 ⟨rfl, hb9⟩
        replace B := B.trans (hb9.mono B.size)
        clear hb9
        go_wp2_with fail
        go_ret
        exact ⟨ret_bool (by simp), B⟩

theorem text_row (w : World) (dt : DT) (str : ByteArray) (hsz : str.size ≤ 140737488351232) :
    Calls Try.prog 6 #[.agg dt.cs, .string str] w fun e w' => e = .returned (.bool true) ∧ Below w.heap.size w w' := text_walk dt str hsz w
end Go.Proofs.Ytajjibfipkijfaa
