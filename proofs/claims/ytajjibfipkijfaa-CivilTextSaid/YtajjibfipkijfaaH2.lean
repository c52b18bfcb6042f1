/- The walk of the law CivilOf. Its conditions: those that its statement shows. -/
import Derived.Test.YtajjibfipkijfaaH1
import Derived.Deep.CutRange
import Derived.Deep.DeepCutAuto
set_option linter.unusedVariables false
set_option linter.unusedSimpArgs false
namespace Go.Proofs.Ytajjibfipkijfaa
open Go.RowKit

theorem Blk.wx {w : World} {b : Nat} {vs : Array Value} {T : TypeId} (h : Blk w b vs T) (j : Nat) {v : Value} (hv : vs[j]? = some v) : ∀ x : WX w, x.w.cell? ⟨b, j, none⟩ = some v := fun x => x.cell (h.cell j hv)

set_option maxHeartbeats 4000000 in
theorem of_walk (S : Int) (dt : DT) (s0 : 0 ≤ S) (s1 : S ≤ 18446744073709551615) (w : World) :
    Calls Try.prog 3 #[.int .u64 S, .agg dt.cs] w fun e w' => e = .returned (.bool true) ∧ Below w.heap.size w w' := by
  obtain ⟨y, m, d, h, i, s⟩ := dt
  obtain ⟨x, e1, cA, cB, hx⟩ := of_both S s0 s1
  obtain ⟨n, f, cC, cD, hf⟩ := sec_both ⟨y, m, d, h, i, s⟩
  obtain ⟨x0, x1, x2, x3, x4, x5⟩ := x
  have HX := Lib.hid hx
  have HF := Lib.hid hf
  have CA := Lib.hid cA
  have CB := Lib.hid cB
  have CC := Lib.hid cC
  have CD := Lib.hid cD
  clear hx hf cA cB cC cD
  have D1 := Lib.hid (Blk.new w #[I y, I m, I d, I h, I i, I s] 24)
  have B1 := Lib.hid ((Below.refl w.heap.size w).alloc (Nat.le_refl _) (.cells #[I y, I m, I d, I h, I i, I s] 24))
  go_enter Try.func3, Try.ntmps3
  go_wp2_with ((go_at_call 7; fail))
  refine (CA.out _).mono ?_
  rintro e w2 ⟨rfl, hb2⟩
  have D2 := D1.out.below hb2 D1.out.lt
  have B2 := B1.out.trans (hb2.mono B1.out.size)
  go_wp2_with ((go_at_call 8; fail))
  refine (CB.out _).mono ?_
  rintro e w3 ⟨rfl, hb3⟩
  have X3 : Blk w3 w2.heap.size #[I x0, I x1, I x2, I x3, I x4, I x5] 24 := (Blk.new w2 #[I x0, I x1, I x2, I x3, I x4, I x5] 24).below hb3 (Blk.new w2 #[I x0, I x1, I x2, I x3, I x4, I x5] 24).lt
  have D3 := (D2.alloc (.cells #[I x0, I x1, I x2, I x3, I x4, I x5] 24)).below hb3 (D2.alloc _).lt
  have B3 := (B2.alloc B2.size (.cells #[I x0, I x1, I x2, I x3, I x4, I x5] 24)).trans (hb3.mono (B2.alloc B2.size _).size)
  clear hb2 hb3 D2 B2
  generalize w2.heap.size = g1 at *
  have W4 := Blk.new w3 #[I x0, I x1, I x2, I x3, I x4, I x5] 29
  have X4 := X3.alloc (.cells #[I x0, I x1, I x2, I x3, I x4, I x5] 29)
  have D4 := D3.alloc (.cells #[I x0, I x1, I x2, I x3, I x4, I x5] 29)
  have B4 := B3.alloc B3.size (.cells #[I x0, I x1, I x2, I x3, I x4, I x5] 29)
  clear X3 D3 B3
  have q40 := D4.cell 0 rfl; have q41 := D4.cell 1 rfl; have q42 := D4.cell 2 rfl; have q43 := D4.cell 3 rfl; have q44 := D4.cell 4 rfl; have q45 := D4.cell 5 rfl
  go_wp2_with ((go_at_call 9; fail))
  clear q40 q41 q42 q43 q44 q45
  refine (CC.out _).mono ?_
  rintro e w5 ⟨rfl, hb5⟩
  have W5 := W4.below hb5 W4.lt
  have X5 := X4.below hb5 X4.lt
  have D5 := D4.below hb5 D4.lt
  have B5 := B4.trans (hb5.mono B4.size)
  clear W4 X4 D4 B4 hb5
  generalize w3.heap.size = g2 at *
  have q50 := D5.cell 0 rfl; have q51 := D5.cell 1 rfl; have q52 := D5.cell 2 rfl; have q53 := D5.cell 3 rfl; have q54 := D5.cell 4 rfl; have q55 := D5.cell 5 rfl
  go_wp2_with ((go_at_call 11; fail))
  clear q50 q51 q52 q53 q54 q55
  refine (lof_any _ _ _ _ _ _ _).mono ?_
  rintro e w6 ⟨rfl, hb6⟩
  have W6 := W5.below hb6 W5.lt
  have X6 := X5.below hb6 X5.lt
  have D6 := D5.below hb6 D5.lt
  have B6 := B5.trans (hb6.mono B5.size)
  clear W5 X5 D5 B5 hb6
  go_wp2_with ((go_at_call 10; fail))
  refine (CD.out _).mono ?_
  rintro e w7 ⟨rfl, hb7⟩
  have W7 := W6.below hb7 W6.lt
  have X7 := X6.below hb7 X6.lt
  have D7 := D6.below hb7 D6.lt
  have B7 := B6.trans (hb7.mono B6.size)
  clear W6 X6 D6 B6 hb7
  go_upto_region 5 with fail
  have p0 := D7.wx 0 rfl; have r0 := X7.wx 0 rfl; have t0 := W7.wx 0 rfl; have p1 := D7.wx 1 rfl; have r1 := X7.wx 1 rfl; have t1 := W7.wx 1 rfl; have p2 := D7.wx 2 rfl; have r2 := X7.wx 2 rfl; have t2 := W7.wx 2 rfl; have p3 := D7.wx 3 rfl; have r3 := X7.wx 3 rfl; have t3 := W7.wx 3 rfl; have p4 := D7.wx 4 rfl; have r4 := X7.wx 4 rfl; have t4 := W7.wx 4 rfl; have p5 := D7.wx 5 rfl; have r5 := X7.wx 5 rfl; have t5 := W7.wx 5 rfl
  have g1_ := Lib.hid B7
  have heq : ∀ w : World, (Op.equalIn 10000 29 (.agg #[I x0, I x1, I x2, I x3, I x4, I x5]) (.agg #[I x0, I x1, I x2, I x3, I x4, I x5])).run Try.prog w = .ok true w := fun w => eq_dates ⟨x0, x1, x2, x3, x4, x5⟩ w
  have u1 : S.tdiv 86400 = S / 86400 := Int.tdiv_eq_ediv_of_nonneg s0
  have u2 : IntKind.u64.wrap (S / 86400) = S / 86400 := by rw [IntKind.wrap_u64]; omega
  have u3 : IntKind.u64.wrap (S / 86400 + 4) = S / 86400 + 4 := by rw [IntKind.wrap_u64]; omega
  have u4 : (S / 86400 + 4).tmod 7 = (S / 86400 + 4) % 7 := Int.tmod_eq_emod_of_nonneg (by omega)
  have u5 : IntKind.u64.wrap ((S / 86400 + 4) % 7) = (S / 86400 + 4) % 7 := by rw [IntKind.wrap_u64]; omega
  have u6 : IntKind.i64.wrap ((S / 86400 + 4) % 7) = (S / 86400 + 4) % 7 := by rw [IntKind.wrap_i64]; omega
  clear B7
  refine wp_region_grown (by kernel_rfl) (by kernel_rfl) ?_
  repeat (go_big_quiet_step (first | (go_at_call 11; exact WX.of (lof_any _ _ _ _ _ _ _)) | (go_at_call 12; exact WX.of (right_any _ _ _ _ _ _ _)) | (go_at_call 13; exact WX.of (rright_any _ _ _ _ _ _ _)) | (go_at_call 14; exact WX.of_same (leap_any _ _)) | (go_at_call 15; exact WX.of_same (rleap_any _ _)) | (go_at_call 16; exact WX.of (days_any _ _ _)) | (go_at_call 17; exact WX.of_same (rdays_any _ _ _)) | (go_at_call 18; exact WX.of_same (weekday_any _ s0 s1 _))))
  refine wpQuiet_nil ?_
  intro w8 hb8
  have X8 := X7.below hb8 X7.lt
  have D8 := D7.below hb8 D7.lt
  have B8 := g1_.out.trans (hb8.mono g1_.out.size)
  clear W7 X7 D7 g1_ hb8 heq u1 u2 u3 u4 u5 u6 p0 r0 t0 p1 r1 t1 p2 r2 t2 p3 r3 t3 p4 r4 t4 p5 r5 t5
  rcases HX.out with ⟨rfl, hS, hxr, hxs⟩ | ⟨rfl, hS⟩
  · have CS := Lib.hid (sec_back ⟨x0, x1, x2, x3, x4, x5⟩ S hxr hxs)
    clear hS hxr hxs
    have x8_0 := X8.cell 0 rfl; have x8_1 := X8.cell 1 rfl; have x8_2 := X8.cell 2 rfl; have x8_3 := X8.cell 3 rfl; have x8_4 := X8.cell 4 rfl; have x8_5 := X8.cell 5 rfl
    go_wp2_with ((go_at_call 9; fail))
    refine (CS.out _).mono ?_
    rintro e w9 ⟨rfl, hb9⟩
    have D9 := D8.below hb9 D8.lt
    have B9 := B8.trans (hb9.mono B8.size)
    clear X8 D8 B8 hb9 x8_0 x8_1 x8_2 x8_3 x8_4 x8_5
    rcases HF.out with ⟨rfl, hr, hn⟩ | ⟨rfl, hn, hr⟩
    · have hn' : n = secB y m d h i s := hn
      have CE := Lib.hid (of_back ⟨y, m, d, h, i, s⟩ hr)
      have HN := Lib.hid hn'
      clear hr hn hn'
      rw [show DT.sec ⟨y, m, d, h, i, s⟩ = n from HN.out.symm] at CE
      go_wp2_with ((go_at_call 7; fail))
      refine (CE.out _).mono ?_
      rintro e wf ⟨rfl, hbf⟩
      have Y2 := Blk.new wf #[I y, I m, I d, I h, I i, I s] 24
      have Df := (D9.below hbf D9.lt).alloc (.cells #[I y, I m, I d, I h, I i, I s] 24)
      have bf := (B9.trans (hbf.mono B9.size)).alloc (B9.trans (hbf.mono B9.size)).size (.cells #[I y, I m, I d, I h, I i, I s] 24)
      go_wp2_with ((go_at_call 19; fail))
      refine (known_any _).mono ?_
      rintro e wk ⟨rfl, hbk⟩
      have Y3 := Y2.below hbk Y2.lt
      have Dk := Df.below hbk Df.lt
      have bk := bf.trans (hbk.mono bf.size)
      clear Y2 Df bf
      have y0 := Y3.cell 0 rfl; have z0 := Dk.cell 0 rfl; have y1 := Y3.cell 1 rfl; have z1 := Dk.cell 1 rfl; have y2 := Y3.cell 2 rfl; have z2 := Dk.cell 2 rfl; have y3 := Y3.cell 3 rfl; have z3 := Dk.cell 3 rfl; have y4 := Y3.cell 4 rfl; have z4 := Dk.cell 4 rfl; have y5 := Y3.cell 5 rfl; have z5 := Dk.cell 5 rfl
      go_wp2_with fail
      go_ret
      exact ⟨ret_bool (by simp), bk⟩
    · clear hr hn
      go_wp2_with ((go_at_call 19; fail))
      refine (known_any _).mono ?_
      rintro e wk ⟨rfl, hbk⟩
      go_wp2_with fail
      go_ret
      exact ⟨rfl, B9.trans (hbk.mono B9.size)⟩
  · clear hS X8
    rcases HF.out with ⟨rfl, hr, hn⟩ | ⟨rfl, hn, hr⟩
    · have hn' : n = secB y m d h i s := hn
      have CE := Lib.hid (of_back ⟨y, m, d, h, i, s⟩ hr)
      have HN := Lib.hid hn'
      clear hr hn hn'
      rw [show DT.sec ⟨y, m, d, h, i, s⟩ = n from HN.out.symm] at CE
      go_wp2_with ((go_at_call 7; fail))
      refine (CE.out _).mono ?_
      rintro e wf ⟨rfl, hbf⟩
      have Y2 := Blk.new wf #[I y, I m, I d, I h, I i, I s] 24
      have Df := (D8.below hbf D8.lt).alloc (.cells #[I y, I m, I d, I h, I i, I s] 24)
      have bf := (B8.trans (hbf.mono B8.size)).alloc (B8.trans (hbf.mono B8.size)).size (.cells #[I y, I m, I d, I h, I i, I s] 24)
      go_wp2_with ((go_at_call 19; fail))
      refine (known_any _).mono ?_
      rintro e wk ⟨rfl, hbk⟩
      have Y3 := Y2.below hbk Y2.lt
      have Dk := Df.below hbk Df.lt
      have bk := bf.trans (hbk.mono bf.size)
      clear Y2 Df bf
      have y0 := Y3.cell 0 rfl; have z0 := Dk.cell 0 rfl; have y1 := Y3.cell 1 rfl; have z1 := Dk.cell 1 rfl; have y2 := Y3.cell 2 rfl; have z2 := Dk.cell 2 rfl; have y3 := Y3.cell 3 rfl; have z3 := Dk.cell 3 rfl; have y4 := Y3.cell 4 rfl; have z4 := Dk.cell 4 rfl; have y5 := Y3.cell 5 rfl; have z5 := Dk.cell 5 rfl
      go_wp2_with fail
      go_ret
      exact ⟨ret_bool (by simp), bk⟩
    · clear hr hn
      go_wp2_with ((go_at_call 19; fail))
      refine (known_any _).mono ?_
      rintro e wk ⟨rfl, hbk⟩
      go_wp2_with fail
      go_ret
      exact ⟨rfl, B8.trans (hbk.mono B8.size)⟩

theorem of_row (w : World) (S : Int) (dt : DT) (hS : (Lit.int .u64 S).wf = true) :
    Calls Try.prog 3 #[.int .u64 S, .agg dt.cs] w fun e w' => e = .returned (.bool true) ∧ Below w.heap.size w w' := by
  have hb : 0 ≤ S ∧ S ≤ 18446744073709551615 := by
    simp [Lit.wf, IntKind.min, IntKind.max, IntKind.signed, IntKind.bits] at hS; omega
  exact of_walk S dt hb.1 hb.2 w
end Go.Proofs.Ytajjibfipkijfaa
