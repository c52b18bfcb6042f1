/- The document's timers: a register is written. No conditions beyond those that each statement shows. -/
import Derived.Test.YtfjkfigjenalgaaX4
namespace Go.Proofs.Ytfjkfigjenalgaa
open Go.RowKit
set_option linter.unusedVariables false
set_option linter.unusedSimpArgs false

section
variable {w w' : World} {g cap : Nat} {ss : List CS}

/-- The cells of the timers as one row. -/
theorem RL.row (h : RL w g ss) : ∀ j u, (cellsOf ss)[j]? = some u → w.cell? ((⟨g, 0, none⟩ : Addr).add j) = some u := by
  intro j u hu
  have hl := (List.getElem?_eq_some_iff.1 hu).1
  rw [cellsOf_len] at hl
  have hi : j / 8 < ss.length := by omega
  have e1 : ss[j / 8]? = some (ss[j / 8]'hi) := List.getElem?_eq_getElem hi
  generalize ss[j / 8]'hi = s at e1
  have hj : j % 8 < s.rc.size := by show j % 8 < 8; omega
  have e2 : s.rc[j % 8]? = some (s.rc[j % 8]'hj) := Array.getElem?_eq_getElem hj
  have e3 := cellsOf_get ss _ s e1 _ _ e2
  have hjj : j / 8 * 8 + j % 8 = j := by omega
  rw [hjj, hu] at e3
  have e4 := h.at_ _ s e1 _ _ e2
  rw [hjj] at e4
  have hadd : (⟨g, 0, none⟩ : Addr).add j = ⟨g, j, none⟩ := by unfold Addr.add; split <;> simp_all
  rw [hadd, e4, ← e3]

theorem cellsOf_one' (ss : List CS) : ∀ u ∈ cellsOf ss, u.oneCell' = true := by
  intro u hu
  unfold cellsOf at hu
  obtain ⟨l, hl, hu⟩ := List.mem_flatten.1 hu
  obtain ⟨s, hs, rfl⟩ := List.mem_map.1 hl
  obtain ⟨ld', va', en', re', ir', sc', ph', st'⟩ := s
  simp [CS.rc] at hu
  rcases hu with rfl | rfl | rfl | rfl | rfl | rfl | rfl | rfl <;> rfl

theorem loadB_err (s : CS) (r v : Int) (h4 : r % 4 = 0) (h : (s.loadB r).2 ≠ 0) : s.storeB r v = (s, (s.loadB r).2) := by
  unfold CS.loadB CS.storeB at *
  repeat' split at h
  all_goals first | (exfalso; exact h rfl) | (exfalso; omega) | (simp_all; done) | skip
  all_goals (repeat' split)
  all_goals first | rfl | (exfalso; omega) | (exfalso; simp_all; done) | (simp_all; done)

theorem rstore_err (h : RL w g ss) (off v : Int) (h0 : 0 ≤ off) (h1 : off ≤ 4294967295) {x e : Int} (hL : bloadB ss off = (x, e)) (he : e ≠ 0) :
    Calls Try.prog 50 #[.slice (some ⟨g, 0, none⟩) ss.length cap, U off, U v] w fun r w' => r = .returned (.tuple #[.slice (some ⟨g, 0, none⟩) ss.length cap, I e]) ∧ Below w.heap.size w w' := by
  have HL := rload_any h (cap := cap) off h0 h1
  rw [hL] at HL
  have HLL := Lib.hid HL
  have d1 : (e == 0) = false := by simpa using he
  have d2 : (e != 0) = true := by simpa using he
  clear h HL
  go_enter Try.func50, Try.ntmps50
  go_wp2_with (go_at_call 49; refine HLL.out.mono ?_; rintro r w2 ⟨rfl, hb⟩)
  go_ret2
  exact ⟨rfl, hb⟩

/-- The cells of one timer are written. -/
theorem RL.eight {w0 w4 : World} {base g cap k : Nat} {ss : List CS} {a0 : Value} (h : w4.ownsRow base 27 8 (.slice (some ⟨g, 0, none⟩) ss.length cap) ss.length (cellsOf ss)) (lo : 1 ≤ ss.length) (hi : ss.length ≤ 8)
    (ok : ∀ (i : Nat) (s : CS), ss[i]? = some s → s.Ok) (hk : k < ss.length) (t : CS) (tok : t.Ok) (hb : Below base w0 w4) (hg : base ≤ g) :
    RL ((((((((w4.setCell ⟨g, k * 8, none⟩ (U t.load)).setCell ⟨g, k * 8 + 1, none⟩ (U t.value)).setCell ⟨g, k * 8 + 2, none⟩ (.bool t.en)).setCell ⟨g, k * 8 + 3, none⟩ (.bool t.re)).setCell ⟨g, k * 8 + 4, none⟩ (.bool t.ir)).setCell ⟨g, k * 8 + 5, none⟩ (U t.scale)).setCell ⟨g, k * 8 + 6, none⟩ (U t.phase)).setCell ⟨g, k * 8 + 7, none⟩ (.bool t.st)) g (ss.set k t) ∧
    Below base w0 ((((((((w4.setCell ⟨g, k * 8, none⟩ (U t.load)).setCell ⟨g, k * 8 + 1, none⟩ (U t.value)).setCell ⟨g, k * 8 + 2, none⟩ (.bool t.en)).setCell ⟨g, k * 8 + 3, none⟩ (.bool t.re)).setCell ⟨g, k * 8 + 4, none⟩ (.bool t.ir)).setCell ⟨g, k * 8 + 5, none⟩ (U t.scale)).setCell ⟨g, k * 8 + 6, none⟩ (U t.phase)).setCell ⟨g, k * 8 + 7, none⟩ (.bool t.st)) := by
  have h0 := (h.stored (k * 8) (U t.load)).1
  have h1 := (h0.stored (k * 8 + 1) (U t.value)).1
  have h2 := (h1.stored (k * 8 + 2) (.bool t.en)).1
  have h3 := (h2.stored (k * 8 + 3) (.bool t.re)).1
  have h4 := (h3.stored (k * 8 + 4) (.bool t.ir)).1
  have h5 := (h4.stored (k * 8 + 5) (U t.scale)).1
  have h6 := (h5.stored (k * 8 + 6) (U t.phase)).1
  have h7 := (h6.stored (k * 8 + 7) (.bool t.st)).1
  refine ⟨⟨by simpa using lo, by simpa using hi, fun i s hs => ?_, fun i s hs j u hu => ?_⟩, ?_⟩
  · by_cases hik : k = i
    · subst hik
      rw [List.getElem?_set_self hk] at hs
      cases hs
      exact tok
    · rw [List.getElem?_set_ne hik] at hs
      exact ok i s hs
  · have hil : i < ss.length := by have := (List.getElem?_eq_some_iff.1 hs).1; simpa using this
    have hj := rc_lt hu
    refine (h7.cellAt (i * 8 + j) (by omega)).trans ?_
    have hlen := cellsOf_len ss
    by_cases hik : k = i
    · subst hik
      rw [List.getElem?_set_self hk] at hs
      cases hs
      obtain rfl | rfl | rfl | rfl | rfl | rfl | rfl | rfl : j = 0 ∨ j = 1 ∨ j = 2 ∨ j = 3 ∨ j = 4 ∨ j = 5 ∨ j = 6 ∨ j = 7 := by omega
      all_goals
        rw [← hu]
        simp [List.getElem?_set, hlen, CS.rc]
        try omega
    · rw [List.getElem?_set_ne hik] at hs
      have := cellsOf_get ss i s hs j u hu
      rw [List.getElem?_set_ne (by omega), List.getElem?_set_ne (by omega), List.getElem?_set_ne (by omega), List.getElem?_set_ne (by omega), List.getElem?_set_ne (by omega), List.getElem?_set_ne (by omega), List.getElem?_set_ne (by omega), List.getElem?_set_ne (by omega)]
      exact this
  · have b0 := hb.setCell (p := ⟨g, k * 8, none⟩) hg (U t.load)
    have b1 := b0.setCell (p := ⟨g, k * 8 + 1, none⟩) hg (U t.value)
    have b2 := b1.setCell (p := ⟨g, k * 8 + 2, none⟩) hg (.bool t.en)
    have b3 := b2.setCell (p := ⟨g, k * 8 + 3, none⟩) hg (.bool t.re)
    have b4 := b3.setCell (p := ⟨g, k * 8 + 4, none⟩) hg (.bool t.ir)
    have b5 := b4.setCell (p := ⟨g, k * 8 + 5, none⟩) hg (U t.scale)
    have b6 := b5.setCell (p := ⟨g, k * 8 + 6, none⟩) hg (U t.phase)
    exact b6.setCell (p := ⟨g, k * 8 + 7, none⟩) hg (.bool t.st)

set_option maxRecDepth 100000 in
set_option maxHeartbeats 2000000 in
theorem rstore_ok (h : RL w g ss) (off v : Int) (h0 : 0 ≤ off) (h1 : off ≤ 4294967295) (v0 : 0 ≤ v) (v1 : v ≤ 4294967295) {x : Int} (hL : bloadB ss off = (x, 0)) (k : Nat) (s : CS) (hk : off / 32 = (k : Int)) (hs : ss[k]? = some s) :
    Calls Try.prog 50 #[.slice (some ⟨g, 0, none⟩) ss.length cap, U off, U v] w fun r w' => ∃ g' cap', r = .returned (.tuple #[.slice (some ⟨g', 0, none⟩) ss.length cap', I (s.storeB (off % 32) v).2]) ∧ RL w' g' (ss.set k (s.storeB (off % 32) v).1) ∧ w.heap.size ≤ g' ∧ Below w.heap.size w w' := by
  obtain ⟨i27, hi, hz0, hz1, hz2⟩ := info_parts info27
  have HL := rload_any h (cap := cap) off h0 h1
  rw [hL] at HL
  have HLL := Lib.hid HL
  have ok := h.ok k s hs
  have hhi := h.hi
  have hlo := h.lo
  have hkl : k < ss.length := (List.getElem?_eq_some_iff.1 hs).1
  obtain ⟨r, hr⟩ : ∃ r, off % 32 = r := ⟨_, rfl⟩
  have r0 : 0 ≤ r := by omega
  have r1 : r ≤ 31 := by omega
  rw [hr]
  have HST := Lib.hid (fun w => store_ref s ok w r v r0 (by omega) v0 v1)
  have hok' := s.storeB_ok ok r v v0 v1
  generalize hT : s.storeB r v = t at *
  obtain ⟨s', e'⟩ := t
  dsimp only at hok'
  have HOK := Lib.hid hok'
  have HH := Lib.hid h
  have HS := Lib.hid hs
  clear h HL hT hok'
  go_enter Try.func50, Try.ntmps50
  go_wp2_with (go_at_call 49; fail)
  refine HLL.out.mono ?_
  rintro e w2 ⟨rfl, hb2⟩
  have R2 := HH.out.below hb2 HH.out.lt
  have HR2 := Lib.hid R2
  have HB2 := Lib.hid hb2
  have c0 : w2.cell? ⟨g, k * 8, none⟩ = some (U s.load) := R2.at_ k s HS.out 0 _ rfl
  have c1 := R2.at_ k s HS.out 1 _ rfl; have c2 := R2.at_ k s HS.out 2 _ rfl; have c3 := R2.at_ k s HS.out 3 _ rfl
  have c4 := R2.at_ k s HS.out 4 _ rfl; have c5 := R2.at_ k s HS.out 5 _ rfl; have c6 := R2.at_ k s HS.out 6 _ rfl; have c7 := R2.at_ k s HS.out 7 _ rfl
  have nn0 : (0 : Int) ≤ (k : Int) := by omega
  have nn1 : (k : Int) < (ss.length : Int) := by omega
  clear R2 hb2 HLL hs
  go_wp2_with (go_at_call 40; fail)
  refine (HST.out _).mono ?_
  rintro e w3 ⟨rfl, hb3⟩
  dsimp only
  have HB3 := Lib.hid (HB2.out.trans (hb3.mono HB2.out.size))
  have HR3 := Lib.hid (HR2.out.below hb3 HR2.out.lt)
  have hsz := HB3.out.size
  clear c0 c1 c2 c3 c4 c5 c6 c7 hb3
  have HO : Hid (((w3.alloc (.cells s'.rc 27)).alloc (.cells #[] 27)).ownsRow w.heap.size 27 8 (.slice (some ⟨w3.heap.size + 1, 0, none⟩) 0 0) 0 []) := Lib.hid (by
    have := World.ownsRow_made (base := w.heap.size) (e := 27) (size := 8) (w3.alloc (.cells s'.rc 27)) #[] 0 (by simp; omega) (by unfold maxLen; omega) rfl
    simpa using this)
  have HBX := Lib.hid ((Blk.new w3 s'.rc 27).alloc (.cells #[] 27))
  have HRX := Lib.hid (HR3.out.below ((Below.refl w3.heap.size w3).alloc (Nat.le_refl _) (.cells s'.rc 27)) HR3.out.lt)
  have HRY := Lib.hid (HRX.out.below ((Below.refl _ (w3.alloc (.cells s'.rc 27))).alloc (Nat.le_refl _) (.cells #[] 27)) HRX.out.lt)
  have HCN := Lib.hid HRY.out.row
  have HC21 := Lib.hid (cellsOf_one' ss)
  have HCL := Lib.hid (cellsOf_len ss)
  have HC31 : Hid (0 + ss.length ≤ maxLen) := Lib.hid (by unfold maxLen; omega)
  have HC41 : Hid ((0 + ss.length) * 24 ≤ 140737488355328) := Lib.hid (by omega)
  have HC51 : Hid (w.heap.size ≤ ((w3.alloc (.cells s'.rc 27)).alloc (.cells #[] 27)).heap.size) := Lib.hid (by simp; omega)
  have HB5 := Lib.hid (((HB3.out.alloc hsz (.cells s'.rc 27))).alloc (by simp; omega) (.cells #[] 27))
  clear HR3 HRX HRY
  obtain ⟨ld', va', en', re', ir', sc', ph', st'⟩ := s'
  go_wp2_with (at_builtin; (refine wpList_append_lies _ rfl (.tmp 34) (.tmp 35) 50 rfl w.heap.size 27 i27 (.agg #[U 0, U 0, .bool false, .bool false, .bool false, U 0, U 0, .bool false]) 8 24 Try.underlying50 hi hz0 hz1 hz2 rfl (by omega) _ 0 _ rfl HO.out ⟨g, 0, none⟩ ss.length cap _ rfl HCL.out HCN.out HC21.out (by omega) HC31.out HC41.out HC51.out (w3.heap.size + 1 + 1) (by simp) ?_); (intro g1 cap1 w4 hown1 hgrow1 hor1 hlt1); (rw [Nat.zero_add, List.nil_append] at hown1); (have Q1 := Lib.hid hown1); (have Q2 := Lib.hid hgrow1); (have k4 := HBX.out.grown hgrow1 (show some w3.heap.size ≠ some (w3.heap.size + 1) by simp)); (have hR4 := RL.of_own hown1 hlo hhi HH.out.ok); (have a0 : w4.cell? ⟨g1, k * 8, none⟩ = some (U s.load) := hR4.at_ k s HS.out 0 _ rfl); (have a1 := hR4.at_ k s HS.out 1 _ rfl); (have a2 := hR4.at_ k s HS.out 2 _ rfl); (have a3 := hR4.at_ k s HS.out 3 _ rfl); (have a4 := hR4.at_ k s HS.out 4 _ rfl); (have a5 := hR4.at_ k s HS.out 5 _ rfl); (have a6 := hR4.at_ k s HS.out 6 _ rfl); (have a7 := hR4.at_ k s HS.out 7 _ rfl); (have b0 := k4.cell 0 rfl); (have b1 := k4.cell 1 rfl); (have b2 := k4.cell 2 rfl); (have b3 := k4.cell 3 rfl); (have b4 := k4.cell 4 rfl); (have b5 := k4.cell 5 rfl); (have b6 := k4.cell 6 rfl); (have b7 := k4.cell 7 rfl); (have f0 := hown1.frozenAt (k * 8)); (have f1 := hown1.frozenAt (k * 8 + 1)); (have f2 := hown1.frozenAt (k * 8 + 2)); (have f3 := hown1.frozenAt (k * 8 + 3)); (have f4 := hown1.frozenAt (k * 8 + 4)); (have f5 := hown1.frozenAt (k * 8 + 5)); (have f6 := hown1.frozenAt (k * 8 + 6)); (have f7 := hown1.frozenAt (k * 8 + 7)); (clear hown1 hgrow1 hor1 k4 hR4))
  have hgb := (Q1.out.lt g1 rfl).1
  have hE := RL.eight (k := k) (a0 := U 0) Q1.out hlo hhi HH.out.ok hkl ⟨ld', va', en', re', ir', sc', ph', st'⟩ HOK.out (HB5.out.grown Q2.out (by simp; omega) (fun j hj => (HO.out.lt j hj).1)) hgb
  have HE := Lib.hid hE
  have HGB := Lib.hid hgb
  clear hE hgb
  go_ret2
  exact ⟨_, _, rfl, HE.out.1, HGB.out, HE.out.2⟩

theorem rstore_any (h : RL w g ss) (off v : Int) (h0 : 0 ≤ off) (h1 : off ≤ 4294967295) (v0 : 0 ≤ v) (v1 : v ≤ 4294967295) :
    Calls Try.prog 50 #[.slice (some ⟨g, 0, none⟩) ss.length cap, U off, U v] w fun r w' => ∃ g' cap', r = .returned (.tuple #[.slice (some ⟨g', 0, none⟩) ss.length cap', I (bstoreB ss off v).2]) ∧ RL w' g' (bstoreB ss off v).1 ∧ (g' = g ∨ w.heap.size ≤ g') ∧ Below w.heap.size w w' := by
  have err : ∀ x e : Int, bloadB ss off = (x, e) → e ≠ 0 → bstoreB ss off v = (ss, e) →
      Calls Try.prog 50 #[.slice (some ⟨g, 0, none⟩) ss.length cap, U off, U v] w fun r w' => ∃ g' cap', r = .returned (.tuple #[.slice (some ⟨g', 0, none⟩) ss.length cap', I (bstoreB ss off v).2]) ∧ RL w' g' (bstoreB ss off v).1 ∧ (g' = g ∨ w.heap.size ≤ g') ∧ Below w.heap.size w w' := by
    intro x e hl he hst
    rw [hst]
    exact (rstore_err h off v h0 h1 hl he).mono fun r w' ⟨a, b⟩ => ⟨g, cap, a, h.below b h.lt, Or.inl rfl, b⟩
  by_cases h4 : off % 4 ≠ 0
  · exact err 0 11 (by unfold bloadB; rw [if_pos h4]) (by decide) (by unfold bstoreB; rw [if_pos h4])
  by_cases hl : (ss.length : Int) ≤ off / 32
  · have hn : ss[(off / 32).toNat]? = none := List.getElem?_eq_none (by omega)
    exact err 0 10 (by unfold bloadB; rw [if_neg h4, hn]) (by decide) (by unfold bstoreB; rw [if_neg h4, hn])
  obtain ⟨k, hk⟩ : ∃ k : Nat, off / 32 = k := ⟨(off / 32).toNat, by omega⟩
  have hkl : k < ss.length := by omega
  have e2 : ss[k]? = some (ss[k]'hkl) := List.getElem?_eq_getElem hkl
  generalize ss[k]'hkl = s at e2
  have hL : bloadB ss off = s.loadB (off % 32) := by unfold bloadB; rw [if_neg h4, hk, Int.toNat_natCast, e2]
  have hS : bstoreB ss off v = (ss.set k (s.storeB (off % 32) v).1, (s.storeB (off % 32) v).2) := by unfold bstoreB; rw [if_neg h4, hk, Int.toNat_natCast, e2]
  by_cases he : (s.loadB (off % 32)).2 = 0
  · rw [hS]
    exact (rstore_ok h off v h0 h1 v0 v1 (x := (s.loadB (off % 32)).1) (by rw [hL, ← he]) k s hk e2).mono fun r w' ⟨g', cap', a, b, c, d⟩ => ⟨g', cap', a, b, Or.inr c, d⟩
  · refine err (s.loadB (off % 32)).1 (s.loadB (off % 32)).2 hL he ?_
    rw [hS, loadB_err s _ v (by omega) he]
    generalize (s.loadB (off % 32)).2 = z
    have : ss.set k s = ss := by
      apply List.ext_getElem?
      intro j
      by_cases hj : k = j
      · subst hj; rw [List.getElem?_set_self hkl, e2]
      · rw [List.getElem?_set_ne hj]
    rw [this]
end
end Go.Proofs.Ytfjkfigjenalgaa
