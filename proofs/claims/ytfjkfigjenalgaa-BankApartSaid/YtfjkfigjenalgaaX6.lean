/- A bank's copy. No conditions beyond those that each statement shows. -/
import Derived.Test.YtfjkfigjenalgaaX5
import Derived.Deep.RegionLaw
namespace Go.Proofs.Ytfjkfigjenalgaa
open Go.RowKit
set_option linter.unusedVariables false
set_option linter.unusedSimpArgs false

theorem Row.drew {w0 w : World} {v : Value} {cs : List Nat} {ss : List CS} (h : Row w0 w v cs ss) : Row w0 w.drew v cs ss :=
  ⟨h.own.drew, h.len, h.tm, h.lo, h.nd, h.na, h.bel.drew⟩

/-- Behind a store to a block beside. -/
theorem Row.beside {w0 w : World} {v : Value} {cs : List Nat} {ss : List CS} {ob : Nat} {cur : Array Value} (h : Row w0 w v cs ss) (hb : Blk w ob cur 81) (hn : ob ∉ cs) (hlo : w0.heap.size ≤ ob) (u : Value) : Row w0 (w.setCell ⟨ob, 0, none⟩ u) v cs ss := by
  have hne := own_blk_ne h.own hb (by decide)
  refine ⟨h.own.kept (row := some ob) ⟨rfl, rfl, rfl, by simp [World.setCell], fun k hk hk2 => Below.heap_setCell _ _ _ _ (fun e => hk2 (by simpa using e))⟩ (Or.inr (Ne.symm hne)), h.len, fun i c s hc hs => ⟨?_, (h.tm i c s hc hs).2⟩, h.lo, h.nd, h.na, h.bel.setCell (p := ⟨ob, 0, none⟩) hlo u⟩
  exact Blk.set_ne (h.tm i c s hc hs).1 0 u (fun e => hn (e ▸ List.mem_of_getElem? hc))

/-- A row that is done, whose box stands already: a bank. -/
theorem Row.boxed {w0 w : World} {g cap ob : Nat} {cs : List Nat} {ss : List CS} (h : Row w0 w (.slice (some ⟨g, 0, none⟩) cs.length cap) cs ss) (hb : Blk w ob #[.slice (some ⟨g, 0, none⟩) cs.length cap] 81) (hn : ob ∉ cs) (hlo : 1 ≤ cs.length) (hi : cs.length ≤ 8) :
    BK w ob g cap cs ss := by
  have hne := own_blk_ne h.own hb (by decide)
  refine ⟨h.len, by rw [← h.len]; exact hlo, by rw [← h.len]; exact hi, by rw [← h.len]; exact hb, ?_, h.tm, h.nd, hn, h.na g rfl, fun e => hne (by simp [Value.ownBlock, e])⟩
  rcases h.own.2 with ⟨h1, _⟩ | ⟨g', cap', cur, h1, h2, h3, h4, h5, h6, h7⟩
  · cases h1
  · simp at h1
    obtain ⟨rfl, rfl⟩ := h1
    refine ⟨cur, (show Blk w g cur 23 from h3), fun i c hc => ?_⟩
    have e : (cs.map PT)[i]? = some (PT c) := by rw [List.getElem?_map, hc]; rfl
    rw [← h7, List.getElem?_take] at e
    split at e
    · simpa using e
    · cases e

def RelC (w0 : World) (ob : Nat) (ss : List CS) (k : Nat) (i : Value) (wr : World) : Prop :=
  ∃ cs v, i = I (cs.length : Nat) ∧ cs.length ≤ ss.length ∧ k = ss.length - cs.length ∧ Row w0 wr v cs (ss.take cs.length) ∧ Blk wr ob #[v] 81 ∧ ob ∉ cs

section
variable {w w' : World} {bb ab cap : Nat} {cs : List Nat} {ss : List CS}

set_option maxRecDepth 100000 in
set_option maxHeartbeats 4000000 in
theorem bcopy_any (h : BK w bb ab cap cs ss) :
    Calls Try.prog 37 #[.pointer (some ⟨bb, 0, none⟩)] w fun e w' => ∃ ob g cap2 cs2, e = .returned (.pointer (some ⟨ob, 0, none⟩)) ∧ BK w' ob g cap2 cs2 ss ∧ w.heap.size ≤ ob ∧ (∀ c ∈ cs2, w.heap.size ≤ c) ∧ w.heap.size ≤ g ∧ Below w.heap.size w w' := by
  obtain ⟨i23, hi, hz0, hz1, hz2⟩ := info_parts info23
  have hhi := h.hi
  have hlo := h.lo
  have HH := Lib.hid h
  have hb0 := (Below.refl w.heap.size w).alloc (Nat.le_refl _) (.cells #[.slice none 0 0] 81)
  have hbb := h.box.lt
  have hc0 := h.box.cell 0 rfl
  have hc1 := (h.box.alloc (.cells #[.slice none 0 0] 81)).cell 0 rfl
  have HN := Lib.hid (Blk.new w #[.slice none 0 0] 81)
  have HB0 := Lib.hid hb0
  clear h hb0
  go_enter Try.func37, Try.ntmps37
  go_wp2_with fail
  go_loopg [15] ss.length (fun k i wr => RelC w w.heap.size ss k i wr)
  case atStart => exact ⟨[], _, rfl, by simp, rfl, ⟨World.ownsRow_nil _ _ _ _, rfl, fun i c s h => by simp at h, fun c h => by simp at h, List.nodup_nil, fun g h => by simp [Value.ownBlock] at h, HB0.out⟩, HN.out, by simp⟩
  case round =>
    obtain ⟨cs2, v, rfl, hq, hk, hR, hbx, hnb⟩ := hrel
    have HK := Lib.hid hk
    clear hk
    by_cases hlt : cs2.length < ss.length
    · have hd : decide ((cs2.length : Int) < (ss.length : Int)) = true := by simp; omega
      have hB := HH.out.below hR.bel
      obtain ⟨c, s, e1, e2, hm, hc, ok, hcell⟩ := hB.nth (k := cs2.length) hlt
      have HR := Lib.hid hR
      have HBX := Lib.hid hbx
      have HC := Lib.hid (HC.drew hc)
      have HE := Lib.hid e2
      have HNB := Lib.hid hnb
      have b0 := hbx.cell 0 rfl
      have b1 := hbx.free 0
      have nn0 : (0 : Int) ≤ (cs2.length : Int) := by omega
      have nn1 : (cs2.length : Int) < (ss.length : Int) := by omega
      clear hR hbx hc e1 e2 hB hnb
      have HS : Hid (ss.take (cs2.length + 1) = ss.take cs2.length ++ [s]) := Lib.hid (by rw [List.take_add_one, HE.out]; rfl)
      have hCC := copy_any HC.out
      have HCC := Lib.hid hCC
      have HO : Hid ((((wr.alloc (.cells s.cells 67)).alloc (.cells #[PT wr.heap.size] 23)).drew).ownsRow w.heap.size 23 1 v cs2.length (cs2.map PT)) := Lib.hid ((HR.out.own.alloc _).alloc _).drew
      have hsz := HR.out.bel.size
      have hcn : ∀ j u, [PT wr.heap.size][j]? = some u → (((wr.alloc (.cells s.cells 67)).alloc (.cells #[PT wr.heap.size] 23)).drew).cell? ((⟨wr.heap.size + 1, 0, none⟩ : Addr).add j) = some u := by
        have := cell_one_new (wr.alloc (.cells s.cells 67)) (PT wr.heap.size) 23
        simpa using this
      have HCN := Lib.hid hcn
      have HC21 : Hid (∀ u ∈ [PT wr.heap.size], u.oneCell' = true) := Lib.hid (by intro u hu; rw [List.mem_singleton] at hu; subst hu; rfl)
      have HC31 : Hid (cs2.length + 1 ≤ maxLen) := Lib.hid (by unfold maxLen; omega)
      have HC41 : Hid ((cs2.length + 1) * 8 ≤ 140737488355328) := Lib.hid (by omega)
      have HC51 : Hid (w.heap.size ≤ (((wr.alloc (.cells s.cells 67)).alloc (.cells #[PT wr.heap.size] 23)).drew).heap.size) := Lib.hid (by simp at hsz ⊢; omega)
      have HBY := Lib.hid (((HBX.out.alloc (.cells s.cells 67)).alloc (.cells #[PT wr.heap.size] 23)).drew)
      have y0 := (HBX.out.alloc (.cells s.cells 67)).cell 0 rfl
      have y1 := (HBX.out.alloc (.cells s.cells 67)).free 0
      have y2 := ((HBX.out.alloc (.cells s.cells 67)).drew).cell 0 rfl
      have y3 := ((HBX.out.alloc (.cells s.cells 67)).drew).free 0
      have y4 := ((HBX.out.alloc (.cells s.cells 67)).alloc (.cells #[PT wr.heap.size] 23)).cell 0 rfl
      have y5 := ((HBX.out.alloc (.cells s.cells 67)).alloc (.cells #[PT wr.heap.size] 23)).free 0
      have y6 := HBY.out.cell 0 rfl
      have y7 := HBY.out.free 0
      have hob : w.heap.size < wr.heap.size := HBX.out.lt
      have hnf : some w.heap.size ≠ v.ownBlock := own_blk_ne HO.out HBY.out (by decide)
      have HNF := Lib.hid hnf
      clear hcn hCC hnf
      go_wp2_with fail
      go_region_law
        (first | ((refine step_append_lies _ (by rfl) (.tmp 23) (.tmp 26) 79 (by rfl) w.heap.size 23 i23 (.pointer none) 1 8 Try.underlying79 hi hz0 hz1 hz2 rfl (by omega) v cs2.length (cs2.map PT) (by rfl) HO.out ⟨wr.heap.size + 1, 0, none⟩ 1 1 [PT wr.heap.size] (by rfl) rfl HCN.out HC21.out (by omega) HC31.out HC41.out HC51.out (wr.heap.size + 1 + 1) (by simp) ?_); (intro g1 cap1 w1 hown1 hgrow1 hor1 _); (have k1 := HBY.out.grown hgrow1 HNF.out); (have q0 := k1.cell 0 rfl); (have q1 := k1.free 0); (have Q1 := Lib.hid hown1); (have Q2 := Lib.hid hgrow1); (have Q3 := Lib.hid hor1); (clear hown1 hgrow1 hor1 k1)) | (go_simp; refine HCC.out.mono ?_; rintro e w1 ⟨rfl, rfl⟩))
      all_goals
        have hR1 := (HR.out.drew.step ok Q1.out Q2.out Q3.out).beside (ob := w.heap.size) (HBY.out.grown Q2.out HNF.out) (by
          intro hm
          rcases List.mem_append.1 hm with h1 | h1
          · exact HNB.out h1
          · simp at h1; omega) (Nat.le_refl _) (.slice (some ⟨g1, 0, none⟩) (cs2.length + 1) cap1)
        have hB1 : Blk (w1.setCell ⟨w.heap.size, 0, none⟩ (.slice (some ⟨g1, 0, none⟩) (cs2.length + 1) cap1)) w.heap.size #[.slice (some ⟨g1, 0, none⟩) (cs2.length + 1) cap1] 81 := (HBY.out.grown Q2.out HNF.out).set 0 _
        have HR1 := Lib.hid hR1
        have HB1 := Lib.hid hB1
        clear hR1 hB1 q0 q1 y0 y1 y2 y3 y4 y5 y6 y7 b0 b1
        go_wp2_with fail
        go_roundg (ss.length - (cs2.length + 1))
        case measure => have := HK.out; omega
        case rel =>
          refine ⟨cs2 ++ [wr.heap.size], _, by first | (simp; done) | (simp; go_num), by simp; omega, by simp, ?_, HB1.out, ?_⟩
          · rw [show (cs2 ++ [wr.heap.size]).length = cs2.length + 1 by simp, HS.out]
            exact HR1.out
          · intro hm
            rcases List.mem_append.1 hm with h1 | h1
            · exact HNB.out h1
            · simp at h1; omega
    · have hqe : cs2.length = ss.length := by omega
      have hd : decide ((cs2.length : Int) < (ss.length : Int)) = false := by simp; omega
      rw [hqe, List.take_length] at hR
      obtain ⟨g, cap2, rfl, hgb, hgl⟩ := hR.own.form (by omega)
      have HBK := Lib.hid (hR.boxed hbx hnb (by omega) (by omega))
      have HR := Lib.hid hR
      have HGB := Lib.hid hgb
      rw [hqe]
      clear hR hbx hqe hlt hq hgb hgl hd
      go_wp2_with fail
      go_ret
      exact ⟨_, _, _, _, rfl, HBK.out, Nat.le_refl _, HR.out.lo, HGB.out, HR.out.bel⟩
end
end Go.Proofs.Ytfjkfigjenalgaa
