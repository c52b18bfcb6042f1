/- A new bank of timers. No conditions beyond those that each statement shows. -/
import Derived.Test.YtfjkfigjenalgaaV4
import Derived.Maps.AppendAt
import Derived.Laws.OwnMore
import Derived.Deep.AppendLies
import Derived.OwnWalk
namespace Go.Proofs.Ytfjkfigjenalgaa
open Go.RowKit
set_option linter.unusedVariables false
set_option linter.unusedSimpArgs false

theorem info23 : (Try.prog.info? 23).map (fun i => (i.zero, i.size, i.bytes)) = some (some (.pointer none), 1, 8) := by kernel_rfl

/-- A row of timers that is being made. -/
structure Row (w0 w : World) (v : Value) (cs : List Nat) (ss : List CS) : Prop where
  own : w.ownsRow w0.heap.size 23 1 v cs.length (cs.map PT)
  len : cs.length = ss.length
  tm : ∀ (i c : Nat) (s : CS), cs[i]? = some c → ss[i]? = some s → HC w c s ∧ s.Ok
  lo : ∀ c ∈ cs, w0.heap.size ≤ c
  nd : cs.Nodup
  na : ∀ g, v.ownBlock = some g → g ∉ cs
  bel : Below w0.heap.size w0 w

theorem Row.lt {w0 w : World} {v : Value} {cs : List Nat} {ss : List CS} (h : Row w0 w v cs ss) : ∀ c ∈ cs, c < w.heap.size := fun c hc => by
  obtain ⟨i, hi, rfl⟩ := List.getElem_of_mem hc
  have hs : ss[i]? = some (ss[i]'(by rw [← h.len]; exact hi)) := List.getElem?_eq_getElem _
  exact (h.tm i _ _ (List.getElem?_eq_getElem hi) hs).1.lt

/-- Behind the making of one timer more and its append. -/
theorem Row.step {w0 w w1 : World} {v : Value} {cs : List Nat} {ss : List CS} {s : CS} {g cap : Nat} (h : Row w0 w v cs ss) (ok : s.Ok)
    (hown : w1.ownsRow w0.heap.size 23 1 (.slice (some ⟨g, 0, none⟩) (cs.length + 1) cap) (cs.length + 1) (cs.map PT ++ [PT w.heap.size]))
    (hgr : ((w.alloc (.cells s.cells 67)).alloc (.cells #[PT w.heap.size] 23)).grownBy w1 v.ownBlock) (hg : v.ownBlock = some g ∨ g = w.heap.size + 1 + 1) :
    Row w0 w1 (.slice (some ⟨g, 0, none⟩) (cs.length + 1) cap) (cs ++ [w.heap.size]) (ss ++ [s]) := by
  have hlt := h.lt
  have hvl := h.own.lt
  have hb := h.bel.size
  refine ⟨by simpa using hown, by simp [h.len], fun i c t hc ht => ?_, fun c hc => ?_, ?_, fun g' hg' => ?_, ?_⟩
  · by_cases hi : i < cs.length
    · rw [List.getElem?_append_left hi] at hc
      rw [List.getElem?_append_left (by rw [← h.len]; exact hi)] at ht
      obtain ⟨a, b⟩ := h.tm i c t hc ht
      refine ⟨Blk.grown ((Blk.alloc (Blk.alloc a _) _)) hgr ?_, b⟩
      intro e
      exact h.na c e.symm (List.mem_of_getElem? hc)
    · have hi2 : i = cs.length := by
        have := (List.getElem?_eq_some_iff.1 hc).1
        simp at this
        omega
      subst hi2
      rw [List.getElem?_append_right (Nat.le_refl _), Nat.sub_self] at hc
      rw [List.getElem?_append_right (by rw [h.len]; exact Nat.le_refl _), h.len, Nat.sub_self] at ht
      simp at hc ht
      subst hc ht
      refine ⟨Blk.grown ((Blk.new w s.cells 67).alloc _) hgr ?_, ok⟩
      intro e
      have := (hvl _ e.symm).2
      omega
  · rcases List.mem_append.1 hc with h1 | h1
    · exact h.lo c h1
    · simp at h1; omega
  · rw [List.nodup_append]
    refine ⟨h.nd, by simp, fun a ha b hb' => ?_⟩
    simp at hb'
    have := hlt a ha
    omega
  · have e : g = g' := by simpa [Value.ownBlock] using hg'
    subst e
    intro hm
    rcases List.mem_append.1 hm with h1 | h1
    · rcases hg with h2 | h2
      · exact h.na g h2 h1
      · have := hlt g h1; omega
    · simp at h1
      rcases hg with h2 | h2
      · have := (hvl g h2).2; omega
      · omega
  · have b1 := (h.bel.alloc hb (.cells s.cells 67)).alloc (by simp; omega) (.cells #[PT w.heap.size] 23)
    exact b1.grown hgr (by simp; omega) (fun k hk => (hvl k hk).1)

/-- A row that is done, in a box: a bank. -/
theorem Row.bank {w0 w : World} {g cap : Nat} {cs : List Nat} {ss : List CS} (h : Row w0 w (.slice (some ⟨g, 0, none⟩) cs.length cap) cs ss) (hlo : 1 ≤ cs.length) (hi : cs.length ≤ 8) (cap2 : Nat) :
    BK (w.alloc (.cells #[.slice (some ⟨g, 0, none⟩) ss.length cap2] 81)) w.heap.size g cap2 cs ss := by
  have hlt := h.lt
  have hg := (h.own.lt g rfl).2
  refine ⟨h.len, by rw [← h.len]; exact hlo, by rw [← h.len]; exact hi, Blk.new _ _ _, ?_, fun i c s hc hs => ⟨(h.tm i c s hc hs).1.alloc _, (h.tm i c s hc hs).2⟩, h.nd, fun hm => by have := hlt _ hm; omega, h.na g rfl, by omega⟩
  rcases h.own.2 with ⟨h1, _⟩ | ⟨g', cap', cur, h1, h2, h3, h4, h5, h6, h7⟩
  · cases h1
  · simp at h1
    obtain ⟨rfl, rfl⟩ := h1
    refine ⟨cur, (show Blk w g cur 23 from h3).alloc _, fun i c hc => ?_⟩
    have e : (cs.map PT)[i]? = some (PT c) := by rw [List.getElem?_map, hc]; rfl
    rw [← h7, List.getElem?_take] at e
    split at e
    · simpa using e
    · cases e

def RelN (w0 : World) (n : Nat) (k : Nat) (v i : Value) (wr : World) : Prop :=
  ∃ cs, i = I (cs.length : Nat) ∧ cs.length ≤ n ∧ k = n - cs.length ∧ Row w0 wr v cs (List.replicate cs.length CS.zero)

set_option maxRecDepth 100000 in
set_option maxHeartbeats 2000000 in
theorem bnew_any (n : Nat) (n1 : 1 ≤ n) (n8 : n ≤ 8) (w : World) :
    Calls Try.prog 24 #[I (n : Nat)] w fun e w' => ∃ bb ab cs, e = .returned (.tuple #[.pointer (some ⟨bb, 0, none⟩), I 0]) ∧ BK w' bb ab n cs (List.replicate n CS.zero) ∧ w.heap.size ≤ bb ∧ (∀ c ∈ cs, w.heap.size ≤ c) ∧ Below w.heap.size w w' := by
  obtain ⟨i23, hi, hz0, hz1, hz2⟩ := info_parts info23
  have d1 : decide ((n : Int) < 1) = false := by simp; omega
  have d2 : decide (8 < (n : Int)) = false := by simp; omega
  go_enter Try.func24, Try.ntmps24
  go_wp2_with fail
  go_loopg [4, 12] n (fun k v i wr => RelN w n k v i wr)
  case atStart => exact ⟨[], rfl, by simp, rfl, ⟨World.ownsRow_nil _ _ _ _, rfl, fun i c s h => by simp at h, fun c h => by simp at h, List.nodup_nil, fun g h => by simp [Value.ownBlock] at h, Below.refl _ _⟩⟩
  case round =>
    obtain ⟨cs, rfl, hq, hk, hR⟩ := hrel
    have HK := Lib.hid hk
    clear hk
    by_cases hlt : cs.length < n
    · have hd : decide ((cs.length : Int) < (n : Int)) = true := by simp; omega
      have HR := Lib.hid hR
      have HO : Hid (((wr.alloc (.cells CS.zero.cells 67)).alloc (.cells #[PT wr.heap.size] 23)).ownsRow w.heap.size 23 1 _ cs.length (cs.map PT)) := Lib.hid ((hR.own.alloc _).alloc _)
      have hsz := hR.bel.size
      have hcn : ∀ j u, [PT wr.heap.size][j]? = some u → ((wr.alloc (.cells CS.zero.cells 67)).alloc (.cells #[PT wr.heap.size] 23)).cell? ((⟨wr.heap.size + 1, 0, none⟩ : Addr).add j) = some u := by
        have := cell_one_new (wr.alloc (.cells CS.zero.cells 67)) (PT wr.heap.size) 23
        simpa using this
      have HCN := Lib.hid hcn
      have HC21 : Hid (∀ u ∈ [PT wr.heap.size], u.oneCell' = true) := Lib.hid (by intro u hu; rw [List.mem_singleton] at hu; subst hu; rfl)
      have HC31 : Hid (cs.length + 1 ≤ maxLen) := Lib.hid (by unfold maxLen; omega)
      have HC41 : Hid ((cs.length + 1) * 8 ≤ 140737488355328) := Lib.hid (by omega)
      have HC51 : Hid (w.heap.size ≤ ((wr.alloc (.cells CS.zero.cells 67)).alloc (.cells #[PT wr.heap.size] 23)).heap.size) := Lib.hid (by simp; omega)
      clear hR hcn
      go_wp2_with ((go_at_call 11; fail))
      refine (new_any _).mono ?_
      rintro e w1 ⟨rfl, rfl⟩
      go_wp2_with (at_builtin; (refine wpList_append_lies _ rfl (.tmp 14) (.tmp 16) 79 rfl w.heap.size 23 i23 (.pointer none) 1 8 Try.underlying79 hi hz0 hz1 hz2 rfl (by omega) u4 cs.length (cs.map PT) rfl HO.out ⟨wr.heap.size + 1, 0, none⟩ 1 1 [PT wr.heap.size] rfl rfl HCN.out HC21.out (by omega) HC31.out HC41.out HC51.out (wr.heap.size + 1 + 1) (by simp) ?_); (intro g1 cap1 w1 hown1 hgrow1 hor1 _); (have Q1 := Lib.hid hown1); (have Q2 := Lib.hid hgrow1); (have Q3 := Lib.hid hor1); (clear hown1 hgrow1 hor1))
      have hR1 := Lib.hid (HR.out.step CS.zero_ok Q1.out Q2.out Q3.out)
      have HR1 : Hid (Row w w1 (.slice (some ⟨g1, 0, none⟩) (cs.length + 1) cap1) (cs ++ [wr.heap.size]) (List.replicate (cs ++ [wr.heap.size]).length CS.zero)) := Lib.hid (by
        have := hR1.out
        rw [show List.replicate cs.length CS.zero ++ [CS.zero] = List.replicate (cs ++ [wr.heap.size]).length CS.zero by simp [List.replicate_succ']] at this
        exact this)
      clear hR1
      go_roundg (n - (cs.length + 1))
      case measure => have := HK.out; omega
      case rel => exact ⟨cs ++ [wr.heap.size], by first | (simp; done) | (simp; go_num), by simp; omega, by simp, HR1.out⟩
    · have hqe : cs.length = n := by omega
      have hd : decide ((cs.length : Int) < (n : Int)) = false := by simp; omega
      obtain ⟨g, cap, rfl, hgb, hgl⟩ := hR.own.form (by omega)
      have hcap : cs.length ≤ cap ∧ cap ≤ maxLen := by
        rcases hR.own.2 with ⟨h1, _⟩ | ⟨g', cap', cur, h1, h2, h3, h4, h5, h6, h7⟩
        · cases h1
        · simp at h1; obtain ⟨_, rfl⟩ := h1; exact ⟨h4, h5⟩
      have hbk := hR.bank (by omega) (by omega) n
      have hlo := hR.lo
      have hbl := hR.bel
      rw [List.length_replicate, hqe] at hbk
      obtain ⟨c1, c2⟩ := hcap
      unfold maxLen at c2
      rw [hqe]
      rw [hqe] at hd c1
      have HBK := Lib.hid hbk
      have HLO := Lib.hid hlo
      have HBL := Lib.hid hbl
      clear hR hbk hlo hbl hqe hlt hq
      go_wp2_with fail
      go_ret2
      exact ⟨_, _, _, rfl, HBK.out, HBL.out.size, HLO.out, HBL.out.alloc HBL.out.size _⟩
end Go.Proofs.Ytfjkfigjenalgaa
