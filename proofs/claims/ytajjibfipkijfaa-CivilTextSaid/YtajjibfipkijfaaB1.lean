/- Lemmas for the laws of chapter 30 (civil): contracts of functions of the program, each under the premises that its own statement shows. -/
import Derived.Test.YtajjibfipkijfaaA5
import Derived.Test.YtajjibfipkijfaaA6
import Derived.Deep.LoopGhost
import Derived.Lib.Hide
set_option linter.unusedSimpArgs false
set_option linter.unusedVariables false
namespace Go.Proofs.Ytajjibfipkijfaa
open Go.RowKit

/-- A block of cells, known whole. -/
def Blk (w : World) (b : Nat) (vs : Array Value) (T : TypeId) : Prop := w.heap[b]? = some (.cells vs T (0, 0))

theorem Blk.cell {w : World} {b : Nat} {vs : Array Value} {T : TypeId} (h : Blk w b vs T) (j : Nat) {v : Value} (hv : vs[j]? = some v) : w.cell? ⟨b, j, none⟩ = some v := by
  unfold Blk at h; simp [World.cell?, h, hv]
theorem Blk.free {w : World} {b : Nat} {vs : Array Value} {T : TypeId} (h : Blk w b vs T) (j : Nat) : w.frozen? ⟨b, j, none⟩ = false := by
  unfold Blk at h; simp [World.frozen?, h]
theorem Blk.lt {w : World} {b : Nat} {vs : Array Value} {T : TypeId} (h : Blk w b vs T) : b < w.heap.size := by
  unfold Blk at h; exact (Array.getElem?_eq_some_iff.1 h).1
theorem Blk.below {w w' : World} {B b : Nat} {vs : Array Value} {T : TypeId} (h : Blk w b vs T) (hb : Below B w w') (hlt : b < B) : Blk w' b vs T := by
  unfold Blk at *; rw [hb.block b hlt]; exact h
theorem Blk.set {w : World} {b : Nat} {vs : Array Value} {T : TypeId} (h : Blk w b vs T) (j : Nat) (v : Value) : Blk (w.setCell ⟨b, j, none⟩ v) b (vs.setIfInBounds j v) T := by
  unfold Blk at *; simp [World.setCell, Array.getElem?_modify, h]
theorem Blk.set_ne {w : World} {b c : Nat} {vs : Array Value} {T : TypeId} (h : Blk w b vs T) (j : Nat) (v : Value) (hne : c ≠ b) : Blk (w.setCell ⟨c, j, none⟩ v) b vs T := by
  unfold Blk at *; simp [World.setCell, Array.getElem?_modify, hne, h]
theorem Blk.alloc {w : World} {b : Nat} {vs : Array Value} {T : TypeId} (h : Blk w b vs T) (o : Obj) : Blk (w.alloc o) b vs T := by
  have := h.lt; unfold Blk at *; rw [← h]; exact Below.heap_alloc w o b this
theorem Blk.drew {w : World} {b : Nat} {vs : Array Value} {T : TypeId} (h : Blk w b vs T) : Blk w.drew b vs T := h
theorem Blk.new (w : World) (vs : Array Value) (T : TypeId) : Blk (w.alloc (.cells vs T)) w.heap.size vs T := by
  unfold Blk; show (w.heap.push _)[w.heap.size]? = _; simp

theorem below_set6 {B b : Nat} {a w : World} (h : Below B a w) (hb : B ≤ b) (v0 v1 v2 v3 v4 v5 : Value) :
    Below B a ((((((w.setCell ⟨b, 0, none⟩ v0).setCell ⟨b, 1, none⟩ v1).setCell ⟨b, 2, none⟩ v2).setCell ⟨b, 3, none⟩ v3).setCell ⟨b, 4, none⟩ v4).setCell ⟨b, 5, none⟩ v5) :=
  (((((h.setCell (p := ⟨b, 0, none⟩) hb _).setCell (p := ⟨b, 1, none⟩) hb _).setCell (p := ⟨b, 2, none⟩) hb _).setCell (p := ⟨b, 3, none⟩) hb _).setCell (p := ⟨b, 4, none⟩) hb _).setCell (p := ⟨b, 5, none⟩) hb _

abbrev I (n : Int) : Value := .int .i64 n

theorem guess_year (n y : Int) (h0 : 0 ≤ n) (h : aheadB y ≤ n) (h2 : n < aheadB (y + 1)) (hy : 1970 ≤ y) : 1970 + n / 366 ≤ y := by
  unfold aheadB at *; omega

abbrev OneBlk (w wr : World) (v m d a b c : Int) : Prop := Below w.heap.size w wr ∧ Blk wr w.heap.size #[I 0, I 0, I 0, I 0, I 0, I 0] 24 ∧ Blk wr (w.heap.size + 1) #[I v, I m, I d, I a, I b, I c] 24

def Rel1 (w : World) (y a b c : Int) (k : Nat) (wr : World) : Prop := ∃ v : Int, 1970 ≤ v ∧ v ≤ y ∧ (y - v).toNat = k ∧ OneBlk w wr v 1 0 a b c

def Rel2 (w : World) (n y m a b c : Int) (k : Nat) (sl : Value) (wr : World) : Prop := ∃ v : Int, 1 ≤ v ∧ v ≤ m ∧ (m - v).toNat = k ∧ sl = I (n - aheadB y - cumB y v) ∧ OneBlk w wr y v 0 a b c

set_option maxHeartbeats 4000000 in
theorem of_any (s y m d : Int) (h0 : 0 ≤ s) (h1 : s ≤ 253402300799) (hd : IsDate (s / 86400) y m d) (w : World) :
    Calls Try.prog 7 #[.int .u64 s] w fun e w' => e = .returned (.tuple #[.agg #[I y, I m, I d, I (s % 86400 / 3600), I (s % 3600 / 60), I (s % 60)], .int .i64 0]) ∧ Below w.heap.size w w' := by
  have hg := guess_year (s / 86400) y (by omega) hd.low hd.high hd.y0
  go_enter Try.func7, Try.ntmps7
  go_wp2_with fail
  go_step3
  go_wp2_with fail
  go_step3
  go_wp2_with fail
  go_loopg [] ((y - (1970 + s / 86400 / 366)).toNat) (fun k wr => Rel1 w y (s % 86400 / 3600) (s % 3600 / 60) (s % 60) k wr)
  case atStart => exact ⟨1970 + s / 86400 / 366, by omega, hg, rfl, ((Below.refl _ _).alloc (Nat.le_refl _) _).alloc (by simp) _, (Blk.new _ _ _).alloc _, by have := Blk.new (w.alloc (.cells #[I 0, I 0, I 0, I 0, I 0, I 0] 24)) #[I (1970 + s / 86400 / 366), I 1, I 0, I (s % 86400 / 3600), I (s % 3600 / 60), I (s % 60)] 24; simpa using this⟩
  case round =>
    obtain ⟨v, hv0, hvy, hvk, hb, hz, hv⟩ := hrel
    have c0 : ∀ x : WX wr, x.w.cell? ⟨w.heap.size + 1, 0, none⟩ = some (I v) := fun x => x.cell (hv.cell 0 rfl)
    have cc0 := hv.cell 0 rfl
    have ff0 := hv.free 0
    have hs := ahead_succ v (by omega)
    have hlen : 365 ≤ lenB v ∧ lenB v ≤ 366 := by rw [lenB_eq]; have := leapI_bd v; omega
    have hah : 0 ≤ aheadB v ∧ aheadB v ≤ 3000000 := by have := hd.y1; unfold aheadB; omega
    have h9 := hd.y1
    by_cases hlt : v < y
    · have hle : aheadB v + lenB v ≤ s / 86400 := by rw [← hs]; have := ahead_mono (v + 1) y (by omega) (by omega); have := hd.low; omega
      clear hs
      go_wp2_with fail
      refine wp_region_grown (by kernel_rfl) (by kernel_rfl) ?_
      repeat (go_big_quiet_step (first | (go_at_call 25; exact WX.of_same (ahead_any _ (by omega) (by omega) _)) | (go_at_call 26; exact WX.of_same (length_any _ _))))
      refine wpQuiet_nil ?_
      intro w2 hb2
      have hv2 := hv.below hb2 hv.lt
      have cc2 := hv2.cell 0 rfl
      have ff2 := hv2.free 0
      clear c0 cc0 ff0
      go_wp2
      go_roundg (y - (v + 1)).toNat
      case measure => omega
      case rel => exact ⟨v + 1, by omega, by omega, rfl, (hb.trans (hb2.mono hb.size)).setCell (by simp) _, (hz.below hb2 hz.lt).set_ne _ _ (by omega), hv2.set 0 _⟩
    · obtain rfl : v = y := by omega
      have hgt : s / 86400 < aheadB v + lenB v := by rw [← hs]; exact hd.high
      clear hs
      have hlow := hd.low
      go_wp2_with fail
      refine wp_region_grown (by kernel_rfl) (by kernel_rfl) ?_
      repeat (go_big_quiet_step (first | (go_at_call 25; exact WX.of_same (ahead_any _ (by omega) (by omega) _)) | (go_at_call 26; exact WX.of_same (length_any _ _))))
      refine wpQuiet_nil ?_
      intro w2 hb2
      have hv2 := hv.below hb2 hv.lt
      have hz2 := hz.below hb2 hz.lt
      have hbb := hb.trans (hb2.mono hb.size)
      have cc2 := hv2.cell 0 rfl
      clear c0 cc0 ff0 hb hb2 hz hv
      go_wp2_with (go_at_call 25; refine (ahead_any _ (by omega) (by omega) _).mono ?_; rintro e w' ⟨rfl, rfl⟩)
      go_step3
      go_wp2_with fail
      have hml := hd.mlow
      have hcl := cum_1 v
      go_loopg [4] ((m - 1).toNat) (fun k sl wr => Rel2 w (s / 86400) v m (s % 86400 / 3600) (s % 3600 / 60) (s % 60) k sl wr)
      case atStart => exact ⟨1, by omega, hd.m0, rfl, by rw [hcl]; go_num, hbb, hz2, hv2⟩
      case round =>
        obtain ⟨q, hq0, hqm, hqk, rfl, hb, hz, hv⟩ := hrel
        clear cc2 hz2 hv2 hbb
        have cc0 := hv.cell 0 rfl
        have cc1 := hv.cell 1 rfl
        have hm12 := hd.m1
        have hcs := cum_succ v q (by omega) hq0 (by omega)
        have hdb := days_bd v q (by omega) hq0 (by omega)
        have hcm := cum_mono v 1 q (by omega) (by omega) hq0 (by omega)
        have hcM := cum_mono v q 13 (by omega) hq0 (by omega) (by omega)
        rw [cum_13] at hcM
        have hc0 : 0 ≤ cumB v q := by omega
        by_cases hlt : q < m
        · have hle : daysB v q ≤ s / 86400 - aheadB v - cumB v q := by have := cum_mono v (q + 1) m (by omega) (by omega) (by omega) (by omega); omega
          have H := Lib.hid hcs; clear hcs
          have HL := Lib.hid hcl; clear hcl
          go_wp2_with (go_at_call 16; refine (days_any _ _ _).mono ?_; rintro e w2 ⟨rfl, hb2⟩; have hv2 := hv.below hb2 hv.lt; have ff2 := hv2.free 1; have cc2 := hv2.cell 1 rfl)
          go_roundg (m - (q + 1)).toNat
          case measure => omega
          case rel => exact ⟨q + 1, by omega, by omega, rfl, by rw [H.out]; go_num, (hb.trans (hb2.mono hb.size)).setCell (by simp) _, (hz.below hb2 hz.lt).set_ne _ _ (by omega), hv2.set 1 _⟩
        · obtain rfl : q = m := by omega
          have hhi := hd.d1
          have hnum := hd.num
          have h32 : s / 86400 - aheadB v - cumB v q < daysB v q := by omega
          have HN := Lib.hid hnum; clear hnum
          have H := Lib.hid hcs; clear hcs
          have HL := Lib.hid hcl; clear hcl
          go_wp2_with (go_at_call 16; refine (days_any _ _ _).mono ?_; rintro e w2 ⟨rfl, hb2⟩; have hv2 := hv.below hb2 hv.lt; have hz2 := hz.below hb2 hz.lt; have ff2 := hv2.free 2; have cc20 := hv2.cell 0 rfl; have cc21 := hv2.cell 1 rfl; have cc22 := hv2.cell 2 rfl; have cc23 := hv2.cell 3 rfl; have cc24 := hv2.cell 4 rfl; have cc25 := hv2.cell 5 rfl; have zz0 := hz2.cell 0 rfl; have zz1 := hz2.cell 1 rfl; have zz2 := hz2.cell 2 rfl; have zz3 := hz2.cell 3 rfl; have zz4 := hz2.cell 4 rfl; have zz5 := hz2.cell 5 rfl; have zf0 := hz2.free 0; have zf1 := hz2.free 1; have zf2 := hz2.free 2; have zf3 := hz2.free 3; have zf4 := hz2.free 4; have zf5 := hz2.free 5)
          rw [Exit.noGoto_ret]
          have he : s / 86400 - aheadB v - cumB v q + 1 = d := by have := HN.out; omega
          rw [he]
          refine bodyPost_ret (v := .tuple #[.agg #[I v, I q, I d, I (s % 86400 / 3600), I (s % 3600 / 60), I (s % 60)], .int .i64 0]) (by simp [results, Try.results7, go_sem, zz0, zz1, zz2, zz3, zz4, zz5, zf0]) rfl ⟨rfl, ?_⟩
          have hbb := hb.trans (hb2.mono hb.size)
          exact below_set6 (Below.setCell hbb (p := ⟨w.heap.size + 1, 2, none⟩) (Nat.le_succ _) _) (Nat.le_refl _) _ _ _ _ _ _
end Go.Proofs.Ytajjibfipkijfaa
