/- Lemmas for the laws of chapter 30 (civil): contracts of functions of the program, each under the premises that its own statement shows. -/
import Derived.Test.YtajjibfipkijfaaB1
import Derived.Maps.AppendAt
import Derived.Laws.OwnMore
import Derived.Deep.AppendLies
import Derived.OwnWalk
set_option linter.unusedSimpArgs false
set_option linter.unusedVariables false
namespace Go.Proofs.Ytajjibfipkijfaa
open Go.RowKit

theorem Blk.grown {w w' : World} {g : Nat} {t : TypeId} {cs : Array Value} {row : Option Nat} (h : Blk w g cs t) (hb : w.grownBy w' row) (hg : some g ≠ row) : Blk w' g cs t := (hb.block g h.lt hg).trans h
theorem Blk.ne_ {w : World} {g g' : Nat} {t t' : TypeId} {cs cs' : Array Value} (h : Blk w g cs t) (h' : Blk w g' cs' t') (hne : t ≠ t') : g ≠ g' := by
  rintro rfl
  unfold Blk at h h'
  rw [h] at h'
  injection h' with h'
  injection h' with _ ht
  exact hne ht
theorem own_blk_ne {w : World} {g : Nat} {t : TypeId} {cs : Array Value} {base : Nat} {e : TypeId} {size n : Nat} {v : Value} {xs : List Value} (h : w.ownsRow base e size v n xs) (hg : Blk w g cs t) (hne : e ≠ t) : some g ≠ v.ownBlock := by
  rcases h.2 with ⟨rfl, _⟩ | ⟨g', cap, cur, rfl, _, hh, _⟩
  · simp [Value.ownBlock]
  · intro he
    have : g = g' := by simpa [Value.ownBlock] using he
    subst this
    exact Blk.ne_ (t := e) hh hg hne rfl
theorem own_base {w : World} {base : Nat} {e : TypeId} {size n : Nat} {v : Value} {xs : List Value} (h : w.ownsRow base e size v n xs) : ∀ k, v.ownBlock = some k → base ≤ k := by
  rcases h.2 with ⟨rfl, _⟩ | ⟨g', cap, cur, rfl, hb, hh, _⟩
  · intro k hk; simp [Value.ownBlock] at hk
  · intro k hk
    have : g' = k := by simpa [Value.ownBlock] using hk
    omega

/-- The bytes collected so far: the captured variable's cell holds a slice of the call's own. -/
structure OutOK (w : World) (ob : Nat) (xs : List Int) (v : Value) : Prop where
  blk : Blk w ob #[v] 55
  own : w.ownsRow (ob + 1) 5 1 v xs.length (xs.map (Value.int .u8))

theorem out_new (w : World) : OutOK (w.alloc (.cells #[.slice none 0 0] 55)) w.heap.size [] (.slice none 0 0) :=
  ⟨Blk.new _ _ _, rfl, .inl ⟨rfl, rfl⟩⟩

theorem OutOK.below {w w' : World} {ob : Nat} {xs : List Int} {v : Value} (h : OutOK w ob xs v) (hb : Below w.heap.size w w') : OutOK w' ob xs v := by
  refine ⟨h.blk.below hb h.blk.lt, h.own.1, ?_⟩
  rcases h.own.2 with ⟨rfl, h2⟩ | ⟨g, cap, cur, h1, h2, h3, h4, h5, h6, h7⟩
  · exact .inl ⟨rfl, h2⟩
  · exact .inr ⟨g, cap, cur, h1, h2, by rw [hb.block g (Array.getElem?_eq_some_iff.1 h3).1]; exact h3, h4, h5, h6, h7⟩

theorem OutOK.alloc {w : World} {ob : Nat} {xs : List Int} {v : Value} (h : OutOK w ob xs v) (o : Obj) : OutOK (w.alloc o) ob xs v :=
  h.below ((Below.refl _ _).alloc (Nat.le_refl _) o)

/-- Behind an append and the store of the new slice. -/
theorem OutOK.step {w w1 : World} {ob : Nat} {xs ys : List Int} {v v1 : Value} (h : OutOK w ob xs v) (hg : w.grownBy w1 v.ownBlock) (ho : w1.ownsRow (ob + 1) 5 1 v1 (xs.length + ys.length) (xs.map (Value.int .u8) ++ ys.map (Value.int .u8))) :
    OutOK (w1.setCell ⟨ob, 0, none⟩ v1) ob (xs ++ ys) v1 ∧ (∀ B, B ≤ ob → Below B w (w1.setCell ⟨ob, 0, none⟩ v1)) ∧ (∀ g cs, Blk w g cs 3 → Blk (w1.setCell ⟨ob, 0, none⟩ v1) g cs 3) := by
  have hb1 : Blk w1 ob #[v] 55 := h.blk.grown hg (own_blk_ne h.own h.blk (by decide))
  refine ⟨⟨hb1.set 0 v1, ?_⟩, fun B hB => ?_, fun g cs hgc => ?_⟩
  · have := ownsRow_setCell_below ho (a := ⟨ob, 0, none⟩) (Nat.lt_succ_self ob) v1
    simpa using this
  · have h1 : Below B w w1 := (Below.refl B w).grown hg (by have := h.blk.lt; omega) (fun k hk => by have := own_base h.own k hk; omega)
    exact h1.setCell (p := ⟨ob, 0, none⟩) hB v1
  · have hg1 : Blk w1 g cs 3 := hgc.grown hg (own_blk_ne h.own hgc (by decide))
    exact hg1.set_ne 0 v1 (hb1.ne_ hg1 (by decide))

theorem cell_two_new' (w : World) (x y : Value) (t : TypeId) : ∀ j u, [x, y][j]? = some u → (w.alloc (.cells #[x, y] t)).cell? ((⟨w.heap.size, 0, none⟩ : Addr).add j) = some u := by
  intro j u hj
  have hB := Blk.new w #[x, y] t
  match j, hj with
  | 0, hj => exact hB.cell 0 (by simpa using hj)
  | 1, hj => exact hB.cell 1 (by simpa using hj)

theorem cell_two_st (w : World) (a : Addr) (s x y : Value) (t : TypeId) : ∀ j u, [x, y][j]? = some u → ((w.setCell a s).alloc (.cells #[x, y] t)).cell? ((⟨w.heap.size, 0, none⟩ : Addr).add j) = some u := by
  have := cell_two_new' (w.setCell a s) x y t
  simpa using this

theorem info5 : (Try.prog.info? 5).map (fun i => (i.zero, i.size, i.bytes)) = some (some (.int .u8 0), 1, 1) := by kernel_rfl

def dig2 (z : Int) : List Int := [48 + z / 10, 48 + z % 10]

/-- What 'put' appends: behind k numbers. -/
def putK (sg : Int) (zs : List Int) : Nat → List Int
  | 0 => []
  | k + 1 => putK sg zs k ++ ((if k = 0 then [] else [sg]) ++ dig2 (zs.getD k 0))

def RelP (w : World) (ob bl : Nat) (sg : Int) (zs xs : List Int) (k : Nat) (i : Value) (wr : World) : Prop :=
  ∃ (q : Nat) (v : Value), q ≤ zs.length ∧ zs.length - q = k ∧ i = I q ∧ Below ob w wr ∧ Blk wr bl (zs.map I).toArray 3 ∧ OutOK wr ob (xs ++ putK sg zs q) v

theorem putK_len (sg : Int) (zs : List Int) (k : Nat) : (putK sg zs k).length ≤ 3 * k := by
  induction k with
  | zero => simp [putK]
  | succ k ih => simp only [putK, List.length_append, dig2]; split <;> simp <;> omega

set_option maxHeartbeats 4000000 in
theorem put_any (w : World) (ob bl : Nat) (sg : Int) (zs xs : List Int) (v0 : Value) (hn : zs.length ≤ 3) (hx : xs.length ≤ 100) (hz : ∀ j, j < zs.length → 0 ≤ zs.getD j 0 ∧ zs.getD j 0 ≤ 99)
    (hbl : Blk w bl (zs.map I).toArray 3) (ho : OutOK w ob xs v0) :
    Calls Try.prog 28 #[.int .u8 sg, .slice (some ⟨bl, 0, none⟩) zs.length zs.length, .pointer (some ⟨ob, 0, none⟩)] w fun e w' => e = .returned (.tuple #[]) ∧ Below ob w w' ∧ ∃ v, OutOK w' ob (xs ++ putK sg zs zs.length) v := by
  obtain ⟨i5, hi, hz0, hz1, hz2⟩ := info_parts info5
  go_enter Try.func28, Try.ntmps28
  go_wp2_with fail
  go_loopg [9] (zs.length) (fun k i wr => RelP w ob bl sg zs xs k i wr)
  case atStart => exact ⟨0, v0, by omega, by omega, rfl, Below.refl _ _, hbl, by simpa [putK] using ho⟩
  case round =>
    obtain ⟨q, v, hq, hqk, rfl, hb, hbl, hok⟩ := hrel
    by_cases hlt : q < zs.length
    · have hcell : wr.cell? ⟨bl, q, none⟩ = some (I (zs.getD q 0)) := hbl.cell q (by simp [hlt])
      have hcz := hz q hlt
      have hlen := putK_len sg zs q
      generalize hzq : zs.getD q 0 = z at *
      have HZ := Lib.hid hzq; clear hzq
      have HZ2 := Lib.hid hz; clear hz
      have hoc := hok.blk.cell 0 rfl
      have hobw := hok.blk.lt
      have hlen2 : (xs ++ putK sg zs q).length ≤ 109 := by simp; omega
      generalize hXS : xs ++ putK sg zs q = XS at *
      have HXS := Lib.hid hXS; clear hXS
      by_cases h0 : q = 0
      · subst h0
        have hs0 := hok.alloc (.cells #[.int .u8 (48 + z / 10), .int .u8 (48 + z % 10)] 5)
        go_wp2_with (at_builtin; (refine wpList_append_lies _ rfl (.tmp 20) (.tmp 29) 55 rfl (ob + 1) 5 i5 (.int .u8 0) 1 1 Try.underlying55 hi hz0 hz1 hz2 rfl (by omega) v (XS).length ((XS).map (Value.int .u8)) rfl hs0.own ⟨wr.heap.size, 0, none⟩ 2 2 [.int .u8 (48 + z / 10), .int .u8 (48 + z % 10)] rfl rfl (cell_two_new' _ _ _ _) ?c21 (by omega) ?c31 ?c41 ?c51 (wr.heap.size + 1) (by simp) ?_); (case c21 => simp [Value.oneCell']); (case c31 => (unfold maxLen; first | omega | (simp; omega))); (case c41 => (first | omega | (simp; omega))); (case c51 => (first | omega | (simp; omega))); (intro g1 cap1 w1 hown1 hgrow1 _ _); (have hst1 := hs0.step (ys := dig2 z) hgrow1 hown1); (have hk1 := hs0.blk.grown hgrow1 (own_blk_ne hs0.own hs0.blk (by decide))); have k1 := hk1.cell 0 rfl; have k1f := hk1.free 0)
        go_roundg (zs.length - 1)
        case measure => omega
        case rel =>
          refine ⟨1, .slice (some ⟨g1, 0, none⟩) (XS.length + 2) cap1, by omega, rfl, by go_num, ?_, hst1.2.2 _ _ (hbl.alloc _), ?_⟩
          · exact (hb.alloc (by omega) _).trans (hst1.2.1 ob (Nat.le_refl _))
          · have e : xs ++ putK sg zs (0 + 1) = XS ++ dig2 z := by rw [← HXS.out]; simp only [putK, HZ.out]; simp
            rw [show (1 : Nat) = 0 + 1 from rfl, e]; exact hst1.1
      · have hq0 : (0 : Int) < (q : Int) := by omega
        have hs0 := hok.alloc (.cells #[.int .u8 sg] 5)
        go_wp2_with (first | (at_builtin; (refine wpList_append_lies _ rfl (.tmp 16) (.tmp 18) 55 rfl (ob + 1) 5 i5 (.int .u8 0) 1 1 Try.underlying55 hi hz0 hz1 hz2 rfl (by omega) v (XS).length ((XS).map (Value.int .u8)) rfl hs0.own ⟨wr.heap.size, 0, none⟩ 1 1 [.int .u8 (sg)] rfl rfl (cell_one_new _ _ _) ?c21 (by omega) ?c31 ?c41 ?c51 (wr.heap.size + 1) (by simp) ?_); (case c21 => simp [Value.oneCell']); (case c31 => (unfold maxLen; first | omega | (simp; omega))); (case c41 => (first | omega | (simp; omega))); (case c51 => (first | omega | (simp; omega))); (intro g1 cap1 w1 hown1 hgrow1 _ _); (have hst1 := hs0.step (ys := [sg]) hgrow1 hown1); (have hk1 := hs0.blk.grown hgrow1 (own_blk_ne hs0.own hs0.blk (by decide))); have k1 := hk1.cell 0 rfl; have k1f := hk1.free 0; have hs1 := hst1.1.alloc (.cells #[.int .u8 (48 + z / 10), .int .u8 (48 + z % 10)] 5); have hob1 := hst1.1.blk.lt; simp only [World.size_setCell] at hob1) | (at_builtin; (refine wpList_append_lies _ rfl (.tmp 20) (.tmp 29) 55 rfl (ob + 1) 5 i5 (.int .u8 0) 1 1 Try.underlying55 hi hz0 hz1 hz2 rfl (by omega) (.slice (some ⟨g1, 0, none⟩) (XS.length + 1) cap1) (XS ++ [sg]).length ((XS ++ [sg]).map (Value.int .u8)) rfl hs1.own ⟨w1.heap.size, 0, none⟩ 2 2 [.int .u8 (48 + z / 10), .int .u8 (48 + z % 10)] rfl rfl (cell_two_st w1 _ _ _ _ _) ?c22 (by omega) ?c32 ?c42 ?c52 (w1.heap.size + 1) (by simp) ?_); (case c22 => simp [Value.oneCell']); (case c32 => (unfold maxLen; first | omega | (simp; omega))); (case c42 => (first | omega | (simp; omega))); (case c52 => (first | omega | (simp; omega))); (intro g2 cap2 w2 hown2 hgrow2 _ _); (have hst2 := hs1.step (ys := dig2 z) hgrow2 hown2); (have hk2 := hs1.blk.grown hgrow2 (own_blk_ne hs1.own hs1.blk (by decide))); have k2 := hk2.cell 0 rfl; have k2f := hk2.free 0))
        go_roundg (zs.length - (q + 1))
        case measure => omega
        case rel =>
          rw [show (XS ++ [sg]).length + 2 = XS.length + 1 + 2 by simp] at hst2
          refine ⟨q + 1, .slice (some ⟨g2, 0, none⟩) (XS.length + 1 + 2) cap2, by omega, rfl, by go_num, ?_, hst2.2.2 _ _ ((hst1.2.2 _ _ (hbl.alloc _)).alloc _), ?_⟩
          · exact (((hb.alloc (by omega) _).trans (hst1.2.1 ob (Nat.le_refl _))).alloc (by simp; omega) _).trans (hst2.2.1 ob (Nat.le_refl _))
          · have e : xs ++ putK sg zs (q + 1) = XS ++ [sg] ++ dig2 z := by rw [← HXS.out]; simp only [putK, HZ.out]; simp [h0]
            rw [e]; exact hst2.1
    · obtain rfl : q = zs.length := by omega
      go_wp2
      go_end0
      exact ⟨rfl, hb, v, hok⟩
end Go.Proofs.Ytajjibfipkijfaa
