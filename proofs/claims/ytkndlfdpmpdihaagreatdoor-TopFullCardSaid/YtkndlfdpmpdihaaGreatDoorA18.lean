/- What is taken: the lowest. The wheel: the next deadline. The service over a board that is told by an interface. Wheels whose chains are told by lists: what Next tells; plain law. The service's call; a timer is set at a time. Conditions: those that each statement shows. -/
import Derived.Test.YtkndlfdpmpdihaaGreatDoorA17
import Derived.Test.YtkndlfdpmpdihaaGreatDoorA16
namespace Go.Proofs.YtkndlfdpmpdihaaGreatDoor
open Go.RowKit Go.Ev Go.Mv
set_option linter.unusedVariables false
set_option linter.unusedSimpArgs false
set_option maxRecDepth 100000
attribute [local go_sem] Oper.semAt_some
theorem bits0 {L : List Nat} (h : Bits 0 (nxtN 0 0) L) : L = [] := by
  cases L with
  | nil => rfl
  | cons a l =>
    have := h.1
    have e : nxtN 0 0 = -1 := by unfold nxtN firstN; simp
    omega
theorem low0 {M : Nat → Nat} {L : Nat → List Nat} (hL : ∀ l, l < 8 → Bits (M l) (nxtN (M l) 0) (L l)) (h : ∀ l, l < 8 → M l = 0) : upToL L 8 = [] := by
  unfold upToL
  rw [List.flatMap_eq_nil_iff]
  intro l hl
  have hl' : l < 8 := List.mem_range.1 hl
  have := hL l hl'
  rw [h l hl'] at this
  rw [bits0 this]
  rfl
set_option maxHeartbeats 4000000 in
theorem lowest_in (n : Nat) (hn : 3 ≤ n) {M : Nat → Nat} (hM : ∀ i, M i < 18446744073709551616) {L : Nat → List Nat} (hL : ∀ l, l < 8 → Bits (M l) (nxtN (M l) 0) (L l)) (w : World) (hT : TabW w) :
    CallsIn Fence.wide n Tryz.prog 191 #[.agg (arr8 M)] w fun e W' => e = .returned (.tuple #[.int .i64 (lowK L).1, .int .i64 (lowK L).2]) ∧ Below w.heap.size w W' := by
  have h1 : 1 ≤ n := by omega
  have heq := eq_arr8 (M 0) (M 1) (M 2) (M 3) (M 4) (M 5) (M 6) (M 7) 0 0 0 0 0 0 0 0
  have hE : CallsIn Fence.wide (n - 1) Tryz.prog 239 #[.agg #[.int .u64 (M 0), .int .u64 (M 1), .int .u64 (M 2), .int .u64 (M 3), .int .u64 (M 4), .int .u64 (M 5), .int .u64 (M 6), .int .u64 (M 7)]] (((w.alloc (.cells #[.int .u64 (M 0), .int .u64 (M 1), .int .u64 (M 2), .int .u64 (M 3), .int .u64 (M 4), .int .u64 (M 5), .int .u64 (M 6), .int .u64 (M 7)] 213)).alloc (.cells #[.int .i64 0] 3)).alloc (.cells #[.int .i64 0] 3)) fun e w' => e = .returned (.func (.func 301) #[] #[.pointer (some ⟨w.heap.size + 1 + 1 + 1, 0, none⟩)]) ∧ w' = (((w.alloc (.cells #[.int .u64 (M 0), .int .u64 (M 1), .int .u64 (M 2), .int .u64 (M 3), .int .u64 (M 4), .int .u64 (M 5), .int .u64 (M 6), .int .u64 (M 7)] 213)).alloc (.cells #[.int .i64 0] 3)).alloc (.cells #[.int .i64 0] 3)).alloc (.cells #[.int .u64 (M 0), .int .u64 (M 1), .int .u64 (M 2), .int .u64 (M 3), .int .u64 (M 4), .int .u64 (M 5), .int .u64 (M 6), .int .u64 (M 7)] 213) := by
    have := each_at M (n - 1) (((w.alloc (.cells #[.int .u64 (M 0), .int .u64 (M 1), .int .u64 (M 2), .int .u64 (M 3), .int .u64 (M 4), .int .u64 (M 5), .int .u64 (M 6), .int .u64 (M 7)] 213)).alloc (.cells #[.int .i64 0] 3)).alloc (.cells #[.int .i64 0] 3))
    simp only [World.size_alloc] at this
    exact this
  unfold arr8
  refine callsIn_of_wp_marks Tryz.func191 rfl trivial ?_ rfl
  simp only [Tryz.ntmps191, List.size_toArray, List.length_cons, List.length_nil, Nat.reduceAdd, Nat.reduceSub, Array.replicate_succ, Array.replicate_zero, List.push_toArray, List.append_toArray, List.nil_append, List.cons_append]
  obtain ⟨bz, hbz⟩ : ∃ bz, bz = ([(M 0 : Int), (M 1 : Int), (M 2 : Int), (M 3 : Int), (M 4 : Int), (M 5 : Int), (M 6 : Int), (M 7 : Int)] == [0, 0, 0, 0, 0, 0, 0, 0]) := ⟨_, rfl⟩
  rw [← hbz] at heq
  gi_wp2_with (refine ⟨trivial, ?_⟩; gi_at_call 239; fail)
  · rename_i hz
    have hz' : ∀ l, l < 8 → M l = 0 := by
      simp at hz
      intro l hl
      match l, hl with
      | 0, _ => omega
      | 1, _ => omega
      | 2, _ => omega
      | 3, _ => omega
      | 4, _ => omega
      | 5, _ => omega
      | 6, _ => omega
      | 7, _ => omega
    have hlow : lowK L = (-1, -1) := by unfold lowK; rw [low0 hL hz']
    have hB : Below w.heap.size w (((w.alloc (.cells #[.int .u64 (M 0), .int .u64 (M 1), .int .u64 (M 2), .int .u64 (M 3), .int .u64 (M 4), .int .u64 (M 5), .int .u64 (M 6), .int .u64 (M 7)] 213)).alloc (.cells #[.int .i64 (-1)] 3)).alloc (.cells #[.int .i64 (-1)] 3)) := (((Below.refl _ w).alloc (Nat.le_refl _) _).alloc (by simp) _).alloc (by simp; omega) _
    have q1 : (((w.alloc (.cells #[.int .u64 (M 0), .int .u64 (M 1), .int .u64 (M 2), .int .u64 (M 3), .int .u64 (M 4), .int .u64 (M 5), .int .u64 (M 6), .int .u64 (M 7)] 213)).alloc (.cells #[.int .i64 (-1)] 3)).alloc (.cells #[.int .i64 (-1)] 3)).cell? ⟨w.heap.size + 1, 0, none⟩ = some (.int .i64 (-1)) := by
      have := ((Blk.new (w.alloc (.cells #[.int .u64 (M 0), .int .u64 (M 1), .int .u64 (M 2), .int .u64 (M 3), .int .u64 (M 4), .int .u64 (M 5), .int .u64 (M 6), .int .u64 (M 7)] 213)) #[.int .i64 (-1)] 3).alloc (.cells #[.int .i64 (-1)] 3)).cell 0 rfl
      simpa using this
    have q2 : (((w.alloc (.cells #[.int .u64 (M 0), .int .u64 (M 1), .int .u64 (M 2), .int .u64 (M 3), .int .u64 (M 4), .int .u64 (M 5), .int .u64 (M 6), .int .u64 (M 7)] 213)).alloc (.cells #[.int .i64 (-1)] 3)).alloc (.cells #[.int .i64 (-1)] 3)).cell? ⟨w.heap.size + 1 + 1, 0, none⟩ = some (.int .i64 (-1)) := by
      have := (Blk.new ((w.alloc (.cells #[.int .u64 (M 0), .int .u64 (M 1), .int .u64 (M 2), .int .u64 (M 3), .int .u64 (M 4), .int .u64 (M 5), .int .u64 (M 6), .int .u64 (M 7)] 213)).alloc (.cells #[.int .i64 (-1)] 3)) #[.int .i64 (-1)] 3).cell 0 rfl
      simpa using this
    rw [hlow]
    generalize (((w.alloc (.cells #[.int .u64 (M 0), .int .u64 (M 1), .int .u64 (M 2), .int .u64 (M 3), .int .u64 (M 4), .int .u64 (M 5), .int .u64 (M 6), .int .u64 (M 7)] 213)).alloc (.cells #[.int .i64 (-1)] 3)).alloc (.cells #[.int .i64 (-1)] 3)) = w9 at *
    refine ⟨.tuple #[.int .i64 (-1), .int .i64 (-1)], ?_, rfl, hB⟩
    simp [results, Tryz.f191, go_sem, q1, q2]
  · refine ⟨trivial, ?_⟩
    refine hE.mono ?_
    rintro e w1 ⟨rfl, rfl⟩
    have bR1 : Boxed ((((w.alloc (.cells #[.int .u64 (M 0), .int .u64 (M 1), .int .u64 (M 2), .int .u64 (M 3), .int .u64 (M 4), .int .u64 (M 5), .int .u64 (M 6), .int .u64 (M 7)] 213)).alloc (.cells #[.int .i64 0] 3)).alloc (.cells #[.int .i64 0] 3)).alloc (.cells #[.int .u64 (M 0), .int .u64 (M 1), .int .u64 (M 2), .int .u64 (M 3), .int .u64 (M 4), .int .u64 (M 5), .int .u64 (M 6), .int .u64 (M 7)] 213)) (w.heap.size + 1) 3 (.int .i64 0) := by
      have := ((Boxed.new (w.alloc (.cells #[.int .u64 (M 0), .int .u64 (M 1), .int .u64 (M 2), .int .u64 (M 3), .int .u64 (M 4), .int .u64 (M 5), .int .u64 (M 6), .int .u64 (M 7)] 213)) 3 (.int .i64 0)).alloc (.cells #[.int .i64 0] 3)).alloc (.cells #[.int .u64 (M 0), .int .u64 (M 1), .int .u64 (M 2), .int .u64 (M 3), .int .u64 (M 4), .int .u64 (M 5), .int .u64 (M 6), .int .u64 (M 7)] 213)
      simpa using this
    have bR2 : Boxed ((((w.alloc (.cells #[.int .u64 (M 0), .int .u64 (M 1), .int .u64 (M 2), .int .u64 (M 3), .int .u64 (M 4), .int .u64 (M 5), .int .u64 (M 6), .int .u64 (M 7)] 213)).alloc (.cells #[.int .i64 0] 3)).alloc (.cells #[.int .i64 0] 3)).alloc (.cells #[.int .u64 (M 0), .int .u64 (M 1), .int .u64 (M 2), .int .u64 (M 3), .int .u64 (M 4), .int .u64 (M 5), .int .u64 (M 6), .int .u64 (M 7)] 213)) (w.heap.size + 1 + 1) 3 (.int .i64 0) := by
      have := (Boxed.new ((w.alloc (.cells #[.int .u64 (M 0), .int .u64 (M 1), .int .u64 (M 2), .int .u64 (M 3), .int .u64 (M 4), .int .u64 (M 5), .int .u64 (M 6), .int .u64 (M 7)] 213)).alloc (.cells #[.int .i64 0] 3)) 3 (.int .i64 0)).alloc (.cells #[.int .u64 (M 0), .int .u64 (M 1), .int .u64 (M 2), .int .u64 (M 3), .int .u64 (M 4), .int .u64 (M 5), .int .u64 (M 6), .int .u64 (M 7)] 213)
      simpa using this
    have bX : Blk ((((w.alloc (.cells #[.int .u64 (M 0), .int .u64 (M 1), .int .u64 (M 2), .int .u64 (M 3), .int .u64 (M 4), .int .u64 (M 5), .int .u64 (M 6), .int .u64 (M 7)] 213)).alloc (.cells #[.int .i64 0] 3)).alloc (.cells #[.int .i64 0] 3)).alloc (.cells #[.int .u64 (M 0), .int .u64 (M 1), .int .u64 (M 2), .int .u64 (M 3), .int .u64 (M 4), .int .u64 (M 5), .int .u64 (M 6), .int .u64 (M 7)] 213)) (w.heap.size + 1 + 1 + 1) #[.int .u64 (M 0), .int .u64 (M 1), .int .u64 (M 2), .int .u64 (M 3), .int .u64 (M 4), .int .u64 (M 5), .int .u64 (M 6), .int .u64 (M 7)] 213 := by
      have := Blk.new (((w.alloc (.cells #[.int .u64 (M 0), .int .u64 (M 1), .int .u64 (M 2), .int .u64 (M 3), .int .u64 (M 4), .int .u64 (M 5), .int .u64 (M 6), .int .u64 (M 7)] 213)).alloc (.cells #[.int .i64 0] 3)).alloc (.cells #[.int .i64 0] 3)) #[.int .u64 (M 0), .int .u64 (M 1), .int .u64 (M 2), .int .u64 (M 3), .int .u64 (M 4), .int .u64 (M 5), .int .u64 (M 6), .int .u64 (M 7)] 213
      simpa using this
    have hB0 : Below w.heap.size w ((((w.alloc (.cells #[.int .u64 (M 0), .int .u64 (M 1), .int .u64 (M 2), .int .u64 (M 3), .int .u64 (M 4), .int .u64 (M 5), .int .u64 (M 6), .int .u64 (M 7)] 213)).alloc (.cells #[.int .i64 0] 3)).alloc (.cells #[.int .i64 0] 3)).alloc (.cells #[.int .u64 (M 0), .int .u64 (M 1), .int .u64 (M 2), .int .u64 (M 3), .int .u64 (M 4), .int .u64 (M 5), .int .u64 (M 6), .int .u64 (M 7)] 213)) := ((((Below.refl _ w).alloc (Nat.le_refl _) _).alloc (by simp) _).alloc (by simp; omega) _).alloc (by simp; omega) _
    have hsz : (((((w.alloc (.cells #[.int .u64 (M 0), .int .u64 (M 1), .int .u64 (M 2), .int .u64 (M 3), .int .u64 (M 4), .int .u64 (M 5), .int .u64 (M 6), .int .u64 (M 7)] 213)).alloc (.cells #[.int .i64 0] 3)).alloc (.cells #[.int .i64 0] 3)).alloc (.cells #[.int .u64 (M 0), .int .u64 (M 1), .int .u64 (M 2), .int .u64 (M 3), .int .u64 (M 4), .int .u64 (M 5), .int .u64 (M 6), .int .u64 (M 7)] 213))).heap.size = w.heap.size + 4 := by simp
    have hT0 : TabW ((((w.alloc (.cells #[.int .u64 (M 0), .int .u64 (M 1), .int .u64 (M 2), .int .u64 (M 3), .int .u64 (M 4), .int .u64 (M 5), .int .u64 (M 6), .int .u64 (M 7)] 213)).alloc (.cells #[.int .i64 0] 3)).alloc (.cells #[.int .i64 0] 3)).alloc (.cells #[.int .u64 (M 0), .int .u64 (M 1), .int .u64 (M 2), .int .u64 (M 3), .int .u64 (M 4), .int .u64 (M 5), .int .u64 (M 6), .int .u64 (M 7)] 213)) := hT.below hB0
    clear hE heq
    gi_wp2
    obtain ⟨W1, hW1⟩ : ∃ W1, ((((w.alloc (.cells #[.int .u64 (M 0), .int .u64 (M 1), .int .u64 (M 2), .int .u64 (M 3), .int .u64 (M 4), .int .u64 (M 5), .int .u64 (M 6), .int .u64 (M 7)] 213)).alloc (.cells #[.int .i64 0] 3)).alloc (.cells #[.int .i64 0] 3)).alloc (.cells #[.int .u64 (M 0), .int .u64 (M 1), .int .u64 (M 2), .int .u64 (M 3), .int .u64 (M 4), .int .u64 (M 5), .int .u64 (M 6), .int .u64 (M 7)] 213)) = W1 := ⟨_, rfl⟩
    rw [hW1] at bR1 bR2 bX hB0 hsz hT0 ⊢
    clear hW1
    have h2 := hT.lt
    refine wpIn_rangeFunc_ownH rfl h1 (gf := 301) (lb := #[.pointer (some ⟨w.heap.size + 1 + 1 + 1, 0, none⟩)]) rfl trivial (enters_of Tryz.func301 (by kernel_rfl) rfl)
      (each_stops (n - 1) (by omega) hM hL (w.heap.size + 1 + 1 + 1) (w.heap.size + 4) W1 (by omega) (by omega) (by omega) bX hT0) belowK_t (belowK_b (by omega)) (Below.refl _ _) (fun _ => rfl)
      (fun pre W => (pre = [] ∧ Boxed W (w.heap.size + 1) 3 (.int .i64 0) ∧ Boxed W (w.heap.size + 1 + 1) 3 (.int .i64 0) ∧ w.heap.size + 4 ≤ W.heap.size) ∧ Below w.heap.size w W)
      (fun c pre W => (∃ x, c = .ret ∧ pre = [x] ∧ Boxed W (w.heap.size + 1) 3 (.int .i64 (x.1 : Int)) ∧ Boxed W (w.heap.size + 1 + 1) 3 (.int .i64 (x.2 : Int))) ∧ Below w.heap.size w W)
      (OwnFrom.and (fun s X Y row hs hg hr => ⟨hs.1, boxed_own _ 3 (fun (_ : Unit) => Value.int .i64 0) () X Y row hs.2.1 hg (fun r e => (hr r e).2), boxed_own _ 3 (fun (_ : Unit) => Value.int .i64 0) () X Y row hs.2.2.1 hg (fun r e => (hr r e).2), Nat.le_trans hs.2.2.2 hg.size⟩) (ownFrom_below (Nat.le_refl _) (by omega)))
      (fun c => OwnFrom.and (fun s X Y row hs hg hr => by obtain ⟨x, e1, e2, e3, e4⟩ := hs; exact ⟨x, e1, e2, boxed_own _ 3 (fun (_ : Unit) => Value.int .i64 (x.1 : Int)) () X Y row e3 hg (fun r e => (hr r e).2), boxed_own _ 3 (fun (_ : Unit) => Value.int .i64 (x.2 : Int)) () X Y row e4 hg (fun r e => (hr r e).2)⟩) (ownFrom_below (Nat.le_refl _) (by omega)))
      ⟨⟨rfl, bR1, bR2, by omega⟩, hB0⟩
      (fun x a' W => ∃ Bx b7, w.heap.size + 4 ≤ Bx ∧ Blk W Bx #[.int .i64 (x.1 : Int), .int .i64 (x.2 : Int)] 309 ∧ a' = { tmps := #[.agg #[.int .u64 (M 0), .int .u64 (M 1), .int .u64 (M 2), .int .u64 (M 3), .int .u64 (M 4), .int .u64 (M 5), .int .u64 (M 6), .int .u64 (M 7)], .pointer (some ⟨w.heap.size, 0, none⟩), .pointer (some ⟨w.heap.size + 1, 0, none⟩), .pointer (some ⟨w.heap.size + 1 + 1, 0, none⟩), .pointer (some ⟨Bx, 0, none⟩), .agg #[.int .u64 (M 0), .int .u64 (M 1), .int .u64 (M 2), .int .u64 (M 3), .int .u64 (M 4), .int .u64 (M 5), .int .u64 (M 6), .int .u64 (M 7)], .agg #[.int .u64 0, .int .u64 0, .int .u64 0, .int .u64 0, .int .u64 0, .int .u64 0, .int .u64 0, .int .u64 0], b7, .agg #[.int .u64 (M 0), .int .u64 (M 1), .int .u64 (M 2), .int .u64 (M 3), .int .u64 (M 4), .int .u64 (M 5), .int .u64 (M 6), .int .u64 (M 7)], .func (.func 301) #[] #[.pointer (some ⟨w.heap.size + 1 + 1 + 1, 0, none⟩)], .agg #[.int .i64 (x.1 : Int), .int .i64 (x.2 : Int)], undef, undef, undef, undef], defers := [] })
      (fun x a' _ X Y row hs hg hr => by obtain ⟨Bx, b7, e1, e2, e3⟩ := hs; exact ⟨Bx, b7, e1, e2.kept hg (fun r e => (hr r e).2), e3⟩)
      ?assign ?body ?done ?stop
    case assign =>
      rintro l pre x W K ⟨⟨hp, b1, b2, hz4⟩, hB1⟩ hK
      gi_wp2
      exact hK _ _ ((KeepsOthers.alloc _ _).from _) ((Below.refl _ W).alloc hz4 _) ⟨⟨hp, b1.alloc _, b2.alloc _, by simp; omega⟩, hB1.alloc hB1.size _⟩ ⟨W.heap.size, _, hz4, Blk.new W _ _, rfl⟩
    case body =>
      rintro l pre x a' W hl ⟨r, hr⟩ ⟨⟨rfl, b1, b2, hz4⟩, hB1⟩ ⟨Bx, b7, hBx, bX1, rfl⟩ hlt
      have cX : W.cell? ⟨Bx, 0, none⟩ = some (.int .i64 (x.1 : Int)) := bX1.cell 0 rfl
      have dX : W.cell? ⟨Bx, 1, none⟩ = some (.int .i64 (x.2 : Int)) := bX1.cell 1 rfl
      have c1 := b1.cell
      have c2 := b2.cell
      have f1 := b1.frozen
      have f2 := b2.frozen
      have pb1' : Boxed ((W.setCell ⟨w.heap.size + 1, 0, none⟩ (.int .i64 (x.1 : Int))).setCell ⟨w.heap.size + 1 + 1, 0, none⟩ (.int .i64 (x.2 : Int))) (w.heap.size + 1) 3 (.int .i64 (x.1 : Int)) := (b1.set (.int .i64 (x.1 : Int))).kept (grownBy_setCell' _ _ _) (by simp)
      have b1' : Boxed ((W.setCell ⟨w.heap.size + 1, 0, none⟩ (.int .i64 (x.1 : Int))).setCell ⟨w.heap.size + 1 + 1, 0, none⟩ (.int .i64 (x.2 : Int))).drew (w.heap.size + 1) 3 (.int .i64 (x.1 : Int)) := pb1'
      have pb2' : Boxed ((W.setCell ⟨w.heap.size + 1, 0, none⟩ (.int .i64 (x.1 : Int))).setCell ⟨w.heap.size + 1 + 1, 0, none⟩ (.int .i64 (x.2 : Int))) (w.heap.size + 1 + 1) 3 (.int .i64 (x.2 : Int)) := (b2.kept (grownBy_setCell' _ _ _) (by simp)).set (.int .i64 (x.2 : Int))
      have b2' : Boxed ((W.setCell ⟨w.heap.size + 1, 0, none⟩ (.int .i64 (x.1 : Int))).setCell ⟨w.heap.size + 1 + 1, 0, none⟩ (.int .i64 (x.2 : Int))).drew (w.heap.size + 1 + 1) 3 (.int .i64 (x.2 : Int)) := pb2'
      have hBB : Below w.heap.size w ((W.setCell ⟨w.heap.size + 1, 0, none⟩ (.int .i64 (x.1 : Int))).setCell ⟨w.heap.size + 1 + 1, 0, none⟩ (.int .i64 (x.2 : Int))).drew := ((hB1.setCell (p := ⟨w.heap.size + 1, 0, none⟩) (by simp) _).setCell (p := ⟨w.heap.size + 1 + 1, 0, none⟩) (by simp; omega) _).drew
      have hKO : KeepsOthers W ((W.setCell ⟨w.heap.size + 1, 0, none⟩ (.int .i64 (x.1 : Int))).setCell ⟨w.heap.size + 1 + 1, 0, none⟩ (.int .i64 (x.2 : Int))).drew := ((KeepsOthers.setCell _ _ _).trans (KeepsOthers.setCell _ _ _)).trans (KeepsOthers.drew _)
      gi_wp2
      gi_region
      all_goals gi_wp2
      all_goals exact ⟨hKO.from _, ⟨x, rfl, rfl, b1', b2'⟩, hBB⟩
    case done =>
      rintro D zs W hD rfl ⟨⟨hp, b1, b2, hz4⟩, hB1⟩ hK
      have c1 := b1.cell
      have c2 := b2.cell
      have f1 := b1.frozen
      have f2 := b2.frozen
      have hlow : lowK L = (-1, -1) := by unfold lowK; rw [hp]
      gi_wp2
      rw [hlow]
      have hK1 := (KeepsOthers.setCell W ⟨w.heap.size + 1, 0, none⟩ (.int .i64 (-1))).same D _ hK rfl
      have hK' := (KeepsOthers.setCell _ ⟨w.heap.size + 1 + 1, 0, none⟩ (.int .i64 (-1))).same D _ hK1 rfl
      refine ⟨by simp, .inl ⟨_, _, rfl, run_takeDeferred hK', ?_⟩⟩
      have b1' : Boxed ((W.setCell ⟨w.heap.size + 1, 0, none⟩ (.int .i64 (-1))).setCell ⟨w.heap.size + 1 + 1, 0, none⟩ (.int .i64 (-1))) (w.heap.size + 1) 3 (.int .i64 (-1)) := (b1.set (.int .i64 (-1))).kept (grownBy_setCell' _ _ _) (by simp)
      have b2' : Boxed ((W.setCell ⟨w.heap.size + 1, 0, none⟩ (.int .i64 (-1))).setCell ⟨w.heap.size + 1 + 1, 0, none⟩ (.int .i64 (-1))) (w.heap.size + 1 + 1) 3 (.int .i64 (-1)) := (b2.kept (grownBy_setCell' _ _ _) (by simp)).set (.int .i64 (-1))
      have hc1 := cell_kept b1'.cell (grownBy_putObj' _ D (.deferred none)) (fun r e => by cases e; exact ⟨_, hK', rfl⟩)
      have hc2 := cell_kept b2'.cell (grownBy_putObj' _ D (.deferred none)) (fun r e => by cases e; exact ⟨_, hK', rfl⟩)
      refine ⟨.tuple #[.int .i64 (-1), .int .i64 (-1)], ?_, rfl, ((hB1.setCell (p := ⟨w.heap.size + 1, 0, none⟩) (by simp) _).setCell (p := ⟨w.heap.size + 1 + 1, 0, none⟩) (by simp; omega) _).trans (belowK_b (w := w) (Nat.le_refl _) _ D _ _ (by omega) hK' rfl rfl)⟩
      simp [results, Tryz.f191, go_sem, hc1, hc2]
    case stop =>
      rintro D c pre W hD hpre ⟨⟨x, rfl, rfl, b1, b2⟩, hB1⟩ hK
      gi_wp2
      have hlow : lowK L = ((x.1 : Int), (x.2 : Int)) := by
        obtain ⟨t, ht⟩ := hpre
        unfold lowK
        rw [← ht]
        rfl
      refine ⟨by simp, .inl ⟨_, _, rfl, run_takeDeferred hK, ?_⟩⟩
      have hc1 := cell_kept b1.cell (grownBy_putObj' _ D (.deferred none)) (fun r e => by cases e; exact ⟨_, hK, rfl⟩)
      have hc2 := cell_kept b2.cell (grownBy_putObj' _ D (.deferred none)) (fun r e => by cases e; exact ⟨_, hK, rfl⟩)
      rw [hlow]
      refine ⟨.tuple #[.int .i64 (x.1 : Int), .int .i64 (x.2 : Int)], ?_, rfl, hB1.trans (belowK_b (w := w) (Nat.le_refl _) W D _ _ (by omega) hK rfl rfl)⟩
      simp [results, Tryz.f191, go_sem, hc1, hc2]
theorem lowest_at {M : Nat → Nat} (hM : ∀ i, M i < 18446744073709551616) {L : Nat → List Nat} (hL : ∀ l, l < 8 → Bits (M l) (nxtN (M l) 0) (L l)) (w : World) (hT : TabW w) :
    Calls Tryz.prog 191 #[.agg (arr8 M)] w fun e W' => e = .returned (.tuple #[.int .i64 (lowK L).1, .int .i64 (lowK L).2]) ∧ Below w.heap.size w W' :=
  callsIn_wide.1 (lowest_in 3 (Nat.le_refl _) hM hL w hT)
end Go.Proofs.YtkndlfdpmpdihaaGreatDoor
namespace Go.Proofs.YtkndlfdpmpdihaaGreatDoor
open Go.RowKit Go.Ev Go.Mv
set_option linter.unusedVariables false
set_option linter.unusedSimpArgs false
set_option maxRecDepth 100000
section
variable {B : WB} {S : WS} {w w' : World}
/-- A place's things, told. -/
structure Told (B : WB) (S : WS) (k : Int × Int) (L : List Nat) : Prop where
  tr : Trail S.c.link (firstOf (S.c.head k)) L
  ok : ∀ a ∈ L, a < B.c.room ∧ ∃ t, LiveAt S.p a t
  le : L.length ≤ 64
/-- What Next tells, of what lies late, at the lowest place, far. -/
def nextV (S : WS) (Ll Lo Lf : List Nat) (lo : Int) : Int × Bool :=
  if Ll ≠ [] then (Lib.minOf (Ll.map (dlOf S)), true) else if 0 ≤ lo then (Lib.minOf (Lo.map (dlOf S)), decide (Lo ≠ [])) else (Lib.minOf (Lf.map (dlOf S)), decide (Lf ≠ []))
theorem next_none (h : WheelAt B S w) (hn : S.p.n = 0) : Calls Tryz.prog 122 #[.pointer (some ⟨B.b, 0, none⟩)] w fun e w' => e = .returned (.tuple #[.int .u64 0, .bool false]) ∧ Below w.heap.size w w' := by
  have hlv := wlive_at h
  rw [hn] at hlv
  rw [show ((0 : Nat) : Int) = 0 from rfl] at hlv
  go_enter Tryz.func122, Tryz.ntmps122
  go_wp2_with (go_at_call 72; refine hlv.mono ?_; rintro e w1 ⟨rfl, hb1⟩)
  refine bodyPost_ret (v := .tuple #[.int .u64 0, .bool false]) ?_ rfl ⟨rfl, hb1⟩
  simp [results, Tryz.results122, go_sem]
set_option maxHeartbeats 4000000 in
theorem next_some (h : WheelAt B S w) (hT : TabW w) (hm : ∀ i, S.m i < 18446744073709551616) (hn : S.p.n ≠ 0) {LB : Nat → List Nat} (hLB : ∀ l, l < 8 → Bits (S.m l) (nxtN (S.m l) 0) (LB l)) {Ll Lo Lf : List Nat}
    (h1 : Told B S (-1, 0) Ll) (h2 : Told B S (lowK LB) Lo) (h3 : Told B S (8, 0) Lf) :
    Calls Tryz.prog 122 #[.pointer (some ⟨B.b, 0, none⟩)] w fun e w' => e = .returned (.tuple #[.int .u64 (nextV S Ll Lo Lf (lowK LB).1).1, .bool (nextV S Ll Lo Lf (lowK LB).1).2]) ∧ Below w.heap.size w w' := by
  have hlw := h.lt
  obtain ⟨n, hnn⟩ : ∃ n, n = S.p.n := ⟨_, rfl⟩
  have hlv := wlive_at h
  rw [← hnn] at hn hlv
  clear hnn
  have hn' : ((n : Int) == 0) = false := by simp; exact hn
  obtain ⟨⟨lo, so⟩, hlo⟩ : ∃ k, k = lowK LB := ⟨_, rfl⟩
  have hlow := fun w hT => lowest_at hm hLB w hT
  rw [← hlo] at h2 hlow ⊢
  simp only at hlow ⊢
  clear hlo
  have hE1 : Ll ≠ [] → nextV S Ll Lo Lf lo = (Lib.minOf (Ll.map (dlOf S)), true) := fun hc => by unfold nextV; rw [if_pos hc]
  have hE2 : Ll = [] → 0 ≤ lo → nextV S Ll Lo Lf lo = (Lib.minOf (Lo.map (dlOf S)), decide (Lo ≠ [])) := fun hc h0 => by unfold nextV; rw [if_neg (by simp [hc]), if_pos h0]
  have hE3 : Ll = [] → lo < 0 → nextV S Ll Lo Lf lo = (Lib.minOf (Lf.map (dlOf S)), decide (Lf ≠ [])) := fun hc h0 => by unfold nextV; rw [if_neg (by simp [hc]), if_neg (by omega)]
  generalize nextV S Ll Lo Lf lo = rv at *
  go_enter Tryz.func122, Tryz.ntmps122
  go_wp2_with (go_at_call 72; fail)
  refine hlv.mono ?_
  rintro e w1 ⟨rfl, hb1⟩
  have h1w := h.below hb1 hlw
  go_wp2_with (first | (go_at_call 172; refine (late_at _).mono ?_; rintro e w2 ⟨rfl, hb2⟩) | (go_at_call 190; fail))
  have hB2 : Below w.heap.size w w2 := hb1.trans (hb2.mono hb1.size)
  have h2w := h.below hB2 hlw
  refine (least_at h2w h1.tr h1.ok h1.le).mono ?_
  rintro e w3 ⟨rfl, hb3⟩
  have hB3 : Below w.heap.size w w3 := hB2.trans (hb3.mono hB2.size)
  have h3w := h.below hB3 hlw
  have hT3 : TabW w3 := hT.below hB3
  by_cases hc : Ll = []
  · have e1 : decide (Ll ≠ []) = false := by simp [hc]
    rw [e1]
    have hE2' := hE2 hc
    have hE3' := hE3 hc
    clear hE1 hE2 hE3 e1 hc
    have c0 : w3.cell? ⟨B.b, 2, none⟩ = some (.int .u64 (S.m 0)) := h3w.blk.cell 2 rfl
    have c1 : w3.cell? ⟨B.b, 3, none⟩ = some (.int .u64 (S.m 1)) := h3w.blk.cell 3 rfl
    have c2 : w3.cell? ⟨B.b, 4, none⟩ = some (.int .u64 (S.m 2)) := h3w.blk.cell 4 rfl
    have c3 : w3.cell? ⟨B.b, 5, none⟩ = some (.int .u64 (S.m 3)) := h3w.blk.cell 5 rfl
    have c4 : w3.cell? ⟨B.b, 6, none⟩ = some (.int .u64 (S.m 4)) := h3w.blk.cell 6 rfl
    have c5 : w3.cell? ⟨B.b, 7, none⟩ = some (.int .u64 (S.m 5)) := h3w.blk.cell 7 rfl
    have c6 : w3.cell? ⟨B.b, 8, none⟩ = some (.int .u64 (S.m 6)) := h3w.blk.cell 8 rfl
    have c7 : w3.cell? ⟨B.b, 9, none⟩ = some (.int .u64 (S.m 7)) := h3w.blk.cell 9 rfl
    have hlw3 := hlow w3 hT3
    unfold arr8 at hlw3
    go_wp2_with (go_at_call 191; fail)
    refine hlw3.mono ?_
    rintro e w4 ⟨rfl, hb4⟩
    have hB4 : Below w.heap.size w w4 := hB3.trans (hb4.mono hB3.size)
    have h4w := h.below hB4 hlw
    by_cases h0 : 0 ≤ lo
    · have hE := hE2' h0
      clear hE2' hE3' c0 c1 c2 c3 c4 c5 c6 c7
      go_wp2_with (go_at_call 190; refine (least_at h4w h2.tr h2.ok h2.le).mono ?_; rintro e w5 ⟨rfl, hb5⟩)
      refine bodyPost_ret (v := .tuple #[.int .u64 (Lib.minOf (Lo.map (dlOf S))), .bool (decide (Lo ≠ []))]) ?_ rfl ⟨by rw [hE], hB4.trans (hb5.mono hB4.size)⟩
      simp [results, Tryz.results122, go_sem]
    · have h0' : lo < 0 := by omega
      have hE := hE3' h0'
      clear hE2' hE3' h0 c0 c1 c2 c3 c4 c5 c6 c7
      go_wp2_with (first | (go_at_call 174; refine (far_at _).mono ?_; rintro e w5 ⟨rfl, hb5⟩; have hB5 := hB4.trans (hb5.mono hB4.size); have h5w := h.below hB5 hlw) | (go_at_call 190; refine (least_at h5w h3.tr h3.ok h3.le).mono ?_; rintro e w6 ⟨rfl, hb6⟩))
      refine bodyPost_ret (v := .tuple #[.int .u64 (Lib.minOf (Lf.map (dlOf S))), .bool (decide (Lf ≠ []))]) ?_ rfl ⟨by rw [hE], hB5.trans (hb6.mono hB5.size)⟩
      simp [results, Tryz.results122, go_sem]
  · have e1 : decide (Ll ≠ []) = true := by simp [hc]
    have hE := hE1 hc
    rw [e1]
    clear hE1 hE2 hE3 e1 hc
    go_wp2
    refine bodyPost_ret (v := .tuple #[.int .u64 (Lib.minOf (Ll.map (dlOf S))), .bool true]) ?_ rfl ⟨by rw [hE], hB3⟩
    simp [results, Tryz.results122, go_sem]
end
end Go.Proofs.YtkndlfdpmpdihaaGreatDoor
namespace Go.Proofs.YtkndlfdpmpdihaaGreatDoor
open Go.RowKit Go.Ev Go.Mv
set_option linter.unusedVariables false
set_option linter.unusedSimpArgs false
set_option maxRecDepth 100000
/-- What a board promises to the service. -/
structure BI where
  A : Type
  S : A → World → Prop
  ft : Nat → Prop
  pb : Nat
  hb : Nat
  bb : Nat
  armed : A → Nat
  time : A → Nat
  cmp : A → Nat
  R : A → Nat → A → Prop
  left : A → Nat
  lf : ∀ {a d a'}, R a d a' → left a ≤ left a' + 3
  alt : ∀ a, armed a < 18446744073709551616
  tab : ∀ {a w}, S a w → TabW w
  lt : ∀ {a w}, S a w → ∀ k, ft k → k < w.heap.size
  keep : ∀ {a w w'} {X : Nat → Prop}, S a w → Tch X w w' → (∀ k, X k → ¬ ft k ∧ 8 ≤ k) → S a w'
  down : ∀ {a w}, S a w → Calls Tryz.prog 22 #[.pointer (some ⟨pb, 0, none⟩)] w fun e w' => e = .returned (.bool false) ∧ Tch ft w w' ∧ S a w'
  at_ : ∀ {a w}, S a w → Calls Tryz.prog 123 #[.pointer (some ⟨hb, 0, none⟩)] w fun e w' => e = .returned (.int .u64 (armed a)) ∧ Tch ft w w' ∧ S a w'
  arm : ∀ {a w} (d : Nat), d < 18446744073709551616 → 3 ≤ left a → S a w → Calls Tryz.prog 124 #[.pointer (some ⟨hb, 0, none⟩), .int .u64 d] w fun e w' => e = .returned (.int .i64 0) ∧ Tch ft w w' ∧ ∃ a', R a d a' ∧ S a' w'
  tm : ∀ {a w}, S a w → Calls Tryz.prog 17 #[.pointer (some ⟨bb, 0, none⟩)] w fun e w' => e = .returned (.int .u64 (time a)) ∧ Tch ft w w' ∧ S a w'
  cp : ∀ {a w}, S a w → Calls Tryz.prog 28 #[.pointer (some ⟨bb, 0, none⟩), .int .i64 0] w fun e w' => e = .returned (.int .u64 (cmp a)) ∧ Tch ft w w' ∧ S a w'
  bd : ∀ {a w}, S a w → Calls Tryz.prog 25 #[.pointer (some ⟨pb, 0, none⟩)] w fun e w' => e = .returned (.pointer (some ⟨bb, 0, none⟩)) ∧ Tch ft w w' ∧ S a w'
  lv : ∀ {a w}, S a w → Calls Tryz.prog 21 #[] w fun e w' => e = .returned (.bool true) ∧ Tch ft w w' ∧ S a w'
/-- Where a service lies. -/
structure SB where
  b : Nat
  v1 : Value
  v4 : Value
  room : Nat
def svcV (I : BI) (B : WB) (Z : SB) : Array Value := #[.pointer (some ⟨B.b, 0, none⟩), Z.v1, .pointer (some ⟨I.hb, 0, none⟩), .pointer (some ⟨I.pb, 0, none⟩), Z.v4, .int .i64 Z.room]
/-- A wheel's blocks, all of them. -/
def WB.all (B : WB) : Nat → Prop := fun r => B.own r ∨ r = B.p.b ∨ r = B.c.b
structure SvcAt (I : BI) (B : WB) (Z : SB) (a : I.A) (S : WS) (w : World) : Prop where
  blk : Blk w Z.b (svcV I B Z) 133
  wheel : WheelAt B S w
  board : I.S a w
  out : ¬ I.ft Z.b
  outs : ∀ k, B.all k → ¬ I.ft k
  own : ¬ B.all Z.b
  hi : ∀ k, B.all k → 8 ≤ k
theorem WheelAt.tch {B : WB} {S : WS} {w w' : World} (h : WheelAt B S w) {X : Nat → Prop} (ht : Tch X w w') (hx : ∀ k, B.all k → ¬ X k) : WheelAt B S w' := by
  have hl := h.lt
  exact ⟨(ht.block _ hl.1 (hx _ (.inl (.inl rfl)))).trans h.blk, h.pool.tch ht (hx _ (.inr (.inl rfl))) (hx _ (.inl (.inr (.inl (.inl rfl))))) (hx _ (.inl (.inr (.inl (.inr (.inl rfl)))))) (hx _ (.inl (.inr (.inl (.inr (.inr rfl)))))),
    h.chain.tch ht (hx _ (.inr (.inr rfl))) (hx _ (.inl (.inr (.inr (.inl rfl))))) (hx _ (.inl (.inr (.inr (.inr rfl))))), h.ne1, h.ne2⟩
section
variable {I : BI} {B : WB} {Z : SB} {a : I.A} {S : WS} {w w' : World}
/-- The board's turn. -/
theorem SvcAt.boardT (h : SvcAt I B Z a S w) {a' : I.A} (ht : Tch I.ft w w') (hs : I.S a' w') : SvcAt I B Z a' S w' :=
  ⟨(ht.block _ h.blk.lt h.out).trans h.blk, h.wheel.tch ht h.outs, hs, h.out, h.outs, h.own, h.hi⟩
/-- The wheel's turn. -/
theorem SvcAt.wheelT (h : SvcAt I B Z a S w) {S' : WS} (ht : Tch B.own w w') (hs : WheelAt B S' w') : SvcAt I B Z a S' w' :=
  ⟨(ht.block _ h.blk.lt (fun e => h.own (.inl e))).trans h.blk, hs, I.keep h.board ht (fun k hk => ⟨h.outs k (.inl hk), h.hi k (.inl hk)⟩), h.out, h.outs, h.own, h.hi⟩
/-- What lies elsewhere is turned. -/
theorem SvcAt.tch (h : SvcAt I B Z a S w) {X : Nat → Prop} (ht : Tch X w w') (h1 : ¬ X Z.b) (h2 : ∀ k, B.all k → ¬ X k) (h3 : ∀ k, X k → ¬ I.ft k ∧ 8 ≤ k) : SvcAt I B Z a S w' :=
  ⟨(ht.block _ h.blk.lt h1).trans h.blk, h.wheel.tch ht h2, I.keep h.board ht h3, h.out, h.outs, h.own, h.hi⟩
theorem Tch.none_ {w w' : World} (h : Below w.heap.size w w') : Tch (fun _ => False) w w' := Tch.of_below h
theorem SvcAt.below (h : SvcAt I B Z a S w) (hb : Below w.heap.size w w') : SvcAt I B Z a S w' := h.tch (Tch.none_ hb) (fun e => e) (fun _ _ e => e) (fun _ e => e.elim)
theorem SvcAt.lt (h : SvcAt I B Z a S w) : Z.b < w.heap.size := h.blk.lt
theorem lost_at (h : SvcAt I B Z a S w) : Calls Tryz.prog 125 #[.pointer (some ⟨Z.b, 0, none⟩)] w fun e w' => e = .returned (.bool false) ∧ Tch I.ft w w' ∧ SvcAt I B Z a S w' := by
  have c3 : w.cell? ⟨Z.b, 3, none⟩ = some (.pointer (some ⟨I.pb, 0, none⟩)) := h.blk.cell 3 rfl
  go_enter Tryz.func125, Tryz.ntmps125
  go_wp2_with (go_at_call 22; refine (I.down h.board).mono ?_; rintro e w1 ⟨rfl, ht1, hs1⟩)
  refine bodyPost_ret (v := .bool false) ?_ rfl ⟨rfl, ht1, h.boardT ht1 hs1⟩
  simp [results, Tryz.results125, go_sem]
theorem sync_at (h : SvcAt I B Z a S w) : Calls Tryz.prog 71 #[.pointer (some ⟨Z.b, 0, none⟩)] w fun e w' => e = .returned (.bool true) ∧ Tch I.ft w w' ∧ SvcAt I B Z a S w' := by
  go_enter Tryz.func71, Tryz.ntmps71
  go_wp2_with (go_at_call 125; refine (lost_at h).mono ?_; rintro e w1 ⟨rfl, ht1, hs1⟩)
  refine bodyPost_ret (v := .bool true) ?_ rfl ⟨rfl, ht1, hs1⟩
  simp [results, Tryz.results71, go_sem]
theorem slive_at (h : SvcAt I B Z a S w) : Calls Tryz.prog 30 #[.pointer (some ⟨Z.b, 0, none⟩)] w fun e w' => e = .returned (.int .i64 (S.p.n : Int)) ∧ Tch I.ft w w' ∧ SvcAt I B Z a S w' := by
  go_enter Tryz.func30, Tryz.ntmps30
  go_wp2_with (go_at_call 71; fail)
  refine (sync_at h).mono ?_
  rintro e w1 ⟨rfl, ht1, hs1⟩
  have c0 : w1.cell? ⟨Z.b, 0, none⟩ = some (.pointer (some ⟨B.b, 0, none⟩)) := hs1.blk.cell 0 rfl
  go_wp2_with (go_at_call 72; refine (wlive_at hs1.wheel).mono ?_; rintro e w2 ⟨rfl, hb2⟩)
  refine bodyPost_ret (v := .int .i64 (S.p.n : Int)) ?_ rfl ⟨rfl, ht1.trans ((Tch.of_below hb2)), hs1.below hb2⟩
  simp [results, Tryz.results30, go_sem]
theorem room_at (h : SvcAt I B Z a S w) : Calls Tryz.prog 32 #[.pointer (some ⟨Z.b, 0, none⟩)] w fun e w' => e = .returned (.int .i64 (Z.room : Int)) ∧ w' = w := by
  have c5 : w.cell? ⟨Z.b, 5, none⟩ = some (.int .i64 (Z.room : Int)) := h.blk.cell 5 rfl
  go_enter Tryz.func32, Tryz.ntmps32
  go_wp2
  refine bodyPost_ret (v := .int .i64 (Z.room : Int)) ?_ rfl ⟨rfl, rfl⟩
  simp [results, Tryz.results32, go_sem]
/-- What Next tells of a wheel. -/
def Nx (B : WB) (S : WS) (v : Nat) (b : Bool) : Prop := v < 18446744073709551616 ∧ ∀ w, WheelAt B S w → TabW w → Calls Tryz.prog 122 #[.pointer (some ⟨B.b, 0, none⟩)] w fun e w' => e = .returned (.tuple #[.int .u64 v, .bool b]) ∧ Below w.heap.size w w'
theorem lf_of {d : Nat} {a' : I.A} {P : Prop} (h : (a' = a ∧ P) ∨ I.R a d a') : I.left a ≤ I.left a' + 3 := by
  rcases h with ⟨rfl, _⟩ | h
  · omega
  · exact I.lf h
theorem set_at (h : SvcAt I B Z a S w) {v : Nat} {b : Bool} (hx : Nx B S v b) (hl : 3 ≤ I.left a) : Calls Tryz.prog 70 #[.pointer (some ⟨Z.b, 0, none⟩)] w fun e w' =>
    e = .returned (.int .i64 0) ∧ Tch I.ft w w' ∧ ∃ a', SvcAt I B Z a' S w' ∧ ((a' = a ∧ I.armed a = if b then v else 18446744073709551615) ∨ I.R a (if b then v else 18446744073709551615) a') := by
  have c0 : w.cell? ⟨Z.b, 0, none⟩ = some (.pointer (some ⟨B.b, 0, none⟩)) := h.blk.cell 0 rfl
  obtain ⟨hv, hx⟩ := hx
  obtain ⟨d, hd⟩ : ∃ d, d = if b then v else 18446744073709551615 := ⟨_, rfl⟩
  have hdl : d < 18446744073709551616 := by rw [hd]; split <;> omega
  rw [← hd]
  obtain ⟨am, ham⟩ : ∃ am, am = I.armed a := ⟨_, rfl⟩
  have hat : ∀ {w}, I.S a w → _ := fun {w} h => I.at_ (a := a) (w := w) h
  rw [← ham] at hat ⊢
  clear ham
  go_enter Tryz.func70, Tryz.ntmps70
  go_wp2_with (go_at_call 122; fail)
  refine (hx _ h.wheel (I.tab h.board)).mono ?_
  rintro e w1 ⟨rfl, hb1⟩
  have h1 := h.below hb1
  have c2 : w1.cell? ⟨Z.b, 2, none⟩ = some (.pointer (some ⟨I.hb, 0, none⟩)) := h1.blk.cell 2 rfl
  cases b
  · simp only [Bool.false_eq_true, if_false] at hd
    subst hd
    go_wp2_with (go_at_call 123; fail)
    refine (hat h1.board).mono ?_
    rintro e w2 ⟨rfl, ht2, hs2⟩
    have h2 := h1.boardT ht2 hs2
    have hT2 : Tch I.ft w w2 := (Tch.of_below hb1).trans ht2
    have c3 : w2.cell? ⟨Z.b, 2, none⟩ = some (.pointer (some ⟨I.hb, 0, none⟩)) := h2.blk.cell 2 rfl
    by_cases he : am = 18446744073709551615
    · have he' : ((am : Int) == 18446744073709551615) = true := by simp; omega
      go_wp2
      refine bodyPost_ret (v := .int .i64 0) ?_ rfl ⟨rfl, hT2, a, h2, .inl ⟨rfl, he⟩⟩
      simp [results, Tryz.results70, go_sem]
    · have he' : ((am : Int) == 18446744073709551615) = false := by simp; omega
      go_wp2_with (go_at_call 124; fail)
      refine (I.arm 18446744073709551615 hdl hl h2.board).mono ?_
      rintro e w3 ⟨rfl, ht3, a', hr, hs3⟩
      go_wp2
      refine bodyPost_ret (v := .int .i64 0) ?_ rfl ⟨rfl, hT2.trans ht3, a', h2.boardT ht3 hs3, .inr hr⟩
      simp [results, Tryz.results70, go_sem]
  · simp only [if_true] at hd
    subst hd
    go_wp2_with (go_at_call 123; fail)
    refine (hat h1.board).mono ?_
    rintro e w2 ⟨rfl, ht2, hs2⟩
    have h2 := h1.boardT ht2 hs2
    have hT2 : Tch I.ft w w2 := (Tch.of_below hb1).trans ht2
    have c3 : w2.cell? ⟨Z.b, 2, none⟩ = some (.pointer (some ⟨I.hb, 0, none⟩)) := h2.blk.cell 2 rfl
    by_cases he : am = d
    · have he' : ((am : Int) == (d : Int)) = true := by simp; omega
      go_wp2
      refine bodyPost_ret (v := .int .i64 0) ?_ rfl ⟨rfl, hT2, a, h2, .inl ⟨rfl, he⟩⟩
      simp [results, Tryz.results70, go_sem]
    · have he' : ((am : Int) == (d : Int)) = false := by simp; omega
      go_wp2_with (go_at_call 124; fail)
      refine (I.arm d hdl hl h2.board).mono ?_
      rintro e w3 ⟨rfl, ht3, a', hr, hs3⟩
      go_wp2
      refine bodyPost_ret (v := .int .i64 0) ?_ rfl ⟨rfl, hT2.trans ht3, a', h2.boardT ht3 hs3, .inr hr⟩
      simp [results, Tryz.results70, go_sem]
end
end Go.Proofs.YtkndlfdpmpdihaaGreatDoor
namespace Go.Proofs.YtkndlfdpmpdihaaGreatDoor
open Go.RowKit Go.Ev Go.Mv
set_option linter.unusedVariables false
set_option linter.unusedSimpArgs false
set_option maxRecDepth 100000
theorem minOf_nat : ∀ {zs : List Int}, (∀ z ∈ zs, ∃ v : Nat, z = v ∧ v < 18446744073709551616) → ∃ v : Nat, Lib.minOf zs = v ∧ v < 18446744073709551616 := by
  intro zs h
  unfold Lib.minOf
  have key : ∀ (l : List Int) (i : Int), (∀ z ∈ l, ∃ v : Nat, z = v ∧ v < 18446744073709551616) → (∃ v : Nat, i = v ∧ v < 18446744073709551616) → ∃ v : Nat, l.foldl min i = v ∧ v < 18446744073709551616 := by
    intro l
    induction l with
    | nil => exact fun i _ hi => hi
    | cons a l ih =>
      intro i hl hi
      refine ih _ (fun z hz => hl z (by simp [hz])) ?_
      rw [Int.min_def]
      split
      · exact hi
      · exact hl a (by simp)
  refine key zs _ h ?_
  cases zs with
  | nil => exact ⟨0, rfl, by omega⟩
  | cons a l => exact h a (by simp)
structure WOk (B : WB) (S : WS) (ls : Int × Int → List Nat) : Prop where
  ch : ChainOk S.c ls B.c.room
  live : ∀ k a, a ∈ ls k → ∃ t, LiveAt S.p a t ∧ t.d < 18446744073709551616
  m : ∀ i, S.m i < 18446744073709551616
  room : B.c.room ≤ 64
section
variable {B : WB} {S : WS} {ls : Int × Int → List Nat}
theorem WOk.told (h : WOk B S ls) (k : Int × Int) : Told B S k (ls k) :=
  ⟨h.ch.trail k, fun a ha => ⟨h.ch.lt k a ha, (h.live k a ha).imp fun _ e => e.1⟩, Nat.le_trans (h.ch.le k) h.room⟩
theorem WOk.minNat (h : WOk B S ls) (k : Int × Int) : ∃ v : Nat, Lib.minOf ((ls k).map (dlOf S)) = v ∧ v < 18446744073709551616 := by
  refine minOf_nat fun z hz => ?_
  obtain ⟨a, ha, rfl⟩ := List.mem_map.1 hz
  obtain ⟨t, hL, ht⟩ := h.live k a ha
  exact ⟨t.d, by unfold dlOf; rw [hL.ent], ht⟩
theorem WOk.bits (h : WOk B S ls) : ∃ LB : Nat → List Nat, ∀ l, l < 8 → Bits (S.m l) (nxtN (S.m l) 0) (LB l) :=
  ⟨fun l => Classical.choose (bits_any (S.m l) (h.m l) 0 (by omega)), fun l _ => Classical.choose_spec (bits_any (S.m l) (h.m l) 0 (by omega))⟩
theorem WOk.nx (h : WOk B S ls) : ∃ v b, Nx B S v b := by
  by_cases hn : S.p.n = 0
  · exact ⟨0, false, by omega, fun w hw _ => next_none hw hn⟩
  · obtain ⟨LB, hLB⟩ := h.bits
    have hv : ∃ v : Nat, (nextV S (ls (-1, 0)) (ls (lowK LB)) (ls (8, 0)) (lowK LB).1).1 = v ∧ v < 18446744073709551616 := by
      unfold nextV
      split
      · exact h.minNat _
      · split
        · exact h.minNat _
        · exact h.minNat _
    obtain ⟨v, hv, hvl⟩ := hv
    refine ⟨v, (nextV S (ls (-1, 0)) (ls (lowK LB)) (ls (8, 0)) (lowK LB).1).2, hvl, fun w hw hT => ?_⟩
    have := next_some hw hT h.m hn hLB (h.told (-1, 0)) (h.told (lowK LB)) (h.told (8, 0))
    rw [hv] at this
    exact this
end
end Go.Proofs.YtkndlfdpmpdihaaGreatDoor
namespace Go.Proofs.YtkndlfdpmpdihaaGreatDoor
open Go.RowKit Go.Ev Go.Mv
set_option linter.unusedVariables false
set_option linter.unusedSimpArgs false
set_option maxRecDepth 100000
section
variable {I : BI} {B : WB} {Z : SB} {a : I.A} {S : WS} {w w' : World}
theorem call_at (h : SvcAt I B Z a S w) {f : Nat} {caps : Array Value} {k : Int} {X : Nat → Prop} {S' : WS} {P : I.A → World → Prop}
    (he : ∀ w, (callFunc f caps).run Tryz.prog w = .ok (.enter f caps) w)
    (hc : ∀ w1, Tch I.ft w w1 → SvcAt I B Z a S w1 → Calls Tryz.prog f caps w1 fun e w2 => e = .returned (.int .i64 k) ∧ Tch X w1 w2 ∧ ∃ a', SvcAt I B Z a' S' w2 ∧ P a' w2)
    (hP : ∀ a' w1 w2, P a' w1 → Tch I.ft w1 w2 → P a' w2) :
    Calls Tryz.prog 65 #[.pointer (some ⟨Z.b, 0, none⟩), .func (.func f) #[] caps] w fun e w' => e = .returned (.int .i64 k) ∧ Tch (fun r => I.ft r ∨ X r) w w' ∧ ∃ a', SvcAt I B Z a' S' w' ∧ P a' w' := by
  go_enter Tryz.func65, Tryz.ntmps65
  go_wp2_with (go_at_call 71; fail)
  refine (sync_at h).mono ?_
  rintro e w1 ⟨rfl, ht1, hs1⟩
  go_wp2_with (fail)
  refine (hc w1 ht1 hs1).mono ?_
  rintro e w2 ⟨rfl, ht2, a', hs2, hp2⟩
  go_wp2_with (go_at_call 71; fail)
  refine (sync_at hs2).mono ?_
  rintro e w3 ⟨rfl, ht3, hs3⟩
  go_wp2
  refine bodyPost_ret (v := .int .i64 k) ?_ rfl ⟨rfl, ((ht1.mono fun r hr => .inl hr).trans (ht2.mono fun r hr => .inr hr)).trans (ht3.mono fun r hr => .inl hr), a', hs3, hP _ _ _ hp2 ht3⟩
  simp [results, Tryz.results65, go_sem]
theorem add1_full (h : SvcAt I B Z a S w) (hf : Z.room ≤ S.p.n) {x0 x1 x2 x3 : Nat} (h0 : Blk w x0 #[.pointer (some ⟨Z.b, 0, none⟩)] 57) :
    Calls Tryz.prog 102 #[.pointer (some ⟨x0, 0, none⟩), .pointer (some ⟨x1, 0, none⟩), .pointer (some ⟨x2, 0, none⟩), .pointer (some ⟨x3, 0, none⟩)] w fun e w' => e = .returned (.int .i64 8) ∧ Below w.heap.size w w' := by
  have c0 : ∀ x : WX w, x.w.cell? ⟨x0, 0, none⟩ = some (.pointer (some ⟨Z.b, 0, none⟩)) := h0.wx 0 rfl
  have c1 : ∀ x : WX w, x.w.cell? ⟨Z.b, 0, none⟩ = some (.pointer (some ⟨B.b, 0, none⟩)) := h.blk.wx 0 rfl
  have c2 : ∀ x : WX w, x.w.cell? ⟨Z.b, 5, none⟩ = some (.int .i64 (Z.room : Int)) := h.blk.wx 5 rfl
  have hw := h.wheel
  have hlw := hw.lt
  obtain ⟨n, hn⟩ : ∃ n, n = S.p.n := ⟨_, rfl⟩
  have hlv : ∀ W, Below w.heap.size w W → Calls Tryz.prog 72 #[.pointer (some ⟨B.b, 0, none⟩)] W fun e w' => e = .returned (.int .i64 (n : Int)) ∧ Below W.heap.size W w' := fun W hW => by
    rw [hn]
    exact wlive_at (hw.below hW hlw)
  rw [← hn] at hf
  clear hn hw hlw
  obtain ⟨r, hr⟩ : ∃ r, r = Z.room := ⟨_, rfl⟩
  rw [← hr] at hf c2
  clear hr
  have hfd : decide ((r : Int) ≤ (n : Int)) = true := by simp; exact hf
  go_enter Tryz.func102, Tryz.ntmps102
  go_wp2
  refine wp_region_grown (by kernel_rfl) (by kernel_rfl) ?_
  repeat (go_big_quiet_step (first | (go_at_call 72; exact WX.of (hlv _ (by first | assumption | exact WX.h _)))))
  refine wpQuiet_nil ?_
  intro w2 hb2
  go_wp2
  refine bodyPost_ret (v := .int .i64 8) ?_ rfl ⟨rfl, hb2⟩
  simp [results, Tryz.results102, go_sem]
end
end Go.Proofs.YtkndlfdpmpdihaaGreatDoor
