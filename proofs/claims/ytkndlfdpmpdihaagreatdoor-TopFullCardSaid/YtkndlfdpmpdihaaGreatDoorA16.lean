/- Chains: a thing comes, the first one goes: both ways in one. The wheel: a timer is at its place. The wheel: a timer has a deadline; a timer comes. The wheel: a place has lost a timer; a timer goes; how many there are. The wheel: a timer is cancelled; how many there are. The least of a row of numbers (slices.Min); the least deadline of a place. Conditions: those that each statement shows. -/
import Derived.Test.YtkndlfdpmpdihaaGreatDoorA15
import Derived.Lib.MinMax
import Derived.Lib.Slices
import Derived.Lib.Walk
import Derived.OwnWalk
import Derived.Deep.LoopGhost
import Derived.Deep.CutRange
namespace Go.Proofs.YtkndlfdpmpdihaaGreatDoor
open Go.RowKit Go.Ev Go.Mv
set_option linter.unusedVariables false
set_option linter.unusedSimpArgs false
set_option maxRecDepth 100000
/-- A thing is the last one of a chain. -/
noncomputable def CS.push (C : CS) (k : Int × Int) (i : Nat) : CS := match C.head k with
  | none => ⟨fset C.head k (some ⟨i, i, 1⟩), fset C.link i ⟨k.1, k.2, true, -1, -1⟩⟩
  | some x => ⟨fset C.head k (some ⟨x.fi, i, x.n + 1⟩), fset (fset C.link i ⟨k.1, k.2, true, x.la, -1⟩) x.la.toNat { C.link x.la.toNat with be := i }⟩
structure PushOk (C : CS) (room : Nat) (k : Int × Int) (i : Nat) : Prop where
  lt : i < room
  out : (C.link i).ins = false
  last : ∀ x, C.head k = some x → ∃ p nn : Nat, x.la = p ∧ p < room ∧ p ≠ i ∧ x.n = nn ∧ nn < 4294967296
theorem push_any {B : CB} {C : CS} {w : World} (h : ChainAt B C w) {l s : Int} {i : Nat} (hp : PushOk C B.room (l, s) i) : Calls Tryz.prog 181 #[.pointer (some ⟨B.b, 0, none⟩), .agg #[.int .i64 l, .int .i64 s], .int .i64 i] w fun e w' =>
    e = .returned (.bool true) ∧ Tch B.own w w' ∧ ChainAt B (C.push (l, s) i) w' := by
  unfold CS.push
  cases hh : C.head (l, s) with
  | none => exact push_new h hp.lt hp.out hh
  | some x =>
    obtain ⟨p, nn, h1, h2, h3, h4, h5⟩ := hp.last x hh
    have := push_more h hp.lt hp.out hh h1 h2 h3 h4 h5
    have e : x.la.toNat = p := by omega
    simp only [e]
    exact this
/-- The first thing of a chain goes. -/
noncomputable def CS.pop (C : CS) (i : Nat) : CS :=
  let k := ((C.link i).l, (C.link i).s)
  if (C.link i).be = -1 then ⟨fset C.head k none, fset C.link i lk0⟩
  else ⟨fset C.head k ((C.head k).map fun x => ⟨(C.link i).be, x.la, x.n - 1⟩), fset (fset C.link (C.link i).be.toNat { C.link (C.link i).be.toNat with ah := -1 }) i lk0⟩
structure PopOk (C : CS) (room : Nat) (i : Nat) : Prop where
  lt : i < room
  ins : (C.link i).ins = true
  ah : (C.link i).ah = -1
  head : ∃ x, C.head ((C.link i).l, (C.link i).s) = some x ∧ (((C.link i).be = -1 ∧ x.n = 1) ∨ ∃ p nn : Nat, (C.link i).be = p ∧ p < room ∧ p ≠ i ∧ x.n = nn ∧ 2 ≤ nn ∧ nn < 4294967296)
theorem pop_any {B : CB} {C : CS} {w : World} (h : ChainAt B C w) {i : Nat} (hp : PopOk C B.room i) : Calls Tryz.prog 133 #[.pointer (some ⟨B.b, 0, none⟩), .int .i64 i] w fun e w' =>
    e = .returned (.bool true) ∧ Tch B.own w w' ∧ ChainAt B (C.pop i) w' := by
  obtain ⟨x, hh, hx⟩ := hp.head
  have e0 : C.link i = ⟨(C.link i).l, (C.link i).s, true, -1, (C.link i).be⟩ := by
    have h1 := hp.ins
    have h2 := hp.ah
    cases hc : C.link i
    rw [hc] at h1 h2
    simp only at h1 h2
    subst h1 h2
    rfl
  unfold CS.pop
  rcases hx with ⟨h1, h2⟩ | ⟨p, nn, h1, h2, h3, h4, h5, h6⟩
  · simp only [h1, if_true]
    rw [h1] at e0
    exact remove_one h hp.lt e0 hh h2
  · have hne : ¬ ((C.link i).be = -1) := by omega
    have e : (C.link i).be.toNat = p := by omega
    simp only [if_neg hne, e, hh, Option.map_some]
    rw [h1] at e0 ⊢
    exact remove_front h hp.lt e0 h2 h3 hh h4 ⟨h5, h6⟩
end Go.Proofs.YtkndlfdpmpdihaaGreatDoor
namespace Go.Proofs.YtkndlfdpmpdihaaGreatDoor
open Go.RowKit Go.Ev Go.Mv
set_option linter.unusedVariables false
set_option linter.unusedSimpArgs false
set_option maxRecDepth 100000
/-- Worlds ahead of a call that turns the world, and behind it. -/
def CallE (T : World → Prop) (w2 : World) : Bool → World → Prop
  | false, w => Below w2.heap.size w2 w
  | true, w => T w
theorem callE_one {T : World → Prop} {w2 : World} {k : Nat} {T' : TypeId} {cs : Array Value} (hk : Blk w2 k cs T') (j : Nat) {v : Value} (hv : cs[j]? = some v) : ∀ x : One (CallE T w2 false), x.w.cell? ⟨k, j, none⟩ = some v := fun x => (hk.below x.h hk.lt).cell j hv
theorem callE_ne (T : World → Prop) (w2 : World) : Nonempty (One (CallE T w2 false)) ∧ Nonempty (Two (CallE T w2)) := ⟨⟨⟨w2, Below.refl _ _⟩⟩, ⟨⟨false, w2, Below.refl _ _⟩⟩⟩
theorem wheelV_m (B : WB) (S : WS) (m : Nat → Nat) : ((((((((wheelV B S).setIfInBounds 2 (.int .u64 (m 0))).setIfInBounds 3 (.int .u64 (m 1))).setIfInBounds 4 (.int .u64 (m 2))).setIfInBounds 5 (.int .u64 (m 3))).setIfInBounds 6 (.int .u64 (m 4))).setIfInBounds 7 (.int .u64 (m 5))).setIfInBounds 8 (.int .u64 (m 6))).setIfInBounds 9 (.int .u64 (m 7)) = wheelV B { S with m := m } := by
  simp only [wheelV, List.setIfInBounds_toArray, List.set_cons_succ, List.set_cons_zero]
theorem placeOf_key (b d : Nat) : ((placeOf b d).1 < 0 ∨ 8 ≤ (placeOf b d).1) ∨ slotK (placeOf b d) := by
  unfold placeOf
  split
  · exact .inl (.inl (by decide))
  · split
    · exact .inl (.inr (by decide))
    · rename_i h1 h2
      have := topN_le b d
      refine .inr ⟨topN b d, digN d (topN b d), rfl, by omega, ?_⟩
      unfold digN
      split <;> omega
section
variable {B : WB} {S : WS} {w w' : World}
set_option maxHeartbeats 4000000 in
theorem push_at (h : WheelAt B S w) {a : Nat} {t : Tm} (hL : LiveAt S.p a t) (hd : t.d < 18446744073709551616) (hb : S.base < 18446744073709551616) (hm : ∀ i, S.m i < 18446744073709551616) (hpk : PushOk S.c B.c.room (placeOf S.base t.d) a) : Calls Tryz.prog 113 #[.pointer (some ⟨B.b, 0, none⟩), .int .u64 (hN S.p a : Nat)] w fun e w' =>
    e = .returned (.tuple #[]) ∧ Tch B.own w w' ∧ WheelAt B { S with c := S.c.push (placeOf S.base t.d) a, m := occSet S.m (placeOf S.base t.d) } w' := by
  have hlw := h.lt
  have hof := of_at S.base t.d hb hd
  have hko : ((placeOf S.base t.d).1 < 0 ∨ 8 ≤ (placeOf S.base t.d).1) ∨ slotK (placeOf S.base t.d) := placeOf_key S.base t.d
  obtain ⟨⟨l, s⟩, hpl⟩ : ∃ k, k = placeOf S.base t.d := ⟨_, rfl⟩
  rw [← hpl] at hof hko hpk ⊢
  clear hpl
  simp only at hof hko
  have hgt := get_live h.pool hL
  have c0 : w.cell? ⟨B.b, 0, none⟩ = some (.pointer (some ⟨B.p.b, 0, none⟩)) := h.blk.cell 0 rfl
  go_enter Tryz.func113, Tryz.ntmps113
  go_wp2_with (go_at_call 112; fail)
  refine hgt.mono ?_
  rintro e w1 ⟨rfl, hb1⟩
  go_wp2
  have hB1 : Below w.heap.size w (w1.alloc (.cells #[.int .u64 t.d, .int .u64 t.p, .int .u64 t.o] 226)) := hb1.alloc hb1.size _
  have hE := Blk.new w1 #[.int .u64 t.d, .int .u64 t.p, .int .u64 t.o] 226
  have hsz1 := hb1.size
  have h1 := h.below hB1 hlw
  clear c0 hgt
  generalize w1.alloc (.cells #[.int .u64 t.d, .int .u64 t.p, .int .u64 t.o] 226) = w2 at *
  generalize w1.heap.size = eb at *
  have hS : ∀ W, Below w2.heap.size w2 W → W.cell? ⟨B.b, 10, none⟩ = some (.int .u64 S.base) ∧ W.cell? ⟨eb, 0, none⟩ = some (.int .u64 t.d) := fun W hW => ⟨h1.blk.wx 10 rfl ⟨W, hW⟩, hE.wx 0 rfl ⟨W, hW⟩⟩
  have hH := hS _ (Below.refl _ _)
  have c1 := hH.1
  have c2 := hH.2
  go_region_held3 (fun W => W.cell? ⟨B.b, 10, none⟩ = some (.int .u64 S.base) ∧ W.cell? ⟨eb, 0, none⟩ = some (.int .u64 t.d)) (exact hS _ (by first | exact (Below.refl _ w2).drew | exact ((Below.refl _ w2).drew).alloc (Nat.le_refl _) _ | exact hbl | exact hbl.alloc hbl.size _ | exact ((hbl.setCell (Nat.le_refl _) _).setCell (Nat.le_refl _) _))) (first | (go_at_call 180; refine (hof _).mono ?_; rintro e w3 ⟨rfl, hb3⟩; first | (have hNk : Blk w3 w2.heap.size #[.int .i64 0, .int .i64 0] 219 := (Blk.new w2.drew #[.int .i64 0, .int .i64 0] 219).below hb3 (Blk.new w2.drew #[.int .i64 0, .int .i64 0] 219).lt; have q0 : w3.cell? ⟨w2.heap.size, 0, none⟩ = some (.int .i64 0) := hNk.cell 0 rfl; have q1 : w3.cell? ⟨w2.heap.size, 1, none⟩ = some (.int .i64 0) := hNk.cell 1 rfl; have f0 := hNk.free 0; have f1 := hNk.free 1; have hbl : Below w2.heap.size w2 w3 := (((Below.refl _ w2).drew).alloc (Nat.le_refl _) _).trans (hb3.mono (by simp))) | (have hbl : Below w2.heap.size w2 w3 := ((Below.refl _ w2).drew).trans hb3)))
  all_goals go_wp2
  · have hK := Blk.new w3 #[.int .i64 l, .int .i64 s] 219
    have hBW := hbl.alloc hbl.size (.cells #[.int .i64 l, .int .i64 s] 219)
    have hnb : w2.heap.size ≤ w3.heap.size := hbl.size
    generalize w3.alloc (.cells #[.int .i64 l, .int .i64 s] 219) = w4 at *
    generalize w3.heap.size = nb at *
    have hK' : Blk w4 nb #[.int .i64 l, .int .i64 s] 219 := hK
    clear hK
    have hl1 := h1.lt
    have h4 := h1.below hBW hl1
    have hl4 := h4.lt
    have hB4 : Below w.heap.size w w4 := hB1.trans (hBW.mono hB1.size)
    clear hS hH c1 c2 hE
    let T2 : World → Prop := fun W => Tch B.c.own w4 W ∧ ChainAt B.c (S.c.push (l, s) a) W
    have hne := callE_ne T2 w4
    haveI := hne.1
    haveI := hne.2
    have d1 : ∀ x : One (CallE T2 w4 false), x.w.cell? ⟨B.b, 1, none⟩ = some (.pointer (some ⟨B.c.b, 0, none⟩)) := callE_one h4.blk 1 rfl
    have d2 : ∀ x : One (CallE T2 w4 false), x.w.cell? ⟨B.b, 0, none⟩ = some (.pointer (some ⟨B.p.b, 0, none⟩)) := callE_one h4.blk 0 rfl
    have d3 : ∀ x : One (CallE T2 w4 false), x.w.cell? ⟨nb, 0, none⟩ = some (.int .i64 l) := callE_one hK' 0 rfl
    have d4 : ∀ x : One (CallE T2 w4 false), x.w.cell? ⟨nb, 1, none⟩ = some (.int .i64 s) := callE_one hK' 1 rfl
    refine wp_region_two (CallE T2 w4) 12 (by decide) (by kernel_rfl) (by kernel_rfl) (Below.refl _ _).drew ?_
    (repeat (first | (refine lexS_skip (by rfl) (by decide) ?_; simp only [Act.put, List.setIfInBounds_toArray, List.set_cons_succ, List.set_cons_zero]) | (refine lexS_ewant (by rfl) (by decide) (by kernel_rfl) (by rfl) ?_; intro K hK; go_big_quiet_op; refine hK _ ?_; clear hK K)))
    refine lexS_ecall (f := 131) (args := #[.pointer (some ⟨B.p.b, 0, none⟩), .int .u64 (hN S.p a : Nat)]) (v := .int .i64 a) (by rfl) (by decide) (by kernel_rfl) (fun w => by kernel_rfl) (fun x => ((place_live (h4.below x.h hl4).pool hL).mono fun e w' hx => ⟨hx.1, Below.trans x.h (hx.2.mono x.h.size)⟩)) ?_
    simp only [Act.put, List.setIfInBounds_toArray, List.set_cons_succ, List.set_cons_zero]
    refine lexS_callT (f := 181) (args := #[.pointer (some ⟨B.c.b, 0, none⟩), .agg #[.int .i64 l, .int .i64 s], .int .i64 a]) (v := .bool true) (by rfl) (by rfl) (fun w => by kernel_rfl) (fun W hW => ((push_any (h4.below hW hl4).chain hpk).mono fun e w' hx => ⟨hx.1, (Tch.of_below hW).trans hx.2.1, hx.2.2⟩)) ?_
    simp only [Act.put, List.setIfInBounds_toArray, List.set_cons_succ, List.set_cons_zero]
    refine fun w5 hw5 => ?_
    have h5 := h4.chainT hw5.1 hw5.2
    have hK5 : Blk w5 nb #[.int .i64 l, .int .i64 s] 219 := (hw5.1.block _ hK'.lt (by rintro (e | e) <;> omega)).trans hK'
    have hF5 : Tch B.own w w5 := (Tch.of_below hB4).trans' hw5.1 (fun j _ hj => .inr (.inr hj))
    clear d1 d2 d3 d4 hne hw5
    go_wp2
    have hl5 := h5.lt
    let S6 : WS := { S with c := S.c.push (l, s) a, m := occSet S.m (l, s) }
    let vs : Bool → Array Value := fun b => if b then wheelV B { S with m := occSet S.m (l, s) } else wheelV B S
    have hb5 : Blk w5 B.b (vs false) 215 := h5.blk
    have hne := one_ne (w2 := w5) (rb := B.b) (T := 215) (vs := vs) hb5
    haveI := hne.1
    haveI := hne.2
    have d0 : ∀ x : One (BlkE w5 B.b 215 vs false), x.w.cell? ⟨B.b, 2, none⟩ = some (.int .u64 (S.m 0)) := blkE_own 2 rfl
    have d1 : ∀ x : One (BlkE w5 B.b 215 vs false), x.w.cell? ⟨B.b, 3, none⟩ = some (.int .u64 (S.m 1)) := blkE_own 3 rfl
    have d2 : ∀ x : One (BlkE w5 B.b 215 vs false), x.w.cell? ⟨B.b, 4, none⟩ = some (.int .u64 (S.m 2)) := blkE_own 4 rfl
    have d3 : ∀ x : One (BlkE w5 B.b 215 vs false), x.w.cell? ⟨B.b, 5, none⟩ = some (.int .u64 (S.m 3)) := blkE_own 5 rfl
    have d4 : ∀ x : One (BlkE w5 B.b 215 vs false), x.w.cell? ⟨B.b, 6, none⟩ = some (.int .u64 (S.m 4)) := blkE_own 6 rfl
    have d5 : ∀ x : One (BlkE w5 B.b 215 vs false), x.w.cell? ⟨B.b, 7, none⟩ = some (.int .u64 (S.m 5)) := blkE_own 7 rfl
    have d6 : ∀ x : One (BlkE w5 B.b 215 vs false), x.w.cell? ⟨B.b, 8, none⟩ = some (.int .u64 (S.m 6)) := blkE_own 8 rfl
    have d7 : ∀ x : One (BlkE w5 B.b 215 vs false), x.w.cell? ⟨B.b, 9, none⟩ = some (.int .u64 (S.m 7)) := blkE_own 9 rfl
    have k0 : ∀ x : One (BlkE w5 B.b 215 vs false), x.w.cell? ⟨nb, 0, none⟩ = some (.int .i64 l) := blkE_one hK5 (by omega) 0 rfl
    have k1 : ∀ x : One (BlkE w5 B.b 215 vs false), x.w.cell? ⟨nb, 1, none⟩ = some (.int .i64 s) := blkE_one hK5 (by omega) 1 rfl
    refine wp_region_two (BlkE w5 B.b 215 vs) 12 (by decide) (by kernel_rfl) (by kernel_rfl) ⟨(Tch.refl _ _).drew, hb5⟩ ?_
    (repeat (first | (refine lexS_skip (by rfl) (by decide) ?_; simp only [Act.put, List.setIfInBounds_toArray, List.set_cons_succ, List.set_cons_zero]) | (refine lexS_ewant (by rfl) (by decide) (by kernel_rfl) (by rfl) ?_; intro K hK; go_big_quiet_op; refine hK _ ?_; clear hK K)))
    refine lexS_ecall (f := 182) (args := #[.agg (arr8 S.m), .int .i64 l, .int .i64 s]) (v := .agg (arr8 (occSet S.m (l, s)))) (by rfl) (by decide) (by kernel_rfl) (fun w => by kernel_rfl) (fun x => ((oset_at hm hko x.w).mono fun e w' hx => ⟨hx.1, x.h.keep hx.2⟩)) ?_
    simp only [Act.put, List.setIfInBounds_toArray, List.set_cons_succ, List.set_cons_zero]
    (repeat (first | (refine lexS_skip (by rfl) (by decide) ?_; simp only [Act.put, List.setIfInBounds_toArray, List.set_cons_succ, List.set_cons_zero]) | (refine lexS_ewant (by rfl) (by decide) (by kernel_rfl) (by rfl) ?_; intro K hK; go_big_quiet_op; refine hK _ ?_; clear hK K)))
    unfold arr8
    refine lexS_turn (by rfl) (by rfl) undef (fun W hW => ?_) ?_
    · have hb : Blk W B.b (wheelV B S) 215 := hW.2
      have q2 := hb.cell 2 rfl
      have q3 := hb.cell 3 rfl
      have q4 := hb.cell 4 rfl
      have q5 := hb.cell 5 rfl
      have q6 := hb.cell 6 rfl
      have q7 := hb.cell 7 rfl
      have q8 := hb.cell 8 rfl
      have q9 := hb.cell 9 rfl
      have f2 := hb.free 2
      have f3 := hb.free 3
      have f4 := hb.free 4
      have f5 := hb.free 5
      have f6 := hb.free 6
      have f7 := hb.free 7
      have f8 := hb.free 8
      have f9 := hb.free 9
      unfold does
      go_simp
      have hs := (((((((hb.set 2 (.int .u64 ((occSet S.m (l, s)) 0))).set 3 (.int .u64 ((occSet S.m (l, s)) 1))).set 4 (.int .u64 ((occSet S.m (l, s)) 2))).set 5 (.int .u64 ((occSet S.m (l, s)) 3))).set 6 (.int .u64 ((occSet S.m (l, s)) 4))).set 7 (.int .u64 ((occSet S.m (l, s)) 5))).set 8 (.int .u64 ((occSet S.m (l, s)) 6))).set 9 (.int .u64 ((occSet S.m (l, s)) 7))
      rw [wheelV_m B S (occSet S.m (l, s))] at hs
      exact ⟨⟨(((((((hW.1.setCell _ (.inl rfl)).setCell _ (.inl rfl)).setCell _ (.inl rfl)).setCell _ (.inl rfl)).setCell _ (.inl rfl)).setCell _ (.inl rfl)).setCell _ (.inl rfl)).setCell _ (.inl rfl), hs⟩, rfl⟩
    simp only [Act.put, List.setIfInBounds_toArray, List.set_cons_succ, List.set_cons_zero]
    refine fun w6 hw6 => ?_
    have hb6 : Blk w6 B.b (wheelV B S6) 215 := hw6.2
    have h6 : WheelAt B S6 w6 := h5.selfT (m := occSet S.m (l, s)) (base := S.base) (order := S.order) hw6.1 hb6
    go_wp2
    go_end0
    exact ⟨rfl, hF5.trans' hw6.1 (fun j _ hj => .inl hj), h6⟩
  · have hK := (hNk.set 0 (.int .i64 l)).set 1 (.int .i64 s)
    have hBW := (hbl.setCell (p := ⟨w2.heap.size, 0, none⟩) (Nat.le_refl _) (.int .i64 l)).setCell (p := ⟨w2.heap.size, 1, none⟩) (Nat.le_refl _) (.int .i64 s)
    generalize World.setCell (World.setCell w3 ⟨w2.heap.size, 0, none⟩ (.int .i64 l)) ⟨w2.heap.size, 1, none⟩ (.int .i64 s) = w4 at *
    obtain ⟨nb, hnbe⟩ : ∃ nb, nb = w2.heap.size := ⟨_, rfl⟩
    have hnb : w2.heap.size ≤ nb := by omega
    rw [← hnbe] at hK ⊢
    clear hnbe
    have hK' : Blk w4 nb #[.int .i64 l, .int .i64 s] 219 := hK
    clear hK
    have hl1 := h1.lt
    have h4 := h1.below hBW hl1
    have hl4 := h4.lt
    have hB4 : Below w.heap.size w w4 := hB1.trans (hBW.mono hB1.size)
    clear hS hH c1 c2 hE
    let T2 : World → Prop := fun W => Tch B.c.own w4 W ∧ ChainAt B.c (S.c.push (l, s) a) W
    have hne := callE_ne T2 w4
    haveI := hne.1
    haveI := hne.2
    have d1 : ∀ x : One (CallE T2 w4 false), x.w.cell? ⟨B.b, 1, none⟩ = some (.pointer (some ⟨B.c.b, 0, none⟩)) := callE_one h4.blk 1 rfl
    have d2 : ∀ x : One (CallE T2 w4 false), x.w.cell? ⟨B.b, 0, none⟩ = some (.pointer (some ⟨B.p.b, 0, none⟩)) := callE_one h4.blk 0 rfl
    have d3 : ∀ x : One (CallE T2 w4 false), x.w.cell? ⟨nb, 0, none⟩ = some (.int .i64 l) := callE_one hK' 0 rfl
    have d4 : ∀ x : One (CallE T2 w4 false), x.w.cell? ⟨nb, 1, none⟩ = some (.int .i64 s) := callE_one hK' 1 rfl
    refine wp_region_two (CallE T2 w4) 12 (by decide) (by kernel_rfl) (by kernel_rfl) (Below.refl _ _).drew ?_
    (repeat (first | (refine lexS_skip (by rfl) (by decide) ?_; simp only [Act.put, List.setIfInBounds_toArray, List.set_cons_succ, List.set_cons_zero]) | (refine lexS_ewant (by rfl) (by decide) (by kernel_rfl) (by rfl) ?_; intro K hK; go_big_quiet_op; refine hK _ ?_; clear hK K)))
    refine lexS_ecall (f := 131) (args := #[.pointer (some ⟨B.p.b, 0, none⟩), .int .u64 (hN S.p a : Nat)]) (v := .int .i64 a) (by rfl) (by decide) (by kernel_rfl) (fun w => by kernel_rfl) (fun x => ((place_live (h4.below x.h hl4).pool hL).mono fun e w' hx => ⟨hx.1, Below.trans x.h (hx.2.mono x.h.size)⟩)) ?_
    simp only [Act.put, List.setIfInBounds_toArray, List.set_cons_succ, List.set_cons_zero]
    refine lexS_callT (f := 181) (args := #[.pointer (some ⟨B.c.b, 0, none⟩), .agg #[.int .i64 l, .int .i64 s], .int .i64 a]) (v := .bool true) (by rfl) (by rfl) (fun w => by kernel_rfl) (fun W hW => ((push_any (h4.below hW hl4).chain hpk).mono fun e w' hx => ⟨hx.1, (Tch.of_below hW).trans hx.2.1, hx.2.2⟩)) ?_
    simp only [Act.put, List.setIfInBounds_toArray, List.set_cons_succ, List.set_cons_zero]
    refine fun w5 hw5 => ?_
    have h5 := h4.chainT hw5.1 hw5.2
    have hK5 : Blk w5 nb #[.int .i64 l, .int .i64 s] 219 := (hw5.1.block _ hK'.lt (by rintro (e | e) <;> omega)).trans hK'
    have hF5 : Tch B.own w w5 := (Tch.of_below hB4).trans' hw5.1 (fun j _ hj => .inr (.inr hj))
    clear d1 d2 d3 d4 hne hw5
    go_wp2
    have hl5 := h5.lt
    let S6 : WS := { S with c := S.c.push (l, s) a, m := occSet S.m (l, s) }
    let vs : Bool → Array Value := fun b => if b then wheelV B { S with m := occSet S.m (l, s) } else wheelV B S
    have hb5 : Blk w5 B.b (vs false) 215 := h5.blk
    have hne := one_ne (w2 := w5) (rb := B.b) (T := 215) (vs := vs) hb5
    haveI := hne.1
    haveI := hne.2
    have d0 : ∀ x : One (BlkE w5 B.b 215 vs false), x.w.cell? ⟨B.b, 2, none⟩ = some (.int .u64 (S.m 0)) := blkE_own 2 rfl
    have d1 : ∀ x : One (BlkE w5 B.b 215 vs false), x.w.cell? ⟨B.b, 3, none⟩ = some (.int .u64 (S.m 1)) := blkE_own 3 rfl
    have d2 : ∀ x : One (BlkE w5 B.b 215 vs false), x.w.cell? ⟨B.b, 4, none⟩ = some (.int .u64 (S.m 2)) := blkE_own 4 rfl
    have d3 : ∀ x : One (BlkE w5 B.b 215 vs false), x.w.cell? ⟨B.b, 5, none⟩ = some (.int .u64 (S.m 3)) := blkE_own 5 rfl
    have d4 : ∀ x : One (BlkE w5 B.b 215 vs false), x.w.cell? ⟨B.b, 6, none⟩ = some (.int .u64 (S.m 4)) := blkE_own 6 rfl
    have d5 : ∀ x : One (BlkE w5 B.b 215 vs false), x.w.cell? ⟨B.b, 7, none⟩ = some (.int .u64 (S.m 5)) := blkE_own 7 rfl
    have d6 : ∀ x : One (BlkE w5 B.b 215 vs false), x.w.cell? ⟨B.b, 8, none⟩ = some (.int .u64 (S.m 6)) := blkE_own 8 rfl
    have d7 : ∀ x : One (BlkE w5 B.b 215 vs false), x.w.cell? ⟨B.b, 9, none⟩ = some (.int .u64 (S.m 7)) := blkE_own 9 rfl
    have k0 : ∀ x : One (BlkE w5 B.b 215 vs false), x.w.cell? ⟨nb, 0, none⟩ = some (.int .i64 l) := blkE_one hK5 (by omega) 0 rfl
    have k1 : ∀ x : One (BlkE w5 B.b 215 vs false), x.w.cell? ⟨nb, 1, none⟩ = some (.int .i64 s) := blkE_one hK5 (by omega) 1 rfl
    refine wp_region_two (BlkE w5 B.b 215 vs) 12 (by decide) (by kernel_rfl) (by kernel_rfl) ⟨(Tch.refl _ _).drew, hb5⟩ ?_
    (repeat (first | (refine lexS_skip (by rfl) (by decide) ?_; simp only [Act.put, List.setIfInBounds_toArray, List.set_cons_succ, List.set_cons_zero]) | (refine lexS_ewant (by rfl) (by decide) (by kernel_rfl) (by rfl) ?_; intro K hK; go_big_quiet_op; refine hK _ ?_; clear hK K)))
    refine lexS_ecall (f := 182) (args := #[.agg (arr8 S.m), .int .i64 l, .int .i64 s]) (v := .agg (arr8 (occSet S.m (l, s)))) (by rfl) (by decide) (by kernel_rfl) (fun w => by kernel_rfl) (fun x => ((oset_at hm hko x.w).mono fun e w' hx => ⟨hx.1, x.h.keep hx.2⟩)) ?_
    simp only [Act.put, List.setIfInBounds_toArray, List.set_cons_succ, List.set_cons_zero]
    (repeat (first | (refine lexS_skip (by rfl) (by decide) ?_; simp only [Act.put, List.setIfInBounds_toArray, List.set_cons_succ, List.set_cons_zero]) | (refine lexS_ewant (by rfl) (by decide) (by kernel_rfl) (by rfl) ?_; intro K hK; go_big_quiet_op; refine hK _ ?_; clear hK K)))
    unfold arr8
    refine lexS_turn (by rfl) (by rfl) undef (fun W hW => ?_) ?_
    · have hb : Blk W B.b (wheelV B S) 215 := hW.2
      have q2 := hb.cell 2 rfl
      have q3 := hb.cell 3 rfl
      have q4 := hb.cell 4 rfl
      have q5 := hb.cell 5 rfl
      have q6 := hb.cell 6 rfl
      have q7 := hb.cell 7 rfl
      have q8 := hb.cell 8 rfl
      have q9 := hb.cell 9 rfl
      have f2 := hb.free 2
      have f3 := hb.free 3
      have f4 := hb.free 4
      have f5 := hb.free 5
      have f6 := hb.free 6
      have f7 := hb.free 7
      have f8 := hb.free 8
      have f9 := hb.free 9
      unfold does
      go_simp
      have hs := (((((((hb.set 2 (.int .u64 ((occSet S.m (l, s)) 0))).set 3 (.int .u64 ((occSet S.m (l, s)) 1))).set 4 (.int .u64 ((occSet S.m (l, s)) 2))).set 5 (.int .u64 ((occSet S.m (l, s)) 3))).set 6 (.int .u64 ((occSet S.m (l, s)) 4))).set 7 (.int .u64 ((occSet S.m (l, s)) 5))).set 8 (.int .u64 ((occSet S.m (l, s)) 6))).set 9 (.int .u64 ((occSet S.m (l, s)) 7))
      rw [wheelV_m B S (occSet S.m (l, s))] at hs
      exact ⟨⟨(((((((hW.1.setCell _ (.inl rfl)).setCell _ (.inl rfl)).setCell _ (.inl rfl)).setCell _ (.inl rfl)).setCell _ (.inl rfl)).setCell _ (.inl rfl)).setCell _ (.inl rfl)).setCell _ (.inl rfl), hs⟩, rfl⟩
    simp only [Act.put, List.setIfInBounds_toArray, List.set_cons_succ, List.set_cons_zero]
    refine fun w6 hw6 => ?_
    have hb6 : Blk w6 B.b (wheelV B S6) 215 := hw6.2
    have h6 : WheelAt B S6 w6 := h5.selfT (m := occSet S.m (l, s)) (base := S.base) (order := S.order) hw6.1 hb6
    go_wp2
    go_end0
    exact ⟨rfl, hF5.trans' hw6.1 (fun j _ hj => .inl hj), h6⟩
end
end Go.Proofs.YtkndlfdpmpdihaaGreatDoor
namespace Go.Proofs.YtkndlfdpmpdihaaGreatDoor
open Go.RowKit Go.Ev Go.Mv
set_option linter.unusedVariables false
set_option linter.unusedSimpArgs false
set_option maxRecDepth 100000
section
variable {B : WB} {S : WS} {w w' : World}
/-- A wheel in which the timer of a place has a deadline. -/
noncomputable def WS.give (S : WS) (a d p : Nat) : WS :=
  { p := { S.p with ent := fset S.p.ent a (some ⟨d, p, S.order⟩) }, c := S.c.push (placeOf S.base d) a, m := occSet S.m (placeOf S.base d), base := S.base, order := S.order + 1 }
theorem wheelV_order (B : WB) (S : WS) (n : Nat) : (wheelV B S).setIfInBounds 11 (.int .u64 n) = wheelV B { S with order := n } := by
  simp only [wheelV, List.setIfInBounds_toArray, List.set_cons_succ, List.set_cons_zero]
theorem give_at (h : WheelAt B S w) {a : Nat} {t : Tm} (hL : LiveAt S.p a t) {d p : Nat} (hd : d < 18446744073709551616) (hb : S.base < 18446744073709551616) (ho : S.order < 4294967296) (hm : ∀ i, S.m i < 18446744073709551616) (hpk : PushOk S.c B.c.room (placeOf S.base d) a) :
    Calls Tryz.prog 119 #[.pointer (some ⟨B.b, 0, none⟩), .int .u64 (hN S.p a : Nat), .int .u64 d, .int .u64 p] w fun e w' =>
    e = .returned (.tuple #[]) ∧ Tch B.own w w' ∧ WheelAt B (S.give a d p) w' := by
  have hlw := h.lt
  go_enter Tryz.func119, Tryz.ntmps119
  go_wp2
  let T2 : World → Prop := fun W => Tch (fun k => k = B.p.re) w W ∧ PoolAt B.p { S.p with ent := fset S.p.ent a (some ⟨d, p, S.order⟩) } W
  have hne := callE_ne T2 w
  haveI := hne.1
  haveI := hne.2
  have d1 : ∀ x : One (CallE T2 w false), x.w.cell? ⟨B.b, 0, none⟩ = some (.pointer (some ⟨B.p.b, 0, none⟩)) := callE_one h.blk 0 rfl
  have d2 : ∀ x : One (CallE T2 w false), x.w.cell? ⟨B.b, 11, none⟩ = some (.int .u64 S.order) := callE_one h.blk 11 rfl
  refine wp_region_two (CallE T2 w) 13 (by decide) (by kernel_rfl) (by kernel_rfl) (Below.refl _ _).drew ?_
  (repeat (first | (refine lexS_skip (by rfl) (by decide) ?_; simp only [Act.put, List.setIfInBounds_toArray, List.set_cons_succ, List.set_cons_zero]) | (refine lexS_ewant (by rfl) (by decide) (by kernel_rfl) (by rfl) ?_; intro K hK; go_big_quiet_op; refine hK _ ?_; clear hK K)))
  refine lexS_callT (f := 187) (args := #[.pointer (some ⟨B.p.b, 0, none⟩), .int .u64 (hN S.p a : Nat), .agg #[.int .u64 d, .int .u64 p, .int .u64 S.order]]) (v := .bool true) (by rfl) (by rfl) (fun w => by kernel_rfl) (fun W hW => ((set_live (h.below hW hlw).pool hL ⟨d, p, S.order⟩).mono fun e w' hx => ⟨hx.1, (Tch.of_below hW).trans hx.2.1, hx.2.2⟩)) ?_
  simp only [Act.put, List.setIfInBounds_toArray, List.set_cons_succ, List.set_cons_zero]
  refine fun w1 hw1 => ?_
  have ht1 : Tch B.p.own w w1 := hw1.1.mono fun j hj => .inl hj
  have h1 := h.poolT ht1 hw1.2
  have hF1 : Tch B.own w w1 := ht1.mono fun j hj => .inr (.inl hj)
  have hL1 : LiveAt { S.p with ent := fset S.p.ent a (some ⟨d, p, S.order⟩) } a ⟨d, p, S.order⟩ := ⟨fset_same _ _ _, hL.lt, hL.gen⟩
  have e1 : w1.cell? ⟨B.b, 11, none⟩ = some (.int .u64 S.order) := h1.blk.cell 11 rfl
  have f1 := h1.blk.free 11
  clear d1 d2 hne hw1
  have h2b := h1.blk.set 11 (.int .u64 (S.order + 1 : Nat))
  rw [wheelV_order] at h2b
  have ht2 := (Tch.refl (fun r => r = B.b) w1).setCell (a := ⟨B.b, 11, none⟩) (.int .u64 (S.order + 1 : Nat)) (.inl rfl)
  have h2 := h1.selfT (m := S.m) (base := S.base) (order := S.order + 1) ht2 h2b
  have hF2 : Tch B.own w (w1.setCell ⟨B.b, 11, none⟩ (.int .u64 (S.order + 1 : Nat))) := hF1.trans' ht2 (fun j _ hj => .inl hj)
  have hpu := push_at h2 (a := a) (t := ⟨d, p, S.order⟩) hL1 hd hb hm hpk
  rw [show ((S.order + 1 : Nat) : Int) = (S.order : Int) + 1 by omega] at hpu hF2
  go_wp2_with (go_at_call 113; refine hpu.mono ?_; rintro e w3 ⟨rfl, ht3, h3⟩)
  go_end0
  exact ⟨rfl, hF2.trans ht3, h3⟩
/-- A wheel with a timer more. -/
noncomputable def WS.add (S : WS) (a d p : Nat) : WS :=
  { p := ⟨fset S.p.ent a (some ⟨d, p, S.order⟩), S.p.gen, S.p.n + 1, markW S.p.word a true⟩, c := S.c.push (placeOf S.base d) a, m := occSet S.m (placeOf S.base d), base := S.base, order := S.order + 1 }
theorem add_at (h : WheelAt B S w) (hT : TabW w) (hT2 : ¬ B.own 2) {a nw : Nat} (hw : S.p.word + nw = 18446744073709551615) (hf : firstN nw 0 = (a : Int)) (ha : a < 64) (hr : a < B.p.room) (hn : S.p.ent a = none) (hg : S.p.gen a < 4294967295)
    {d p : Nat} (hd : d < 18446744073709551616) (hb : S.base < 18446744073709551616) (ho : S.order < 4294967296) (hm : ∀ i, S.m i < 18446744073709551616) (hpk : PushOk S.c B.c.room (placeOf S.base d) a) :
    Calls Tryz.prog 103 #[.pointer (some ⟨B.b, 0, none⟩), .int .u64 d, .int .u64 p] w fun e w' =>
    e = .returned (.tuple #[.int .u64 (hN S.p a : Nat), .int .i64 0]) ∧ Tch B.own w w' ∧ WheelAt B (S.add a d p) w' := by
  have hlw := h.lt
  have hpt := put_at h.pool hT (fun r hr e => hT2 (by subst e; exact .inr (.inl hr))) hw hf ha hr hn hg
  have c0 : w.cell? ⟨B.b, 0, none⟩ = some (.pointer (some ⟨B.p.b, 0, none⟩)) := h.blk.cell 0 rfl
  clear hf
  go_enter Tryz.func103, Tryz.ntmps103
  go_wp2_with (go_at_call 169; fail)
  refine hpt.mono ?_
  rintro e w1 ⟨rfl, ht1, hp1⟩
  have h1 := h.poolT ht1 hp1
  have hF1 : Tch B.own w w1 := ht1.mono fun j hj => .inr (.inl hj)
  have hL1 : LiveAt ⟨fset S.p.ent a (some ⟨0, 0, 0⟩), S.p.gen, S.p.n + 1, markW S.p.word a true⟩ a ⟨0, 0, 0⟩ := ⟨fset_same _ _ _, by omega, hg⟩
  have hgi := give_at h1 hL1 hd hb ho hm hpk (p := p)
  go_wp2_with (go_at_call 119; fail)
  refine hgi.mono ?_
  rintro e w2 ⟨rfl, ht2, h2⟩
  go_wp2
  refine bodyPost_ret (v := .tuple #[.int .u64 (hN S.p a : Nat), .int .i64 0]) ?_ rfl ⟨rfl, hF1.trans ht2, ?_⟩
  · simp [results, Tryz.results103, go_sem]
  · have e : WS.give { S with p := ⟨fset S.p.ent a (some ⟨0, 0, 0⟩), S.p.gen, S.p.n + 1, markW S.p.word a true⟩ } a d p = S.add a d p := by
      unfold WS.give WS.add
      simp only [fset_fset]
    rw [← e]
    exact h2
end
end Go.Proofs.YtkndlfdpmpdihaaGreatDoor
namespace Go.Proofs.YtkndlfdpmpdihaaGreatDoor
open Go.RowKit Go.Ev Go.Mv
set_option linter.unusedVariables false
set_option linter.unusedSimpArgs false
set_option maxRecDepth 100000
section
variable {B : WB} {S : WS} {w w' : World}
/-- What is taken, behind a place's loss. -/
noncomputable def leftM (S : WS) (k : Int × Int) : Nat → Nat := if (hd0 (S.c.head k)).n = 0 then occDrop S.m k else S.m
set_option maxHeartbeats 4000000 in
theorem left_at (h : WheelAt B S w) (hm : ∀ i, S.m i < 18446744073709551616) {l s : Int} (hko : (l < 0 ∨ 8 ≤ l) ∨ slotK (l, s)) : Calls Tryz.prog 111 #[.pointer (some ⟨B.b, 0, none⟩), .agg #[.int .i64 l, .int .i64 s]] w fun e w' =>
    e = .returned (.tuple #[]) ∧ Tch B.own w w' ∧ WheelAt B { S with m := leftM S (l, s) } w' := by
  have hlw := h.lt
  go_enter Tryz.func111, Tryz.ntmps111
  have hBa : Below w.heap.size w (w.alloc (Obj.cells #[.int .i64 l, .int .i64 s] 219)) := (Below.refl _ w).alloc (Nat.le_refl _) _
  have h0 := h.below hBa hlw
  have hX := Blk.new w #[.int .i64 l, .int .i64 s] 219
  go_wp2
  generalize w.alloc (Obj.cells #[.int .i64 l, .int .i64 s] 219) = w2 at *
  have hl2 := h0.lt
  have c1 : ∀ x : WX w2, x.w.cell? ⟨B.b, 1, none⟩ = some (.pointer (some ⟨B.c.b, 0, none⟩)) := h0.blk.wx 1 rfl
  have c2 : ∀ x : WX w2, x.w.cell? ⟨w.heap.size, 0, none⟩ = some (.int .i64 l) := hX.wx 0 rfl
  have c3 : ∀ x : WX w2, x.w.cell? ⟨w.heap.size, 1, none⟩ = some (.int .i64 s) := hX.wx 1 rfl
  refine wp_region_grown (by kernel_rfl) (by kernel_rfl) ?_
  repeat (go_big_quiet_step (first | (go_at_call 171; exact WX.of (len_of (h0.below (by first | assumption | exact WX.h _) hl2).chain l s))))
  refine wpQuiet_nil ?_
  intro w5 hb5
  have h5 := h0.below hb5 hl2
  have hK5 := hX.below hb5 hX.lt
  have hB5 : Below w.heap.size w w5 := hBa.trans (hb5.mono hBa.size)
  have hF5 : Tch B.own w w5 := Tch.of_below hB5
  obtain ⟨nb, hnbe⟩ : ∃ nb, nb = w.heap.size := ⟨_, rfl⟩
  have hnb : w.heap.size ≤ nb := by omega
  rw [← hnbe] at hK5 ⊢
  have hnlt : B.b ≠ nb := by have := hlw.1; omega
  clear hnbe c1 c2 c3
  by_cases hn : (hd0 (S.c.head (l, s))).n = 0
  · go_wp2
    let S6 : WS := { S with m := occDrop S.m (l, s) }
    let vs : Bool → Array Value := fun b => if b then wheelV B { S with m := occDrop S.m (l, s) } else wheelV B S
    have hb5 : Blk w5 B.b (vs false) 215 := h5.blk
    have hne := one_ne (w2 := w5) (rb := B.b) (T := 215) (vs := vs) hb5
    haveI := hne.1
    haveI := hne.2
    have d0 : ∀ x : One (BlkE w5 B.b 215 vs false), x.w.cell? ⟨B.b, 2, none⟩ = some (.int .u64 (S.m 0)) := blkE_own 2 rfl
    have d1 : ∀ x : One (BlkE w5 B.b 215 vs false), x.w.cell? ⟨B.b, 3, none⟩ = some (.int .u64 (S.m 1)) := blkE_own 3 rfl
    have d2 : ∀ x : One (BlkE w5 B.b 215 vs false), x.w.cell? ⟨B.b, 4, none⟩ = some (.int .u64 (S.m 2)) := blkE_own 4 rfl
    have d3 : ∀ x : One (BlkE w5 B.b 215 vs false), x.w.cell? ⟨B.b, 5, none⟩ = some (.int .u64 (S.m 3)) := blkE_own 5 rfl
    have d4 : ∀ x : One (BlkE w5 B.b 215 vs false), x.w.cell? ⟨B.b, 6, none⟩ = some (.int .u64 (S.m 4)) := blkE_own 6 rfl
    have d5 : ∀ x : One (BlkE w5 B.b 215 vs false), x.w.cell? ⟨B.b, 7, none⟩ = some (.int .u64 (S.m 5)) := blkE_own 7 rfl
    have d6 : ∀ x : One (BlkE w5 B.b 215 vs false), x.w.cell? ⟨B.b, 8, none⟩ = some (.int .u64 (S.m 6)) := blkE_own 8 rfl
    have d7 : ∀ x : One (BlkE w5 B.b 215 vs false), x.w.cell? ⟨B.b, 9, none⟩ = some (.int .u64 (S.m 7)) := blkE_own 9 rfl
    have k0 : ∀ x : One (BlkE w5 B.b 215 vs false), x.w.cell? ⟨nb, 0, none⟩ = some (.int .i64 l) := blkE_one hK5 (by omega) 0 rfl
    have k1 : ∀ x : One (BlkE w5 B.b 215 vs false), x.w.cell? ⟨nb, 1, none⟩ = some (.int .i64 s) := blkE_one hK5 (by omega) 1 rfl
    refine wp_region_two (BlkE w5 B.b 215 vs) 12 (by decide) (by kernel_rfl) (by kernel_rfl) ⟨(Tch.refl _ _).drew, hb5⟩ ?_
    (repeat (first | (refine lexS_skip (by rfl) (by decide) ?_; simp only [Act.put, List.setIfInBounds_toArray, List.set_cons_succ, List.set_cons_zero]) | (refine lexS_ewant (by rfl) (by decide) (by kernel_rfl) (by rfl) ?_; intro K hK; go_big_quiet_op; refine hK _ ?_; clear hK K)))
    refine lexS_ecall (f := 178) (args := #[.agg (arr8 S.m), .int .i64 l, .int .i64 s]) (v := .agg (arr8 (occDrop S.m (l, s)))) (by rfl) (by decide) (by kernel_rfl) (fun w => by kernel_rfl) (fun x => ((odrop_at hm hko x.w).mono fun e w' hx => ⟨hx.1, x.h.keep hx.2⟩)) ?_
    simp only [Act.put, List.setIfInBounds_toArray, List.set_cons_succ, List.set_cons_zero]
    (repeat (first | (refine lexS_skip (by rfl) (by decide) ?_; simp only [Act.put, List.setIfInBounds_toArray, List.set_cons_succ, List.set_cons_zero]) | (refine lexS_ewant (by rfl) (by decide) (by kernel_rfl) (by rfl) ?_; intro K hK; go_big_quiet_op; refine hK _ ?_; clear hK K)))
    unfold arr8
    refine lexS_turn (by rfl) (by rfl) undef (fun W hW => ?_) ?_
    · have hb : Blk W B.b (wheelV B S) 215 := hW.2
      have q2 := hb.cell 2 rfl
      have q3 := hb.cell 3 rfl
      have q4 := hb.cell 4 rfl
      have q5 := hb.cell 5 rfl
      have q6 := hb.cell 6 rfl
      have q7 := hb.cell 7 rfl
      have q8 := hb.cell 8 rfl
      have q9 := hb.cell 9 rfl
      have f2 := hb.free 2
      have f3 := hb.free 3
      have f4 := hb.free 4
      have f5 := hb.free 5
      have f6 := hb.free 6
      have f7 := hb.free 7
      have f8 := hb.free 8
      have f9 := hb.free 9
      unfold does
      go_simp
      have hs := (((((((hb.set 2 (.int .u64 ((occDrop S.m (l, s)) 0))).set 3 (.int .u64 ((occDrop S.m (l, s)) 1))).set 4 (.int .u64 ((occDrop S.m (l, s)) 2))).set 5 (.int .u64 ((occDrop S.m (l, s)) 3))).set 6 (.int .u64 ((occDrop S.m (l, s)) 4))).set 7 (.int .u64 ((occDrop S.m (l, s)) 5))).set 8 (.int .u64 ((occDrop S.m (l, s)) 6))).set 9 (.int .u64 ((occDrop S.m (l, s)) 7))
      rw [wheelV_m B S (occDrop S.m (l, s))] at hs
      exact ⟨⟨(((((((hW.1.setCell _ (.inl rfl)).setCell _ (.inl rfl)).setCell _ (.inl rfl)).setCell _ (.inl rfl)).setCell _ (.inl rfl)).setCell _ (.inl rfl)).setCell _ (.inl rfl)).setCell _ (.inl rfl), hs⟩, rfl⟩
    simp only [Act.put, List.setIfInBounds_toArray, List.set_cons_succ, List.set_cons_zero]
    refine fun w6 hw6 => ?_
    have hb6 : Blk w6 B.b (wheelV B S6) 215 := hw6.2
    have h6 : WheelAt B S6 w6 := h5.selfT (m := occDrop S.m (l, s)) (base := S.base) (order := S.order) hw6.1 hb6
    go_wp2
    go_end0
    exact ⟨rfl, hF5.trans' hw6.1 (fun j _ hj => .inl hj), by unfold leftM; rw [if_pos hn]; exact h6⟩
  · skip
    have hn' : ((hd0 (S.c.head (l, s))).n == 0) = false := by simp; exact hn
    go_wp2
    go_end0
    exact ⟨rfl, hF5, by unfold leftM; rw [if_neg hn]; exact h5⟩
end
end Go.Proofs.YtkndlfdpmpdihaaGreatDoor
namespace Go.Proofs.YtkndlfdpmpdihaaGreatDoor
open Go.RowKit Go.Ev Go.Mv
set_option linter.unusedVariables false
set_option linter.unusedSimpArgs false
set_option maxRecDepth 100000
section
variable {B : WB} {S : WS} {w w' : World}
theorem wlive_at (h : WheelAt B S w) : Calls Tryz.prog 72 #[.pointer (some ⟨B.b, 0, none⟩)] w fun e w' => e = .returned (.int .i64 (S.p.n : Int)) ∧ Below w.heap.size w w' := by
  have c0 : w.cell? ⟨B.b, 0, none⟩ = some (.pointer (some ⟨B.p.b, 0, none⟩)) := h.blk.cell 0 rfl
  go_enter Tryz.func72, Tryz.ntmps72
  go_wp2_with (go_at_call 128; refine (live_at h.pool).mono ?_; rintro e w1 ⟨rfl, hb1⟩)
  refine bodyPost_ret (v := .int .i64 (S.p.n : Int)) ?_ rfl ⟨rfl, hb1⟩
  simp [results, Tryz.results72, go_sem]
/-- A wheel without a timer. -/
noncomputable def WS.popped (S : WS) (a : Nat) : WS := { S with p := S.p.drop a, c := S.c.pop a }
noncomputable def WS.cancel (S : WS) (a : Nat) : WS := { S.popped a with m := leftM (S.popped a) ((S.c.link a).l, (S.c.link a).s) }
set_option maxHeartbeats 4000000 in
theorem cancel_at (h : WheelAt B S w) {a : Nat} {t : Tm} (hL : LiveAt S.p a t) (ha : a < 64) (hw : S.p.word < 18446744073709551616) (hm : ∀ i, S.m i < 18446744073709551616) (hp : PopOk S.c B.c.room a)
    (hko : ((S.c.link a).l < 0 ∨ 8 ≤ (S.c.link a).l) ∨ slotK ((S.c.link a).l, (S.c.link a).s)) : Calls Tryz.prog 77 #[.pointer (some ⟨B.b, 0, none⟩), .int .u64 (hN S.p a : Nat)] w fun e w' =>
    e = .returned (.bool true) ∧ Tch B.own w w' ∧ WheelAt B (S.cancel a) w' := by
  have hlw := h.lt
  have c0 : w.cell? ⟨B.b, 0, none⟩ = some (.pointer (some ⟨B.p.b, 0, none⟩)) := h.blk.cell 0 rfl
  go_enter Tryz.func77, Tryz.ntmps77
  go_wp2_with (go_at_call 131; fail)
  refine (place_live h.pool hL).mono ?_
  rintro e w1 ⟨rfl, hb1⟩
  have h1 := h.below hb1 hlw
  have c1 : w1.cell? ⟨B.b, 1, none⟩ = some (.pointer (some ⟨B.c.b, 0, none⟩)) := h1.blk.cell 1 rfl
  have hk := key_at h1.chain hp.lt hp.ins
  go_wp2_with (go_at_call 132; fail)
  refine hk.mono ?_
  rintro e w2 ⟨rfl, hb2⟩
  have hB2 : Below w.heap.size w (w2.alloc (Obj.cells #[.int .i64 (S.c.link a).l, .int .i64 (S.c.link a).s] 219)) := (hb1.trans (hb2.mono hb1.size)).alloc (Nat.le_trans hb1.size hb2.size) _
  have hX3 := Blk.new w2 #[.int .i64 (S.c.link a).l, .int .i64 (S.c.link a).s] 219
  have hn3 : w.heap.size ≤ w2.heap.size := Nat.le_trans hb1.size hb2.size
  have h3 := h.below hB2 hlw
  have hF3 : Tch B.own w (w2.alloc (Obj.cells #[.int .i64 (S.c.link a).l, .int .i64 (S.c.link a).s] 219)) := Tch.of_below hB2
  have c3 : (w2.alloc (Obj.cells #[.int .i64 (S.c.link a).l, .int .i64 (S.c.link a).s] 219)).cell? ⟨B.b, 0, none⟩ = some (.pointer (some ⟨B.p.b, 0, none⟩)) := h3.blk.cell 0 rfl
  go_wp2_with (go_at_call 118; fail)
  generalize w2.alloc (Obj.cells #[.int .i64 (S.c.link a).l, .int .i64 (S.c.link a).s] 219) = w3 at *
  refine (drop_live h3.pool hL ha hw).mono ?_
  rintro e w4 ⟨rfl, ht4, hp4⟩
  have h4 := h3.poolT ht4 hp4
  have hF4 : Tch B.own w w4 := hF3.trans (ht4.mono fun j hj => .inr (.inl hj))
  have hX4 : Blk w4 w2.heap.size #[.int .i64 (S.c.link a).l, .int .i64 (S.c.link a).s] 219 := (ht4.block _ hX3.lt (by have := hlw.2.1; rintro (e | e | e) <;> omega)).trans hX3
  have c4 : w4.cell? ⟨B.b, 1, none⟩ = some (.pointer (some ⟨B.c.b, 0, none⟩)) := h4.blk.cell 1 rfl
  go_wp2_with (go_at_call 133; fail)
  refine (pop_any h4.chain hp).mono ?_
  rintro e w5 ⟨rfl, ht5, hp5⟩
  have h5 := h4.chainT ht5 hp5
  have hF5 : Tch B.own w w5 := hF4.trans (ht5.mono fun j hj => .inr (.inr hj))
  have hX5 : Blk w5 w2.heap.size #[.int .i64 (S.c.link a).l, .int .i64 (S.c.link a).s] 219 := (ht5.block _ hX4.lt (by have := hlw.2.2; rintro (e | e) <;> omega)).trans hX4
  have c5 : w5.cell? ⟨w2.heap.size, 0, none⟩ = some (.int .i64 (S.c.link a).l) := hX5.cell 0 rfl
  have d5 : w5.cell? ⟨w2.heap.size, 1, none⟩ = some (.int .i64 (S.c.link a).s) := hX5.cell 1 rfl
  have hlf := left_at h5 hm hko
  go_wp2_with (go_at_call 111; fail)
  refine hlf.mono ?_
  rintro e w6 ⟨rfl, ht6, h6⟩
  go_wp2
  refine bodyPost_ret (v := .bool true) ?_ rfl ⟨rfl, hF5.trans ht6, h6⟩
  simp [results, Tryz.results77, go_sem]
end
end Go.Proofs.YtkndlfdpmpdihaaGreatDoor
namespace Go.Proofs.YtkndlfdpmpdihaaGreatDoor
open Go.RowKit Go.Ev Go.Mv
set_option linter.unusedVariables false
set_option linter.unusedSimpArgs false
set_option maxRecDepth 100000
theorem min_u64 (b n c : Nat) (zs : List Int) (w : World) (hn : 0 < n) (hz : n ≤ zs.length) (hbig : n ≤ 9223372036854775807) (hc : ∀ j, j < zs.length → w.cell? ⟨b, j, none⟩ = some (.int .u64 (zs.getD j 0))) :
    Calls Tryz.prog 259 #[.slice (some ⟨b, 0, none⟩) n c] w fun e w' => e = .returned (.int .u64 (Lib.minOf (zs.take n))) ∧ w' = w := by
  have h0 : w.cell? ⟨b, 0, none⟩ = some (.int .u64 (zs.getD 0 0)) := by simpa using hc 0 (by omega)
  go_enter Tryz.func259, Tryz.ntmps259
  go_wp2
  go_loopg [3, 4] n (fun g m i wr => ∃ k : Nat, 0 < k ∧ k ≤ n ∧ n - k ≤ g ∧ i = .int .i64 k ∧ m = .int .u64 (Lib.minOf (zs.take k)) ∧ wr = w)
  case atStart => exact ⟨1, Nat.one_pos, hn, by omega, rfl, by rw [Lib.minOf_one]; simp [List.getD], rfl⟩
  case round =>
    obtain ⟨k, hk0, hk, hg, rfl, rfl, rfl⟩ := hrel
    by_cases hlt : k < n
    · have ck : wr.cell? ⟨b, k, none⟩ = some (.int .u64 (zs.getD k 0)) := hc k (by omega)
      have S : Aside (Lib.minOf (zs.take (k + 1)) = min (Lib.minOf (zs.take k)) (zs.getD k 0)) := Lib.minOf_step zs k hk0 (by omega)
      clear hc h0
      go_wp2
      go_roundg (n - (k + 1))
      case measure => omega
      case rel => exact ⟨k + 1, Nat.succ_pos k, by omega, Nat.le_refl _, by go_num, by rw [S.out]; simp [List.getD], rfl⟩
    · have : k = n := by omega
      subst this
      clear hc h0
      go_wp2
      go_ret
      exact ⟨rfl, rfl⟩
end Go.Proofs.YtkndlfdpmpdihaaGreatDoor
