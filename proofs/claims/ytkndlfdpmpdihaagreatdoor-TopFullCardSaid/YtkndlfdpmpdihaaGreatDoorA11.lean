/- The pool of timers: a place's handle, a handle's place, how many there are. The pool of timers: a place is taken, or free; an entry is another one. The lowest bit of a word, from a place on. Digits of a number, and where two numbers part. A digit of a number, and the greatest level in which two numbers part. Conditions: those that each statement shows. -/
import Derived.Test.YtkndlfdpmpdihaaGreatDoorA10
import Derived.Laws.Bits64b
import Derived.Shelf.Spec.TrailingZeros
import Derived.Laws.StructEq
namespace Go.Proofs.YtkndlfdpmpdihaaGreatDoor
open Go.RowKit Go.Ev Go.Mv
set_option linter.unusedVariables false
set_option linter.unusedSimpArgs false
set_option maxRecDepth 100000
theorem new_alloc {o : Oper} {a : Act} {w2 : World} {T : TypeId} {z vs : Array Value} (h : o.op = .alloc T) (hz : ∀ w, (Instr.alloc T true (.tuple #[])).run Tryz.prog w = .ok (.pointer (some ⟨w.heap.size, 0, none⟩)) (w.alloc (.cells z T))) :
    ∀ w, NewE w2 T z vs 0 w → does Tryz.prog o a (NewE w2 T z vs 1) w (.pointer (some ⟨w2.heap.size, 0, none⟩)) := by
  intro w hw
  unfold does execOp
  rw [h]
  simp only [Functor.map, Sem.run_bind, Sem.run_map, hz, Result.andThen_ok]
  have e := hw.2
  refine ⟨⟨hw.1.alloc (by omega) _, ?_⟩, by rw [e]⟩
  rw [← e]
  show (w.heap.push _)[w.heap.size]? = _
  simp
theorem NewE.blk1 {w2 w : World} {T : TypeId} {z vs : Array Value} (h : NewE w2 T z vs 1 w) : Blk w w2.heap.size z T := h.2
theorem NewE.blk2 {w2 w : World} {T : TypeId} {z vs : Array Value} (h : NewE w2 T z vs 2 w) : Blk w w2.heap.size vs T := h.2
theorem NewE.cell {w2 : World} {k : Nat} {T T' : TypeId} {z vs cs : Array Value} (hk : Blk w2 k cs T') (j : Nat) {v : Value} (hv : cs[j]? = some v) : ∀ x : Thr (NewE w2 T z vs), x.w.cell? ⟨k, j, none⟩ = some v := fun x => (hk.below x.h.below hk.lt).cell j hv
theorem alloc226 (w : World) : (Instr.alloc 226 true (.tuple #[])).run Tryz.prog w = .ok (.pointer (some ⟨w.heap.size, 0, none⟩)) (w.alloc (.cells #[Value.int .u64 0, Value.int .u64 0, Value.int .u64 0] 226)) := by kernel_rfl
section
variable {B : PB} {S : PS} {w w' : World} {a : Nat} {t : Tm}
theorem place_live (h : PoolAt B S w) (hL : LiveAt S a t) : Calls Tryz.prog 131 #[.pointer (some ⟨B.b, 0, none⟩), .int .u64 (hN S a : Nat)] w fun e w' => e = .returned (.int .i64 (a : Int)) ∧ Below w.heap.size w w' := by
  go_enter Tryz.func131, Tryz.ntmps131
  go_wp2_with (go_at_call 179; refine (find_live h hL).mono ?_; rintro e w1 ⟨rfl, hb1⟩)
  refine bodyPost_ret (v := .int .i64 (a : Int)) ?_ rfl ⟨rfl, hb1.alloc hb1.size _⟩
  simp [results, Tryz.results131, go_sem]
theorem handle_live (h : PoolAt B S w) (hL : LiveAt S a t) : Calls Tryz.prog 110 #[.pointer (some ⟨B.b, 0, none⟩), .int .i64 (a : Int)] w fun e w' => e = .returned (.int .u64 (hN S a : Nat)) ∧ Below w.heap.size w w' := by
  go_enter Tryz.func110, Tryz.ntmps110
  have hlw := h.lt
  have hBa : Below w.heap.size w (w.alloc (Obj.cells #[Value.int .i64 (a : Int)] 316)) := (Below.refl _ w).alloc (Nat.le_refl _) _
  have h0 := h.below hBa hlw
  have hX := Blk.new w #[Value.int .i64 (a : Int)] 316
  go_wp2
  generalize w.alloc (Obj.cells #[Value.int .i64 (a : Int)] 316) = w2 at *
  have hl2 := h0.lt
  let z : Array Value := #[Value.int .u64 0, Value.int .u64 0, Value.int .u64 0]
  let vs : Array Value := #[Value.int .u64 t.d, Value.int .u64 t.p, Value.int .u64 t.o]
  haveI : Nonempty (Thr (NewE w2 226 z vs)) := ⟨⟨0, w2, Below.refl _ _, rfl⟩⟩
  have c1 := NewE.cell (T := 226) (z := z) (vs := vs) h0.blk 0 rfl
  have c2 := NewE.cell (T := 226) (z := z) (vs := vs) hX 0 rfl
  have c3 : ∀ x : Thr (NewE w2 226 z vs), (Instr.lookup 317 (.map (some B.re)) (.agg #[.int .i64 (a : Int)]) true).run Tryz.prog x.w = .ok (.tuple #[.agg #[Value.int .u64 t.d, Value.int .u64 t.p, Value.int .u64 t.o], .bool true]) x.w := fun x => by
    rw [(h0.below x.h.below hl2).look, hL.ent]; rfl
  refine wp_region_thr (NewE w2 226 z vs) 9 10 (by decide) (by kernel_rfl) (by kernel_rfl) ⟨(Below.refl _ _).drew, rfl⟩ ?_
  (repeat (first | (refine lexT_skip (by rfl) (by decide) ?_; simp only [Act.put, List.setIfInBounds_toArray, List.set_cons_succ, List.set_cons_zero]) | (refine lexT_want (by rfl) (by decide) (by rfl) ?_; intro K hK; go_big_quiet_op; refine hK _ ?_; clear hK K)))
  refine lexT_plain (by rfl) (by decide) (.tuple #[.agg #[Value.int .u64 t.d, Value.int .u64 t.p, Value.int .u64 t.o], .bool true]) (fun x => does_look _ _ rfl x.h (c3 x)) ?_
  simp only [Act.put, List.setIfInBounds_toArray, List.set_cons_succ, List.set_cons_zero]
  (repeat (first | (refine lexT_skip (by rfl) (by decide) ?_; simp only [Act.put, List.setIfInBounds_toArray, List.set_cons_succ, List.set_cons_zero]) | (refine lexT_want (by rfl) (by decide) (by rfl) ?_; intro K hK; go_big_quiet_op; refine hK _ ?_; clear hK K)))
  refine lexT_turn1 (by rfl) (by rfl) _ (new_alloc rfl alloc226) ?_
  simp only [Act.put, List.setIfInBounds_toArray, List.set_cons_succ, List.set_cons_zero]
  refine lexT_turn2 (by rfl) (by rfl) (by decide) undef (fun W hW => ?_) ?_
  · have hb := NewE.blk1 hW
    have q0 := hb.cell 0 rfl
    have q1 := hb.cell 1 rfl
    have q2 := hb.cell 2 rfl
    have f0 := hb.free 0
    have f1 := hb.free 1
    have f2 := hb.free 2
    unfold does
    go_simp
    exact ⟨⟨((hW.1.setCell (Nat.le_refl _) _).setCell (Nat.le_refl _) _).setCell (Nat.le_refl _) _, ((hb.set 0 _).set 1 _).set 2 _⟩, rfl⟩
  simp only [Act.put, List.setIfInBounds_toArray, List.set_cons_succ, List.set_cons_zero]
  (repeat (first | (refine lexT_skip (by rfl) (by decide) ?_; simp only [Act.put, List.setIfInBounds_toArray, List.set_cons_succ, List.set_cons_zero]) | (refine lexT_want (by rfl) (by decide) (by rfl) ?_; intro K hK; go_big_quiet_op; refine hK _ ?_; clear hK K)))
  intro w3 hw3
  have hB3 : Below w.heap.size w w3 := hBa.trans (hw3.1.mono hBa.size)
  have hX3 := (hX.below hw3.1 hX.lt).cell 0 rfl
  have h3 := h.below hB3 hlw
  go_wp2_with (go_at_call 177; refine (handle_at h3 hL.lt hL.gen).mono ?_; rintro e w4 ⟨rfl, hb4⟩)
  exact bodyPost_ret (v := .int .u64 (hN S a : Nat)) (by simp [results, Tryz.results110, go_sem, hN]) rfl ⟨rfl, hB3.trans (hb4.mono hB3.size)⟩
theorem live_at (h : PoolAt B S w) : Calls Tryz.prog 128 #[.pointer (some ⟨B.b, 0, none⟩)] w fun e w' => e = .returned (.int .i64 (S.n : Int)) ∧ Below w.heap.size w w' := by
  go_enter Tryz.func128, Tryz.ntmps128
  obtain ⟨es, c, h1, h2⟩ := h.ent
  have c0 : w.cell? ⟨B.b, 0, none⟩ = some (.map (some B.re)) := h.blk.cell 0 rfl
  have hlen : (Builtin.len_ #[317] 3 #[.map (some B.re)]).run Tryz.prog w = .ok (.int .i64 (S.n : Int)) w := by
    have hn := h2.len
    rw [← hn]
    simp [Builtin.len_, go_sem, under317, h1, getObj, Sem.run]
  go_wp2
  refine bodyPost_ret (v := .int .i64 (S.n : Int)) ?_ rfl ⟨rfl, Below.refl _ _⟩
  simp [results, Tryz.results128, go_sem]
end
end Go.Proofs.YtkndlfdpmpdihaaGreatDoor
namespace Go.Proofs.YtkndlfdpmpdihaaGreatDoor
open Go.RowKit Go.Ev Go.Mv
set_option linter.unusedVariables false
set_option linter.unusedSimpArgs false
set_option maxRecDepth 100000
theorem blkE_one {w2 : World} {rb k : Nat} {T T' : TypeId} {vs : Bool → Array Value} {cs : Array Value} (hk : Blk w2 k cs T') (hne : k ≠ rb) (j : Nat) {v : Value} (hv : cs[j]? = some v) : ∀ x : One (BlkE w2 rb T vs false), x.w.cell? ⟨k, j, none⟩ = some v := fun x => (x.h.other hk hne).cell j hv
theorem blkE_own {w2 : World} {rb : Nat} {T : TypeId} {vs : Bool → Array Value} (j : Nat) {v : Value} (hv : (vs false)[j]? = some v) : ∀ x : One (BlkE w2 rb T vs false), x.w.cell? ⟨rb, j, none⟩ = some v := fun x => x.h.2.cell j hv
theorem one_ne {w2 : World} {rb : Nat} {T : TypeId} {vs : Bool → Array Value} (h : Blk w2 rb (vs false) T) : Nonempty (One (BlkE w2 rb T vs false)) ∧ Nonempty (Two (BlkE w2 rb T vs)) := ⟨⟨⟨w2, Tch.refl _ _, h⟩⟩, ⟨⟨false, w2, Tch.refl _ _, h⟩⟩⟩
/-- A word with bit a set, or not. -/
def markW (word a : Nat) (b : Bool) : Nat := if b then (word &&& (2 ^ 64 - 1 - 2 ^ a)) ||| 2 ^ a else word &&& (2 ^ 64 - 1 - 2 ^ a)
theorem bits_andNot_u64 (a b : Nat) (ha : a < 18446744073709551616) (hb : b < 18446744073709551616) : bits .andNot .u64 (a : Int) (b : Int) = ((a &&& (2 ^ 64 - 1 - b) : Nat) : Int) := by
  have e : bits .andNot .u64 (a : Int) (b : Int) = IntKind.u64.wrap (((BitVec.ofInt 64 (a : Int)) &&& ~~~(BitVec.ofInt 64 (b : Int))).toNat : Int) := rfl
  have ea : (BitVec.ofInt 64 (a : Int)).toNat = a := by simp; omega
  have eb : (BitVec.ofInt 64 (b : Int)).toNat = b := by simp; omega
  rw [e, BitVec.toNat_and, BitVec.toNat_not, ea, eb]
  have : a &&& (2 ^ 64 - 1 - b) ≤ a := Nat.and_le_left
  exact IntWalk.u64_in _ ⟨by omega, by omega⟩
section
variable {B : PB} {S : PS} {w w' : World} {a : Nat} {t : Tm}
theorem mark_at (h : PoolAt B S w) (ha : a < 64) (hw : S.word < 18446744073709551616) (b : Bool) : Calls Tryz.prog 186 #[.pointer (some ⟨B.b, 0, none⟩), .agg #[.int .i64 (a : Int)], .bool b] w fun e w' => e = .returned (.tuple #[]) ∧ Tch (fun r => r = B.tb) w w' ∧ Blk w' B.tb #[.int .u64 (markW S.word a b : Nat)] 37 := by
  go_enter Tryz.func186, Tryz.ntmps186
  have hm : ((a : Int).tmod 64) = (a : Int) := by rw [Int.tmod_eq_emod_of_nonneg (by omega)]; omega
  have hq : ((a : Int).tdiv 64) = 0 := by rw [Int.tdiv_eq_ediv_of_nonneg (by omega)]; omega
  obtain ⟨bit, hbit⟩ : ∃ bit : Nat, bit = 2 ^ a := ⟨_, rfl⟩
  have hb63 : bit ≤ 2 ^ 63 := by rw [hbit]; exact Nat.pow_le_pow_right (by omega) (by omega)
  have hp : IntKind.u64.wrap ((2 : Int) ^ a) = (bit : Int) := by
    have e : ((2 : Int) ^ a) = (bit : Int) := by rw [hbit]; simp
    rw [e]
    exact IntWalk.u64_in _ ⟨by omega, by omega⟩
  have hbit' := Lib.hid hbit
  clear hbit
  go_wp2
  have hBa : Below w.heap.size w (w.alloc (Obj.cells #[Value.int .i64 (a : Int)] 316)) := (Below.refl _ w).alloc (Nat.le_refl _) _
  have hlw := h.lt
  have h0 := h.below hBa hlw
  have hX := Blk.new w #[Value.int .i64 (a : Int)] 316
  generalize w.alloc (Obj.cells #[Value.int .i64 (a : Int)] 316) = w2 at *
  have hl2 := h0.lt
  have hap := h0.apart
  let vs : Bool → Array Value := fun b => if b then #[Value.int .u64 (markW S.word a false : Nat)] else #[Value.int .u64 S.word]
  have hne := one_ne (w2 := w2) (rb := B.tb) (T := 37) (vs := vs) h0.tk
  haveI := hne.1
  haveI := hne.2
  have c1 : ∀ x : One (BlkE w2 B.tb 37 vs false), x.w.cell? ⟨B.b, 2, none⟩ = some (.slice (some ⟨B.tb, 0, none⟩) 1 1) := blkE_one h0.blk (by omega) 2 rfl
  have c2 : ∀ x : One (BlkE w2 B.tb 37 vs false), x.w.cell? ⟨w.heap.size, 0, none⟩ = some (.int .i64 (a : Int)) := blkE_one hX (by omega) 0 rfl
  have c3 : ∀ x : One (BlkE w2 B.tb 37 vs false), x.w.cell? ⟨B.tb, 0, none⟩ = some (.int .u64 S.word) := blkE_own 0 rfl
  refine wp_region_two (BlkE w2 B.tb 37 vs) 12 (by decide) (by kernel_rfl) (by kernel_rfl) ⟨(Tch.refl _ _).drew, h0.tk⟩ ?_
  (repeat (first | (refine lexS_skip (by rfl) (by decide) ?_; simp only [Act.put, List.setIfInBounds_toArray, List.set_cons_succ, List.set_cons_zero]) | (refine lexS_ewant (by rfl) (by decide) (by kernel_rfl) (by rfl) ?_; intro K hK; go_big_quiet_op; refine hK _ ?_; clear hK K)))
  rw [bits_andNot_u64 _ _ hw (by omega)]
  have em : S.word &&& (2 ^ 64 - 1 - bit) = markW S.word a false := by rw [hbit'.out]; rfl
  have hmw : markW S.word a false ≤ S.word := by rw [← em]; exact Nat.and_le_left
  rw [em]
  refine lexS_turn (by rfl) (by rfl) undef (fun W hW => ?_) ?_
  · have q0 := hW.2.cell 0 rfl
    have f0 := hW.2.free 0
    unfold does
    go_simp
    exact ⟨⟨hW.1.setCell _ (.inl rfl), hW.2.set 0 _⟩, rfl⟩
  simp only [Act.put, List.setIfInBounds_toArray, List.set_cons_succ, List.set_cons_zero]
  refine fun w3 hw3 => ?_
  have hb2 : Blk w3 B.b _ 320 := (hw3.1.block _ hl2.1 (by omega)).trans h0.blk
  have hX3 : Blk w3 w.heap.size _ 316 := (hw3.1.block _ hX.lt (by omega)).trans hX
  have hT3 : Blk w3 B.tb _ 37 := hw3.2
  have hF3 : Tch (fun r => r = B.tb) w w3 := (Tch.of_below hBa).trans' hw3.1 (fun _ _ h => h)
  cases b with
  | false =>
    go_wp2
    go_end0; exact ⟨rfl, hF3, hT3⟩
  | true =>
    go_wp2
    let vs' : Bool → Array Value := fun b => if b then #[Value.int .u64 (markW S.word a true : Nat)] else #[Value.int .u64 (markW S.word a false : Nat)]
    have hne := one_ne (w2 := w3) (rb := B.tb) (T := 37) (vs := vs') hT3
    haveI := hne.1
    haveI := hne.2
    have c1 : ∀ x : One (BlkE w3 B.tb 37 vs' false), x.w.cell? ⟨B.b, 2, none⟩ = some (.slice (some ⟨B.tb, 0, none⟩) 1 1) := blkE_one hb2 (by omega) 2 rfl
    have c2 : ∀ x : One (BlkE w3 B.tb 37 vs' false), x.w.cell? ⟨w.heap.size, 0, none⟩ = some (.int .i64 (a : Int)) := blkE_one hX3 (by omega) 0 rfl
    have c3 : ∀ x : One (BlkE w3 B.tb 37 vs' false), x.w.cell? ⟨B.tb, 0, none⟩ = some (.int .u64 (markW S.word a false : Nat)) := blkE_own 0 rfl
    refine wp_region_two (BlkE w3 B.tb 37 vs') 12 (by decide) (by kernel_rfl) (by kernel_rfl) ⟨(Tch.refl _ _).drew, hT3⟩ ?_
    (repeat (first | (refine lexS_skip (by rfl) (by decide) ?_; simp only [Act.put, List.setIfInBounds_toArray, List.set_cons_succ, List.set_cons_zero]) | (refine lexS_ewant (by rfl) (by decide) (by kernel_rfl) (by rfl) ?_; intro K hK; go_big_quiet_op; refine hK _ ?_; clear hK K)))
    rw [bits_or_u64_nat _ _ (by omega) (by omega)]
    have em' : markW S.word a false ||| bit = markW S.word a true := by rw [hbit'.out]; rfl
    rw [em']
    refine lexS_turn (by rfl) (by rfl) undef (fun W hW => ?_) ?_
    · have q0 := hW.2.cell 0 rfl
      have f0 := hW.2.free 0
      unfold does
      go_simp
      exact ⟨⟨hW.1.setCell _ (.inl rfl), hW.2.set 0 _⟩, rfl⟩
    simp only [Act.put, List.setIfInBounds_toArray, List.set_cons_succ, List.set_cons_zero]
    refine fun w4 hw4 => ?_
    go_wp2
    go_end0; exact ⟨rfl, hF3.trans hw4.1, hw4.2⟩
end
end Go.Proofs.YtkndlfdpmpdihaaGreatDoor
namespace Go.Proofs.YtkndlfdpmpdihaaGreatDoor
open Go.RowKit Go.Ev Go.Mv
set_option linter.unusedVariables false
set_option linter.unusedSimpArgs false
set_option maxRecDepth 100000
/-- The table of trailing zeros lies in its place. -/
def TabW (w : World) : Prop := ∃ o, w.heap[2]? = some o ∧ ∀ w' : World, w'.heap[2]? = some o → TabAt 2 Lib.deBruijn64tab w'
theorem TabW.lt {w : World} (h : TabW w) : 2 < w.heap.size := by obtain ⟨o, h, _⟩ := h; exact (Array.getElem?_eq_some_iff.1 h).1
theorem TabW.keep {w w' : World} (h : TabW w) (hk : w'.heap[2]? = w.heap[2]?) : TabW w' := by obtain ⟨o, h1, h2⟩ := h; exact ⟨o, hk.trans h1, h2⟩
theorem TabW.tch {w w' : World} {S : Nat → Prop} (h : TabW w) (hb : Tch S w w') (hs : ¬ S 2) : TabW w' := h.keep (hb.block _ h.lt hs)
theorem TabW.below {w w' : World} (h : TabW w) (hb : Below w.heap.size w w') : TabW w' := h.keep (hb.block _ h.lt)
theorem tz_core (x k idx : Nat) (w : World) (h0 : ((x : Int) == 0) = false)
    (key : IntKind.u64.wrap (bits BinOp.and IntKind.u64 (x : Int) (IntKind.u64.wrap (-(x : Int))) * 285870213051353865) / 288230376151711744 = (idx : Int))
    (hi : idx < 64) (hk : k < 64) (hcell : w.cell? ⟨2, idx, none⟩ = some (.int .u8 k)) : Calls Tryz.prog 351 #[.int .u64 x] w fun e w' => e = .returned (.int .i64 k) ∧ w' = w := by
  go_enter Tryz.func351, Tryz.ntmps351
  go_wp2_with (simp only [key])
  go_ret
  exact ⟨rfl, rfl⟩
theorem tz64_at (x : Nat) (hx : x < 18446744073709551616) (hx0 : x ≠ 0) (w : World) (hT : TabW w) : Calls Tryz.prog 351 #[.int .u64 x] w fun e w' => e = .returned (.int .i64 (Lib.ctz 64 x)) ∧ w' = w := by
  obtain ⟨hlow, hk⟩ := Lib.lowest_bit 64 x hx0 hx
  obtain ⟨hi, htab⟩ := Lib.deBruijn64_at _ hk
  obtain ⟨ob, hob, htb⟩ := hT
  have hcell := htb w hob _ hi
  rw [htab] at hcell
  exact tz_core x _ _ w (by simp; omega) (tz64_key x _ hx hx0 hlow) hi hk hcell
theorem mask_at (n : Nat) (hn : n < 64) (w : World) : Calls Tryz.prog 243 #[.int .i64 n] w fun e w' => e = .returned (.int .u64 ((2 ^ n - 1 : Nat) : Int)) ∧ w' = w := by
  obtain ⟨bit, hbit⟩ : ∃ bit : Nat, bit = 2 ^ n := ⟨_, rfl⟩
  have hb63 : bit ≤ 2 ^ 63 := by rw [hbit]; exact Nat.pow_le_pow_right (by omega) (by omega)
  have hb1 : 1 ≤ bit := by rw [hbit]; exact Nat.one_le_two_pow
  have hp : IntKind.u64.wrap ((2 : Int) ^ n) = (bit : Int) := by
    have e : ((2 : Int) ^ n) = (bit : Int) := by rw [hbit]; simp
    rw [e]
    exact IntWalk.u64_in _ ⟨by omega, by omega⟩
  have hbit' := Lib.hid hbit
  clear hbit
  go_enter Tryz.func243, Tryz.ntmps243
  go_wp2
  all_goals first
    | (refine bodyPost_ret (v := .int .u64 ((bit : Int) - 1)) ?_ rfl ⟨?_, rfl⟩
       · simp [results, Tryz.results243, go_sem]
       · congr 2
         rw [← hbit'.out]
         omega)
/-- What First tells. -/
def firstN (n from_ : Nat) : Int := if n &&& (2 ^ 64 - 1 - (2 ^ from_ - 1)) = 0 then -1 else Lib.ctz 64 (n &&& (2 ^ 64 - 1 - (2 ^ from_ - 1)))
theorem behind_at {n m : Nat} (hn : n < 18446744073709551616) (hm : m < 64) {w : World} {b1 b2 : Nat} (h1 : Blk w b1 #[.int .u64 n] 37) (h2 : Blk w b2 #[.int .i64 m] 3) :
    Calls Tryz.prog 350 #[.pointer (some ⟨b1, 0, none⟩), .pointer (some ⟨b2, 0, none⟩)] w fun e w' => e = .returned (.int .u64 ((n &&& (2 ^ 64 - 1 - (2 ^ m - 1)) : Nat) : Int)) ∧ Below w.heap.size w w' := by
  go_enter Tryz.func350, Tryz.ntmps350
  have c1 := h1.wx 0 rfl
  have c2 := h2.wx 0 rfl
  go_wp2
  refine wp_region_grown (by kernel_rfl) (by kernel_rfl) ?_
  repeat (go_big_quiet_step (first | (go_at_call 243; exact WX.of_same ((mask_at m hm _).mono fun e w' h => ⟨h.1, h.2.symm⟩))))
  refine wpQuiet_nil ?_
  intro w2 hb
  have hlt : 2 ^ m ≤ 2 ^ 63 := Nat.pow_le_pow_right (by omega) (by omega)
  rw [bits_andNot_u64 _ _ hn (by omega)]
  go_wp2
  refine bodyPost_ret (v := .int .u64 ((n &&& (2 ^ 64 - 1 - (2 ^ m - 1)) : Nat) : Int)) ?_ rfl ⟨rfl, hb⟩
  simp [results, Tryz.results350, go_sem]
theorem first_at {n m : Nat} (hn : n < 18446744073709551616) (hm : m < 64) {w : World} (hT : TabW w) : Calls Tryz.prog 299 #[.int .u64 n, .int .i64 m] w fun e w' => e = .returned (.int .i64 (firstN n m)) ∧ Below w.heap.size w w' := by
  go_enter Tryz.func299, Tryz.ntmps299
  have hBa : Below w.heap.size w ((w.alloc (.cells #[.int .u64 n] 37)).alloc (.cells #[.int .i64 m] 3)) := ((Below.refl _ w).alloc (Nat.le_refl _) _).alloc (by simp) _
  have h1 : Blk ((w.alloc (.cells #[.int .u64 n] 37)).alloc (.cells #[.int .i64 m] 3)) w.heap.size #[.int .u64 n] 37 := (Blk.new w _ _).alloc _
  have h2 : Blk ((w.alloc (.cells #[.int .u64 n] 37)).alloc (.cells #[.int .i64 m] 3)) (w.heap.size + 1) #[.int .i64 m] 3 := by
    have := Blk.new (w.alloc (.cells #[.int .u64 n] 37)) #[.int .i64 (m : Int)] 3
    simpa using this
  have hr : n &&& (2 ^ 64 - 1 - (2 ^ m - 1)) ≤ n := Nat.and_le_left
  have hf : firstN n m = if n &&& (2 ^ 64 - 1 - (2 ^ m - 1)) = 0 then -1 else ((Lib.ctz 64 (n &&& (2 ^ 64 - 1 - (2 ^ m - 1))) : Nat) : Int) := rfl
  have hbeh : ∀ w2, Below ((w.alloc (.cells #[.int .u64 n] 37)).alloc (.cells #[.int .i64 m] 3)).heap.size ((w.alloc (.cells #[.int .u64 n] 37)).alloc (.cells #[.int .i64 m] 3)) w2 → Calls Tryz.prog 350 #[.pointer (some ⟨w.heap.size, 0, none⟩), .pointer (some ⟨w.heap.size + 1, 0, none⟩)] w2 fun e w' => e = .returned (.int .u64 ((n &&& (2 ^ 64 - 1 - (2 ^ m - 1)) : Nat) : Int)) ∧ Below w2.heap.size w2 w' := fun w2 hb =>
    behind_at hn hm (h1.below hb h1.lt) (h2.below hb h2.lt)
  generalize n &&& (2 ^ 64 - 1 - (2 ^ m - 1)) = r at *
  have c2 := h2.cell 0 rfl
  have hsz := hBa.size
  have hT1 : TabW ((w.alloc (.cells #[.int .u64 n] 37)).alloc (.cells #[.int .i64 m] 3)) := hT.keep (hBa.block _ hT.lt)
  clear h1 h2
  by_cases hz : r = 0
  · subst hz
    go_wp2_with (go_at_call 350; refine (hbeh _ (Below.refl _ _)).mono ?_; rintro e w2 ⟨rfl, hb2⟩)
    refine bodyPost_ret (v := .int .i64 (firstN n m)) ?_ rfl ⟨rfl, hBa.trans (hb2.mono hsz)⟩
    simp [results, Tryz.results299, go_sem, hf]
  · have hz' : ((r : Int) == 0) = false := by simp; exact hz
    go_wp2_with (first | (go_at_call 350; refine (hbeh _ (Below.refl _ _)).mono ?_; rintro e w2 ⟨rfl, hb2⟩) | (go_at_call 350; refine (hbeh _ hb2).mono ?_; rintro e w3 ⟨rfl, hb3⟩) | (go_at_call 351; refine (tz64_at r (by omega) hz _ ((hT1.below hb2).below hb3)).mono ?_; rintro e w4 ⟨rfl, rfl⟩))
    refine bodyPost_ret (v := .int .i64 (firstN n m)) ?_ rfl ⟨rfl, hBa.trans ((hb2.trans (hb3.mono hb2.size)).mono hsz)⟩
    simp [results, Tryz.results299, go_sem, hf, hz]
end Go.Proofs.YtkndlfdpmpdihaaGreatDoor
namespace Go.Proofs.YtkndlfdpmpdihaaGreatDoor
open Go.RowKit Go.Ev Go.Mv
set_option linter.unusedVariables false
set_option linter.unusedSimpArgs false
set_option maxRecDepth 100000
theorem all_range_ints : ∀ (xs ys : List Int), xs.length = ys.length → ((List.range xs.length).all fun i => xs.getD i 0 == ys.getD i 0) = (xs == ys)
  | [], [], _ => rfl
  | x :: xs, y :: ys, h => by
    have ih := all_range_ints xs ys (by simpa using h)
    rw [List.length_cons, List.range_succ_eq_map, List.all_cons, List.all_map]
    simp only [List.getD_cons_zero, Function.comp_def, List.getD_cons_succ, ih]
    simp [List.cons_beq_cons]
  | [], _ :: _, h => by simp at h
  | _ :: _, [], h => by simp at h
theorem run_equalIn_ints {P : Program} (w : World) (k : IntKind) (d : Nat) (t e : TypeId) (n : Nat) (ht : P.underlying t = some (.array n e)) (he : P.underlying e = some (.int k)) (hsz : ∀ w, (sizeOf e).run P w = .ok 1 w)
    (xs ys : List Int) (hx : xs.length = n) (hy : ys.length = n) :
    (Op.equalIn (d + 2) t (.agg (xs.map (Value.int k)).toArray) (.agg (ys.map (Value.int k)).toArray)).run P w = .ok (xs == ys) w := by
  rw [← all_range_ints xs ys (hx.trans hy.symm), hx, List.range_eq_range', Op.equalIn]
  simp only [Sem.run_bind, run_underlying ht, Result.andThen_ok, hsz, Std.Legacy.Range.forIn_eq_forIn_range', Std.Legacy.Range.size, Nat.sub_zero, Nat.add_sub_cancel, Nat.div_one]
  have hl : ∀ i ∈ List.range' 0 n 1, i < n := fun i hi => by simpa using (List.mem_range'_1.1 hi).2
  generalize List.range' 0 n 1 = l at hl ⊢
  induction l with
  | nil => simp
  | cons i l ih =>
    have hi : i < n := hl i (by simp)
    have px : (part e (xs.map (Value.int k)).toArray (i * 1)).run P w = .ok (.int k (xs.getD i 0)) w := by
      simp [part, isAgg, run_underlying he, List.getD, List.getElem?_eq_getElem (show i < xs.length by omega)]
    have py : (part e (ys.map (Value.int k)).toArray (i * 1)).run P w = .ok (.int k (ys.getD i 0)) w := by
      simp [part, isAgg, run_underlying he, List.getD, List.getElem?_eq_getElem (show i < ys.length by omega)]
    have pe : (Op.equalIn (d + 1) e (.int k (xs.getD i 0)) (.int k (ys.getD i 0))).run P w = .ok (xs.getD i 0 == ys.getD i 0) w :=
      run_equalIn_int w d e k k _ _ he
    simp only [List.forIn_cons, Sem.run_bind, px, py, pe, Result.andThen_ok, List.all_cons]
    cases hb : (xs.getD i 0 == ys.getD i 0)
    · simp
    · simp only [Bool.not_true, Bool.false_eq_true, if_false, Sem.run_pure, Result.andThen_ok, Bool.true_and]
      exact ih fun j hj => hl j (by simp [hj])
theorem size37 (w : World) : (sizeOf 37).run Tryz.prog w = .ok 1 w := by kernel_rfl
theorem under435 : Tryz.prog.underlying 435 = some (.array 9 37) := by kernel_rfl
theorem under37 : Tryz.prog.underlying 37 = some (.int .u64) := by kernel_rfl
theorem eq_digs (x0 x1 x2 x3 x4 x5 x6 x7 x8 y0 y1 y2 y3 y4 y5 y6 y7 y8 : Int) (w : World) :
    (Op.equalIn 10000 435 (.agg #[.int .u64 x0, .int .u64 x1, .int .u64 x2, .int .u64 x3, .int .u64 x4, .int .u64 x5, .int .u64 x6, .int .u64 x7, .int .u64 x8]) (.agg #[.int .u64 y0, .int .u64 y1, .int .u64 y2, .int .u64 y3, .int .u64 y4, .int .u64 y5, .int .u64 y6, .int .u64 y7, .int .u64 y8])).run Tryz.prog w = .ok ([x0, x1, x2, x3, x4, x5, x6, x7, x8] == [y0, y1, y2, y3, y4, y5, y6, y7, y8]) w :=
  run_equalIn_ints w .u64 9998 435 37 9 under435 under37 size37 [x0, x1, x2, x3, x4, x5, x6, x7, x8] [y0, y1, y2, y3, y4, y5, y6, y7, y8] rfl rfl
theorem and63 (m : Nat) (hm : m < 18446744073709551616) : bits .and .u64 (m : Int) 63 = ((m % 64 : Nat) : Int) := by
  have := bits_and_u64_nat m 63 hm (by omega)
  rw [show ((63 : Nat) : Int) = 63 by rfl] at this
  rw [this]
  congr 1
  exact Nat.and_two_pow_sub_one_eq_mod m 6
set_option maxHeartbeats 1000000 in
theorem digits_at (n : Nat) (hn : n < 18446744073709551616) (w : World) : Calls Tryz.prog 304 #[.int .u64 n] w fun e w' => e = .returned (.agg #[.int .u64 (n % 64 : Nat), .int .u64 (n / 64 % 64 : Nat), .int .u64 (n / 4096 % 64 : Nat), .int .u64 (n / 262144 % 64 : Nat), .int .u64 (n / 16777216 % 64 : Nat), .int .u64 (n / 1073741824 % 64 : Nat), .int .u64 (n / 68719476736 % 64 : Nat), .int .u64 (n / 4398046511104 % 64 : Nat), .int .u64 (n / 281474976710656 : Nat)]) ∧ Below w.heap.size w w' := by
  have a0 := and63 n hn
  have a1 : bits .and .u64 ((n : Int) / 64) 63 = (n : Int) / 64 % 64 := by have := and63 (n / 64) (by omega); simpa using this
  have a2 : bits .and .u64 ((n : Int) / 4096) 63 = (n : Int) / 4096 % 64 := by have := and63 (n / 4096) (by omega); simpa using this
  have a3 : bits .and .u64 ((n : Int) / 262144) 63 = (n : Int) / 262144 % 64 := by have := and63 (n / 262144) (by omega); simpa using this
  have a4 : bits .and .u64 ((n : Int) / 16777216) 63 = (n : Int) / 16777216 % 64 := by have := and63 (n / 16777216) (by omega); simpa using this
  have a5 : bits .and .u64 ((n : Int) / 1073741824) 63 = (n : Int) / 1073741824 % 64 := by have := and63 (n / 1073741824) (by omega); simpa using this
  have a6 : bits .and .u64 ((n : Int) / 68719476736) 63 = (n : Int) / 68719476736 % 64 := by have := and63 (n / 68719476736) (by omega); simpa using this
  have a7 : bits .and .u64 ((n : Int) / 4398046511104) 63 = (n : Int) / 4398046511104 % 64 := by have := and63 (n / 4398046511104) (by omega); simpa using this
  go_enter Tryz.func304, Tryz.ntmps304
  go_wp2
  refine wp_loop_rounds 9 ?_
  iterate 9 (rw [rounds_succ]; go_wp2)
  have hb : Below w.heap.size w ((w.alloc (.cells #[.int .u64 0, .int .u64 0, .int .u64 0, .int .u64 0, .int .u64 0, .int .u64 0, .int .u64 0, .int .u64 0, .int .u64 0] 435)).alloc (.cells #[.int .u64 0, .int .u64 0, .int .u64 0, .int .u64 0, .int .u64 0, .int .u64 0, .int .u64 0, .int .u64 0, .int .u64 0] 435)) := ((Below.refl _ w).alloc (Nat.le_refl _) _).alloc (by simp) _
  refine bodyPost_ret (v := .agg #[.int .u64 (n % 64 : Nat), .int .u64 (n / 64 % 64 : Nat), .int .u64 (n / 4096 % 64 : Nat), .int .u64 (n / 262144 % 64 : Nat), .int .u64 (n / 16777216 % 64 : Nat), .int .u64 (n / 1073741824 % 64 : Nat), .int .u64 (n / 68719476736 % 64 : Nat), .int .u64 (n / 4398046511104 % 64 : Nat), .int .u64 (n / 281474976710656 : Nat)]) ?_ rfl ⟨rfl, ?_⟩
  · simp [results, Tryz.results304, go_sem, a0, a1, a2, a3, a4, a5, a6, a7]
  · exact ((Below.refl _ w).alloc (Nat.le_refl _) _).alloc (by simp) _
end Go.Proofs.YtkndlfdpmpdihaaGreatDoor
namespace Go.Proofs.YtkndlfdpmpdihaaGreatDoor
open Go.RowKit Go.Ev Go.Mv
set_option linter.unusedVariables false
set_option linter.unusedSimpArgs false
set_option maxRecDepth 100000
theorem digit_0 (n : Nat) (hn : n < 18446744073709551616) (w : World) : Calls Tryz.prog 241 #[.int .u64 n, .int .i64 0] w fun e w' => e = .returned (.int .i64 (n % 64 : Nat)) ∧ Below w.heap.size w w' := by
  have hd := digits_at n hn
  have hx : n % 64 < 64 := Nat.mod_lt _ (by omega)
  generalize n / 64 % 64 = x1 at *
  generalize n / 4096 % 64 = x2 at *
  generalize n / 262144 % 64 = x3 at *
  generalize n / 16777216 % 64 = x4 at *
  generalize n / 1073741824 % 64 = x5 at *
  generalize n / 68719476736 % 64 = x6 at *
  generalize n / 4398046511104 % 64 = x7 at *
  generalize n / 281474976710656 = x8 at *
  generalize n % 64 = x0 at *
  have hix : ∀ w, (Instr.index 435 (.agg #[.int .u64 x0, .int .u64 x1, .int .u64 x2, .int .u64 x3, .int .u64 x4, .int .u64 x5, .int .u64 x6, .int .u64 x7, .int .u64 x8]) (.int .i64 0)).run Tryz.prog w = .ok (.int .u64 x0) w := fun _ => by kernel_rfl
  have a0 : bits .and .u64 (x0 : Int) 63 = (x0 : Int) := by
    have := and63 x0 (by omega)
    rw [Nat.mod_eq_of_lt hx] at this
    exact this
  go_enter Tryz.func241, Tryz.ntmps241
  go_wp2_with (go_at_call 304; refine (hd _).mono ?_; rintro e w1 ⟨rfl, hb1⟩)
  refine bodyPost_ret (v := .int .i64 x0) ?_ rfl ⟨rfl, hb1⟩
  simp [results, Tryz.results241, go_sem]
theorem digit_1 (n : Nat) (hn : n < 18446744073709551616) (w : World) : Calls Tryz.prog 241 #[.int .u64 n, .int .i64 1] w fun e w' => e = .returned (.int .i64 (n / 64 % 64 : Nat)) ∧ Below w.heap.size w w' := by
  have hd := digits_at n hn
  have hx : n / 64 % 64 < 64 := Nat.mod_lt _ (by omega)
  generalize n / 64 % 64 = x1 at *
  generalize n / 4096 % 64 = x2 at *
  generalize n / 262144 % 64 = x3 at *
  generalize n / 16777216 % 64 = x4 at *
  generalize n / 1073741824 % 64 = x5 at *
  generalize n / 68719476736 % 64 = x6 at *
  generalize n / 4398046511104 % 64 = x7 at *
  generalize n / 281474976710656 = x8 at *
  generalize n % 64 = x0 at *
  have hix : ∀ w, (Instr.index 435 (.agg #[.int .u64 x0, .int .u64 x1, .int .u64 x2, .int .u64 x3, .int .u64 x4, .int .u64 x5, .int .u64 x6, .int .u64 x7, .int .u64 x8]) (.int .i64 1)).run Tryz.prog w = .ok (.int .u64 x1) w := fun _ => by kernel_rfl
  have a0 : bits .and .u64 (x1 : Int) 63 = (x1 : Int) := by
    have := and63 x1 (by omega)
    rw [Nat.mod_eq_of_lt hx] at this
    exact this
  go_enter Tryz.func241, Tryz.ntmps241
  go_wp2_with (go_at_call 304; refine (hd _).mono ?_; rintro e w1 ⟨rfl, hb1⟩)
  refine bodyPost_ret (v := .int .i64 x1) ?_ rfl ⟨rfl, hb1⟩
  simp [results, Tryz.results241, go_sem]
theorem digit_2 (n : Nat) (hn : n < 18446744073709551616) (w : World) : Calls Tryz.prog 241 #[.int .u64 n, .int .i64 2] w fun e w' => e = .returned (.int .i64 (n / 4096 % 64 : Nat)) ∧ Below w.heap.size w w' := by
  have hd := digits_at n hn
  have hx : n / 4096 % 64 < 64 := Nat.mod_lt _ (by omega)
  generalize n / 64 % 64 = x1 at *
  generalize n / 4096 % 64 = x2 at *
  generalize n / 262144 % 64 = x3 at *
  generalize n / 16777216 % 64 = x4 at *
  generalize n / 1073741824 % 64 = x5 at *
  generalize n / 68719476736 % 64 = x6 at *
  generalize n / 4398046511104 % 64 = x7 at *
  generalize n / 281474976710656 = x8 at *
  generalize n % 64 = x0 at *
  have hix : ∀ w, (Instr.index 435 (.agg #[.int .u64 x0, .int .u64 x1, .int .u64 x2, .int .u64 x3, .int .u64 x4, .int .u64 x5, .int .u64 x6, .int .u64 x7, .int .u64 x8]) (.int .i64 2)).run Tryz.prog w = .ok (.int .u64 x2) w := fun _ => by kernel_rfl
  have a0 : bits .and .u64 (x2 : Int) 63 = (x2 : Int) := by
    have := and63 x2 (by omega)
    rw [Nat.mod_eq_of_lt hx] at this
    exact this
  go_enter Tryz.func241, Tryz.ntmps241
  go_wp2_with (go_at_call 304; refine (hd _).mono ?_; rintro e w1 ⟨rfl, hb1⟩)
  refine bodyPost_ret (v := .int .i64 x2) ?_ rfl ⟨rfl, hb1⟩
  simp [results, Tryz.results241, go_sem]
theorem digit_3 (n : Nat) (hn : n < 18446744073709551616) (w : World) : Calls Tryz.prog 241 #[.int .u64 n, .int .i64 3] w fun e w' => e = .returned (.int .i64 (n / 262144 % 64 : Nat)) ∧ Below w.heap.size w w' := by
  have hd := digits_at n hn
  have hx : n / 262144 % 64 < 64 := Nat.mod_lt _ (by omega)
  generalize n / 64 % 64 = x1 at *
  generalize n / 4096 % 64 = x2 at *
  generalize n / 262144 % 64 = x3 at *
  generalize n / 16777216 % 64 = x4 at *
  generalize n / 1073741824 % 64 = x5 at *
  generalize n / 68719476736 % 64 = x6 at *
  generalize n / 4398046511104 % 64 = x7 at *
  generalize n / 281474976710656 = x8 at *
  generalize n % 64 = x0 at *
  have hix : ∀ w, (Instr.index 435 (.agg #[.int .u64 x0, .int .u64 x1, .int .u64 x2, .int .u64 x3, .int .u64 x4, .int .u64 x5, .int .u64 x6, .int .u64 x7, .int .u64 x8]) (.int .i64 3)).run Tryz.prog w = .ok (.int .u64 x3) w := fun _ => by kernel_rfl
  have a0 : bits .and .u64 (x3 : Int) 63 = (x3 : Int) := by
    have := and63 x3 (by omega)
    rw [Nat.mod_eq_of_lt hx] at this
    exact this
  go_enter Tryz.func241, Tryz.ntmps241
  go_wp2_with (go_at_call 304; refine (hd _).mono ?_; rintro e w1 ⟨rfl, hb1⟩)
  refine bodyPost_ret (v := .int .i64 x3) ?_ rfl ⟨rfl, hb1⟩
  simp [results, Tryz.results241, go_sem]
theorem digit_4 (n : Nat) (hn : n < 18446744073709551616) (w : World) : Calls Tryz.prog 241 #[.int .u64 n, .int .i64 4] w fun e w' => e = .returned (.int .i64 (n / 16777216 % 64 : Nat)) ∧ Below w.heap.size w w' := by
  have hd := digits_at n hn
  have hx : n / 16777216 % 64 < 64 := Nat.mod_lt _ (by omega)
  generalize n / 64 % 64 = x1 at *
  generalize n / 4096 % 64 = x2 at *
  generalize n / 262144 % 64 = x3 at *
  generalize n / 16777216 % 64 = x4 at *
  generalize n / 1073741824 % 64 = x5 at *
  generalize n / 68719476736 % 64 = x6 at *
  generalize n / 4398046511104 % 64 = x7 at *
  generalize n / 281474976710656 = x8 at *
  generalize n % 64 = x0 at *
  have hix : ∀ w, (Instr.index 435 (.agg #[.int .u64 x0, .int .u64 x1, .int .u64 x2, .int .u64 x3, .int .u64 x4, .int .u64 x5, .int .u64 x6, .int .u64 x7, .int .u64 x8]) (.int .i64 4)).run Tryz.prog w = .ok (.int .u64 x4) w := fun _ => by kernel_rfl
  have a0 : bits .and .u64 (x4 : Int) 63 = (x4 : Int) := by
    have := and63 x4 (by omega)
    rw [Nat.mod_eq_of_lt hx] at this
    exact this
  go_enter Tryz.func241, Tryz.ntmps241
  go_wp2_with (go_at_call 304; refine (hd _).mono ?_; rintro e w1 ⟨rfl, hb1⟩)
  refine bodyPost_ret (v := .int .i64 x4) ?_ rfl ⟨rfl, hb1⟩
  simp [results, Tryz.results241, go_sem]
theorem digit_5 (n : Nat) (hn : n < 18446744073709551616) (w : World) : Calls Tryz.prog 241 #[.int .u64 n, .int .i64 5] w fun e w' => e = .returned (.int .i64 (n / 1073741824 % 64 : Nat)) ∧ Below w.heap.size w w' := by
  have hd := digits_at n hn
  have hx : n / 1073741824 % 64 < 64 := Nat.mod_lt _ (by omega)
  generalize n / 64 % 64 = x1 at *
  generalize n / 4096 % 64 = x2 at *
  generalize n / 262144 % 64 = x3 at *
  generalize n / 16777216 % 64 = x4 at *
  generalize n / 1073741824 % 64 = x5 at *
  generalize n / 68719476736 % 64 = x6 at *
  generalize n / 4398046511104 % 64 = x7 at *
  generalize n / 281474976710656 = x8 at *
  generalize n % 64 = x0 at *
  have hix : ∀ w, (Instr.index 435 (.agg #[.int .u64 x0, .int .u64 x1, .int .u64 x2, .int .u64 x3, .int .u64 x4, .int .u64 x5, .int .u64 x6, .int .u64 x7, .int .u64 x8]) (.int .i64 5)).run Tryz.prog w = .ok (.int .u64 x5) w := fun _ => by kernel_rfl
  have a0 : bits .and .u64 (x5 : Int) 63 = (x5 : Int) := by
    have := and63 x5 (by omega)
    rw [Nat.mod_eq_of_lt hx] at this
    exact this
  go_enter Tryz.func241, Tryz.ntmps241
  go_wp2_with (go_at_call 304; refine (hd _).mono ?_; rintro e w1 ⟨rfl, hb1⟩)
  refine bodyPost_ret (v := .int .i64 x5) ?_ rfl ⟨rfl, hb1⟩
  simp [results, Tryz.results241, go_sem]
theorem digit_6 (n : Nat) (hn : n < 18446744073709551616) (w : World) : Calls Tryz.prog 241 #[.int .u64 n, .int .i64 6] w fun e w' => e = .returned (.int .i64 (n / 68719476736 % 64 : Nat)) ∧ Below w.heap.size w w' := by
  have hd := digits_at n hn
  have hx : n / 68719476736 % 64 < 64 := Nat.mod_lt _ (by omega)
  generalize n / 64 % 64 = x1 at *
  generalize n / 4096 % 64 = x2 at *
  generalize n / 262144 % 64 = x3 at *
  generalize n / 16777216 % 64 = x4 at *
  generalize n / 1073741824 % 64 = x5 at *
  generalize n / 68719476736 % 64 = x6 at *
  generalize n / 4398046511104 % 64 = x7 at *
  generalize n / 281474976710656 = x8 at *
  generalize n % 64 = x0 at *
  have hix : ∀ w, (Instr.index 435 (.agg #[.int .u64 x0, .int .u64 x1, .int .u64 x2, .int .u64 x3, .int .u64 x4, .int .u64 x5, .int .u64 x6, .int .u64 x7, .int .u64 x8]) (.int .i64 6)).run Tryz.prog w = .ok (.int .u64 x6) w := fun _ => by kernel_rfl
  have a0 : bits .and .u64 (x6 : Int) 63 = (x6 : Int) := by
    have := and63 x6 (by omega)
    rw [Nat.mod_eq_of_lt hx] at this
    exact this
  go_enter Tryz.func241, Tryz.ntmps241
  go_wp2_with (go_at_call 304; refine (hd _).mono ?_; rintro e w1 ⟨rfl, hb1⟩)
  refine bodyPost_ret (v := .int .i64 x6) ?_ rfl ⟨rfl, hb1⟩
  simp [results, Tryz.results241, go_sem]
theorem digit_7 (n : Nat) (hn : n < 18446744073709551616) (w : World) : Calls Tryz.prog 241 #[.int .u64 n, .int .i64 7] w fun e w' => e = .returned (.int .i64 (n / 4398046511104 % 64 : Nat)) ∧ Below w.heap.size w w' := by
  have hd := digits_at n hn
  have hx : n / 4398046511104 % 64 < 64 := Nat.mod_lt _ (by omega)
  generalize n / 64 % 64 = x1 at *
  generalize n / 4096 % 64 = x2 at *
  generalize n / 262144 % 64 = x3 at *
  generalize n / 16777216 % 64 = x4 at *
  generalize n / 1073741824 % 64 = x5 at *
  generalize n / 68719476736 % 64 = x6 at *
  generalize n / 4398046511104 % 64 = x7 at *
  generalize n / 281474976710656 = x8 at *
  generalize n % 64 = x0 at *
  have hix : ∀ w, (Instr.index 435 (.agg #[.int .u64 x0, .int .u64 x1, .int .u64 x2, .int .u64 x3, .int .u64 x4, .int .u64 x5, .int .u64 x6, .int .u64 x7, .int .u64 x8]) (.int .i64 7)).run Tryz.prog w = .ok (.int .u64 x7) w := fun _ => by kernel_rfl
  have a0 : bits .and .u64 (x7 : Int) 63 = (x7 : Int) := by
    have := and63 x7 (by omega)
    rw [Nat.mod_eq_of_lt hx] at this
    exact this
  go_enter Tryz.func241, Tryz.ntmps241
  go_wp2_with (go_at_call 304; refine (hd _).mono ?_; rintro e w1 ⟨rfl, hb1⟩)
  refine bodyPost_ret (v := .int .i64 x7) ?_ rfl ⟨rfl, hb1⟩
  simp [results, Tryz.results241, go_sem]
end Go.Proofs.YtkndlfdpmpdihaaGreatDoor
