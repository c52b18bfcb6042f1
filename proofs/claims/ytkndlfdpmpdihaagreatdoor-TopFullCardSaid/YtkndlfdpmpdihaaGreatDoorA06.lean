/- Maps whose keys are places, or the wheel's keys: where a key lies. Maps whose keys are the wheel's keys (a level and a slot): where a key lies. Maps whose keys are places, or the wheel's keys: what an assignment and a delete do to them. pool.Split and the handle of a place. Words on memory: worlds that grew, blocks that are known whole, a region that draws its order and only reads or calls what makes memory. The handle of a place. Conditions: those that each statement shows. -/
import Derived.Test.YtkndlfdpmpdihaaGreatDoorProg
import Derived.Test.YtkndlfdpmpdihaaGreatDoorA05
import Derived.WalkKit
import Derived.WalkLawsBesides
import Derived.KernelRfl
import Derived.WalkSpells
import Derived.RegionTactic
import Derived.StillTailTactics
import Derived.BigQuiet
import Derived.Laws.Bits64b
import Derived.Deep.QuietTactic
import Derived.Deep.LoopGhost
import Derived.Lib.Hide
import Derived.Deep.DrawnRows
import Derived.Maps.AppendAt
import Derived.Laws.OwnMore
import Derived.Deep.AppendLies
import Derived.OwnWalk
namespace Go.Proofs.YtkndlfdpmpdihaaGreatDoor
open Go.RowKit Go.Ev
set_option linter.unusedVariables false
set_option linter.unusedSimpArgs false
/-- A place, as a key. -/
def PK (a : Int) : Value := .agg #[.int .i64 a]
theorem eq316 (a b : Int) (w : World) : (Op.equal 316 (PK a) (PK b)).run Tryz.prog w = .ok (a == b) w := by
  have e3 : ∀ w : World, (Op.equalIn 9999 3 (.int .i64 a) (.int .i64 b)).run Tryz.prog w = .ok (a == b) w := fun w => run_equalIn_int w 9998 3 .i64 .i64 _ _ Tryz.underlying3
  have p1 : ∀ (n : Int) (w : World), (part 3 #[.int .i64 n] 0).run Tryz.prog w = .ok (.int .i64 n) w := fun n w => by kernel_rfl
  show (Op.equalIn (9999 + 1) 316 (PK a) (PK b)).run Tryz.prog w = _
  rw [Op.equalIn]
  simp only [Sem.run_bind, run_underlying Tryz.underlying316, Result.andThen_ok, PK]
  simp [p1, e3]
  cases hab : (a == b) <;> simp_all
/-- Where it lies, and what is there. -/
def lookP (a : Int) : List MapEntry → Nat → Option (Nat × Value)
  | [], _ => none
  | e :: es, i => match e.key with
    | .agg ⟨[.int .i64 b]⟩ => if a = b then some (i, e.val) else lookP a es (i + 1)
    | _ => none
theorem find316 {a : Int} : ∀ (es : List MapEntry) (i : Nat) (w : World), (∀ e ∈ es, ∃ b, e.key = PK b) → (Instr.findAsking 316 (PK a) es i).run Tryz.prog w = .ok (lookP a es i) w
  | [], i, w, h => rfl
  | e :: es, i, w, h => by
    obtain ⟨b, hb⟩ := h e List.mem_cons_self
    have ih := find316 (a := a) es (i + 1) w (fun x hx => h x (List.mem_cons_of_mem _ hx))
    unfold Instr.findAsking lookP
    rw [Sem.run_bind, hb, eq316]
    simp only [Result.andThen_ok, PK]
    by_cases hab : a = b
    · subst hab
      simp
    · have h1 : (a == b) = false := by simpa using hab
      rw [h1]
      simp only [if_neg hab]
      exact ih
theorem findKey316 {a : Int} (es : List MapEntry) (w : World) (h : ∀ e ∈ es, ∃ b, e.key = PK b) : (Instr.findKey 316 (PK a) es).run Tryz.prog w = .ok (lookP a es 0) w := by
  unfold Instr.findKey
  simp only [Sem.run_bind, run_underlying Tryz.underlying316, Result.andThen_ok]
  cases es with
  | nil => rfl
  | cons e es =>
    obtain ⟨b, hb⟩ := h e List.mem_cons_self
    simp only [Instr.findNow, hb, PK, Instr.sameNow]
    exact find316 _ 0 w h
theorem checkKey316 (empty : Bool) (a : Int) (w : World) : (Instr.checkKey empty 10000 316 (PK a)).run Tryz.prog w = .ok () w := by
  cases empty <;> kernel_rfl
/-- A look-up in the map of entries, or of ages. -/
theorem look_place {t et : TypeId} {r : Nat} {fs : Array MapEntry} {c : Nat} {w : World} {a : Int} {ok : Bool} {z : Value} (hu : Tryz.prog.underlying t = some (.map 316 et)) (hz : ∀ w, (zeroValue et).run Tryz.prog w = .ok z w) (hr : w.heap[r]? = some (.map fs c)) (hk : ∀ e ∈ fs.toList, ∃ b, e.key = PK b) :
    (Instr.lookup t (.map (some r)) (PK a) ok).run Tryz.prog w = match lookP a fs.toList 0 with
      | some (_, v) => .ok (if ok then .tuple #[v, .bool true] else v) w
      | none => .ok (if ok then .tuple #[z, .bool false] else z) w := by
  have hf := fun w => findKey316 (a := a) fs.toList w hk
  generalize lookP a fs.toList 0 = q at hf ⊢
  rw [run_look hu (.inr ⟨r, c, rfl, hr⟩) (fun w => checkKey316 _ a w) hf]
  cases q with
  | some q => rfl
  | none => show ((zeroValue et).run Tryz.prog w).andThen _ = _; rw [hz]; rfl
end Go.Proofs.YtkndlfdpmpdihaaGreatDoor
namespace Go.Proofs.YtkndlfdpmpdihaaGreatDoor
open Go.RowKit Go.Ev
set_option linter.unusedVariables false
set_option linter.unusedSimpArgs false
/-- A level and a slot, as a key. -/
def KK (l s : Int) : Value := .agg #[.int .i64 l, .int .i64 s]
theorem eq219 (a b c d : Int) (w : World) : (Op.equal 219 (KK a b) (KK c d)).run Tryz.prog w = .ok (a == c && b == d) w := by
  have e3 : ∀ (a b : Int) (w : World), (Op.equalIn 9999 3 (.int .i64 a) (.int .i64 b)).run Tryz.prog w = .ok (a == b) w := fun a b w => run_equalIn_int w 9998 3 .i64 .i64 _ _ Tryz.underlying3
  have p1 : ∀ (m n : Int) (w : World), (part 3 #[.int .i64 m, .int .i64 n] 0).run Tryz.prog w = .ok (.int .i64 m) w := fun m n w => by kernel_rfl
  have p2 : ∀ (m n : Int) (w : World), (part 3 #[.int .i64 m, .int .i64 n] 1).run Tryz.prog w = .ok (.int .i64 n) w := fun m n w => by kernel_rfl
  show (Op.equalIn (9999 + 1) 219 (KK a b) (KK c d)).run Tryz.prog w = _
  rw [Op.equalIn]
  simp only [Sem.run_bind, run_underlying Tryz.underlying219, Result.andThen_ok, KK]
  simp [p1, p2, e3]
  cases hab : (a == c) <;> cases hcd : (b == d) <;> simp_all
/-- Where it lies, and what is there. -/
def lookK (a b : Int) : List MapEntry → Nat → Option (Nat × Value)
  | [], _ => none
  | e :: es, i => match e.key with
    | .agg ⟨[.int .i64 c, .int .i64 d]⟩ => if a = c ∧ b = d then some (i, e.val) else lookK a b es (i + 1)
    | _ => none
theorem find219 {a b : Int} : ∀ (es : List MapEntry) (i : Nat) (w : World), (∀ e ∈ es, ∃ c d, e.key = KK c d) → (Instr.findAsking 219 (KK a b) es i).run Tryz.prog w = .ok (lookK a b es i) w
  | [], i, w, h => rfl
  | e :: es, i, w, h => by
    obtain ⟨c, d, hb⟩ := h e List.mem_cons_self
    have ih := find219 (a := a) (b := b) es (i + 1) w (fun x hx => h x (List.mem_cons_of_mem _ hx))
    unfold Instr.findAsking lookK
    rw [Sem.run_bind, hb, eq219]
    simp only [Result.andThen_ok, KK]
    by_cases hab : a = c ∧ b = d
    · obtain ⟨rfl, rfl⟩ := hab
      simp
    · have h1 : (a == c && b == d) = false := by
        rcases Classical.em (a = c) with h | h
        · have : b ≠ d := fun x => hab ⟨h, x⟩
          simp [this]
        · simp [h]
      rw [h1]
      simp only [if_neg hab]
      exact ih
theorem findKey219 {a b : Int} (es : List MapEntry) (w : World) (h : ∀ e ∈ es, ∃ c d, e.key = KK c d) : (Instr.findKey 219 (KK a b) es).run Tryz.prog w = .ok (lookK a b es 0) w := by
  unfold Instr.findKey
  simp only [Sem.run_bind, run_underlying Tryz.underlying219, Result.andThen_ok]
  cases es with
  | nil => rfl
  | cons e es =>
    obtain ⟨c, d, hb⟩ := h e List.mem_cons_self
    simp only [Instr.findNow, hb, KK, Instr.sameNow]
    exact find219 _ 0 w h
theorem checkKey219 (empty : Bool) (a b : Int) (w : World) : (Instr.checkKey empty 10000 219 (KK a b)).run Tryz.prog w = .ok () w := by
  cases empty <;> kernel_rfl
/-- A look-up in the map of chains. -/
theorem look_key {t et : TypeId} {r : Nat} {fs : Array MapEntry} {c : Nat} {w : World} {a b : Int} {ok : Bool} {z : Value} (hu : Tryz.prog.underlying t = some (.map 219 et)) (hz : ∀ w, (zeroValue et).run Tryz.prog w = .ok z w) (hr : w.heap[r]? = some (.map fs c)) (hk : ∀ e ∈ fs.toList, ∃ c d, e.key = KK c d) :
    (Instr.lookup t (.map (some r)) (KK a b) ok).run Tryz.prog w = match lookK a b fs.toList 0 with
      | some (_, v) => .ok (if ok then .tuple #[v, .bool true] else v) w
      | none => .ok (if ok then .tuple #[z, .bool false] else z) w := by
  have hf := fun w => findKey219 (a := a) (b := b) fs.toList w hk
  generalize lookK a b fs.toList 0 = q at hf ⊢
  rw [run_look hu (.inr ⟨r, c, rfl, hr⟩) (fun w => checkKey219 _ a b w) hf]
  cases q with
  | some q => rfl
  | none => show ((zeroValue et).run Tryz.prog w).andThen _ = _; rw [hz]; rfl
end Go.Proofs.YtkndlfdpmpdihaaGreatDoor
namespace Go.Proofs.YtkndlfdpmpdihaaGreatDoor
open Go.RowKit Go.Ev
set_option linter.unusedVariables false
set_option linter.unusedSimpArgs false
theorem lookP_key {a : Int} : ∀ (es : List MapEntry) (i : Nat) {j : Nat} {v : Value}, lookP a es i = some (j, v) → ∃ e, i ≤ j ∧ es[j - i]? = some e ∧ e.key = PK a ∧ e.val = v
  | [], i, j, v, h => by simp [lookP] at h
  | e :: es, i, j, v, h => by
    unfold lookP at h
    split at h
    · rename_i b hb
      by_cases hab : a = b
      · subst hab
        rw [if_pos rfl] at h
        injection h with h
        injection h with h1 h2
        subst h1 h2
        exact ⟨e, Nat.le_refl _, by simp, hb, rfl⟩
      · rw [if_neg hab] at h
        obtain ⟨x, h1, h2, h3⟩ := lookP_key es (i + 1) h
        refine ⟨x, by omega, ?_, h3⟩
        have : j - i = (j - (i + 1)) + 1 := by omega
        rw [this, List.getElem?_cons_succ, h2]
    · exact absurd h (by simp)
theorem lookK_key {a b : Int} : ∀ (es : List MapEntry) (i : Nat) {j : Nat} {v : Value}, lookK a b es i = some (j, v) → ∃ e, i ≤ j ∧ es[j - i]? = some e ∧ e.key = KK a b ∧ e.val = v
  | [], i, j, v, h => by simp [lookK] at h
  | e :: es, i, j, v, h => by
    unfold lookK at h
    split at h
    · rename_i c d hb
      by_cases hab : a = c ∧ b = d
      · obtain ⟨rfl, rfl⟩ := hab
        rw [if_pos ⟨rfl, rfl⟩] at h
        injection h with h
        injection h with h1 h2
        subst h1 h2
        exact ⟨e, Nat.le_refl _, by simp, hb, rfl⟩
      · rw [if_neg hab] at h
        obtain ⟨x, h1, h2, h3⟩ := lookK_key es (i + 1) h
        refine ⟨x, by omega, ?_, h3⟩
        have : j - i = (j - (i + 1)) + 1 := by omega
        rw [this, List.getElem?_cons_succ, h2]
    · exact absurd h (by simp)
theorem bitsP (a : Int) : Instr.sameBits 10000 (PK a) (PK a) = true := by
  show Instr.sameBits (9998 + 2) _ _ = true
  simp [Instr.sameBits, PK]
theorem bitsK (a b : Int) : Instr.sameBits 10000 (KK a b) (KK a b) = true := by
  show Instr.sameBits (9998 + 2) _ _ = true
  simp [Instr.sameBits, KK]
/-- Where one thing is put. -/
def putM (key v : Value) (fs : Array MapEntry) (c : Nat) : Option (Nat × Value) → Obj
  | some (i, _) => .map (fs.modify i fun e => { e with key := key, val := v }) c
  | none => .map (fs.push { key, val := v, born := c }) (c + 1)
/-- Where one thing is taken away. -/
def delM (fs : Array MapEntry) (c : Nat) : Option (Nat × Value) → Obj
  | some (i, _) => .map (fs.eraseIdxIfInBounds i) c
  | none => .map fs c
theorem upd_place {t et : TypeId} {r : Nat} {fs : Array MapEntry} {c : Nat} {w : World} {a : Int} {v : Value} (hu : Tryz.prog.underlying t = some (.map 316 et)) (hr : w.heap[r]? = some (.map fs c)) (hk : ∀ e ∈ fs.toList, ∃ b, e.key = PK b) :
    (Instr.mapUpdate t (.map (some r)) (PK a) v).run Tryz.prog w = .ok () { w with heap := w.heap.setIfInBounds r (putM (PK a) v fs c (lookP a fs.toList 0)) } := by
  rw [run_upd hu hr (fun w => checkKey316 _ a w) (fun w => findKey316 (a := a) fs.toList w hk)]
  · cases lookP a fs.toList 0 <;> rfl
  · intro i u h
    obtain ⟨e, _, h2, h3, _⟩ := lookP_key _ _ h
    rw [Nat.sub_zero, Array.getElem?_toList] at h2
    rw [h2]
    simp only [Option.map_some, Option.getD_some, h3]
    exact bitsP a
theorem upd_key {t et : TypeId} {r : Nat} {fs : Array MapEntry} {c : Nat} {w : World} {a b : Int} {v : Value} (hu : Tryz.prog.underlying t = some (.map 219 et)) (hr : w.heap[r]? = some (.map fs c)) (hk : ∀ e ∈ fs.toList, ∃ c d, e.key = KK c d) :
    (Instr.mapUpdate t (.map (some r)) (KK a b) v).run Tryz.prog w = .ok () { w with heap := w.heap.setIfInBounds r (putM (KK a b) v fs c (lookK a b fs.toList 0)) } := by
  rw [run_upd hu hr (fun w => checkKey219 _ a b w) (fun w => findKey219 (a := a) (b := b) fs.toList w hk)]
  · cases lookK a b fs.toList 0 <;> rfl
  · intro i u h
    obtain ⟨e, _, h2, h3, _⟩ := lookK_key _ _ h
    rw [Nat.sub_zero, Array.getElem?_toList] at h2
    rw [h2]
    simp only [Option.map_some, Option.getD_some, h3]
    exact bitsK a b
theorem del_place {t et ty : TypeId} {ts : Array TypeId} {r : Nat} {fs : Array MapEntry} {c : Nat} {w : World} {a : Int} (h0 : ts[0]? = some t) (hu : Tryz.prog.underlying t = some (.map 316 et)) (hr : w.heap[r]? = some (.map fs c)) (hk : ∀ e ∈ fs.toList, ∃ b, e.key = PK b) :
    (Builtin.delete_ ts ty #[.map (some r), PK a]).run Tryz.prog w = .ok (.tuple #[]) { w with heap := w.heap.setIfInBounds r (delM fs c (lookP a fs.toList 0)) } := by
  have hf := fun w => findKey316 (a := a) fs.toList w hk
  generalize lookP a fs.toList 0 = q at hf ⊢
  rw [run_del h0 hu hr (fun w => checkKey316 _ a w) hf]
  cases q <;> rfl
theorem del_key {t et ty : TypeId} {ts : Array TypeId} {r : Nat} {fs : Array MapEntry} {c : Nat} {w : World} {a b : Int} (h0 : ts[0]? = some t) (hu : Tryz.prog.underlying t = some (.map 219 et)) (hr : w.heap[r]? = some (.map fs c)) (hk : ∀ e ∈ fs.toList, ∃ c d, e.key = KK c d) :
    (Builtin.delete_ ts ty #[.map (some r), KK a b]).run Tryz.prog w = .ok (.tuple #[]) { w with heap := w.heap.setIfInBounds r (delM fs c (lookK a b fs.toList 0)) } := by
  have hf := fun w => findKey219 (a := a) (b := b) fs.toList w hk
  generalize lookK a b fs.toList 0 = q at hf ⊢
  rw [run_del h0 hu hr (fun w => checkKey219 _ a b w) hf]
  cases q <;> rfl
end Go.Proofs.YtkndlfdpmpdihaaGreatDoor
namespace Go.Proofs.YtkndlfdpmpdihaaGreatDoor
open Go.RowKit Go.Ev
set_option linter.unusedVariables false
set_option linter.unusedSimpArgs false
theorem mask12 (w : World) : Calls Tryz.prog 243 #[.int .i64 12] w fun e w' => e = .returned (.int .u64 4095) ∧ w' = w := by
  go_enter Tryz.func243, Tryz.ntmps243
  go_wp2
  go_ret
  exact ⟨rfl, rfl⟩
theorem and12 (h : Nat) : ((h &&& 4095 : Nat) : Int) = ((h % 4096 : Nat) : Int) := by
  rw [show (4095 : Nat) = 2 ^ 12 - 1 from rfl, Nat.and_two_pow_sub_one_eq_mod]
theorem split_any (h : Nat) (hh : h < 18446744073709551616) (w : World) : Calls Tryz.prog 189 #[.int .u64 (h : Int)] w fun e w' => e = .returned (.tuple #[.int .u64 ((h / 4096 : Nat) : Int), .int .i64 ((h % 4096 : Nat) : Int)]) ∧ w' = w := by
  go_enter Tryz.func189, Tryz.ntmps189
  go_wp2_with (go_at_call 243; refine (mask12 _).mono ?_; rintro e w' ⟨rfl, rfl⟩)
  have hb : bits .and .u64 (h : Int) 4095 = ((h % 4096 : Nat) : Int) := by
    rw [← and12]
    exact bits_and_u64_nat h 4095 hh (by decide)
  have hw : wrap64 (bits .and .u64 (h : Int) 4095) = ((h % 4096 : Nat) : Int) := by
    rw [hb]
    unfold wrap64
    omega
  refine bodyPost_ret (v := .tuple #[.int .u64 ((h / 4096 : Nat) : Int), .int .i64 ((h % 4096 : Nat) : Int)]) ?_ rfl ⟨rfl, rfl⟩
  simp [results, Tryz.results189, go_sem, hw]
end Go.Proofs.YtkndlfdpmpdihaaGreatDoor
namespace Go.Proofs.YtkndlfdpmpdihaaGreatDoor
open Go.RowKit
set_option linter.unusedVariables false
/-- A world that grew out of w0: what lay in w0 is as it was. -/
structure WX (w0 : World) where
  w : World
  h : Below w0.heap.size w0 w
instance WX.ne (w0 : World) : Nonempty (WX w0) := ⟨⟨w0, Below.refl _ _⟩⟩
theorem WX.cell {w0 : World} (x : WX w0) {b o : Nat} {v : Value} (hc : w0.cell? ⟨b, o, none⟩ = some v) : x.w.cell? ⟨b, o, none⟩ = some v := by
  have hlt := World.block_lt_of_cell? (w := w0) (a := ⟨b, o, none⟩) hc
  rw [x.h.cell (p := ⟨b, o, none⟩) hlt]; exact hc
theorem WX.of {P : Program} {f : FuncId} {args : Array Value} {w0 : World} {x : WX w0} {v : Value}
    (h : Calls P f args x.w fun e w' => e = .returned v ∧ Below x.w.heap.size x.w w') : Calls P f args x.w fun e w'' => e = .returned v ∧ ∃ y : WX w0, w'' = y.w :=
  h.mono fun _ w' ⟨he, hb⟩ => ⟨he, ⟨w', x.h.trans (hb.mono x.h.size)⟩, rfl⟩
theorem WX.of_same {P : Program} {f : FuncId} {args : Array Value} {w0 : World} {x : WX w0} {v : Value}
    (h : Calls P f args x.w fun e w' => e = .returned v ∧ x.w = w') : Calls P f args x.w fun e w'' => e = .returned v ∧ ∃ y : WX w0, w'' = y.w :=
  h.mono fun _ w' ⟨he, hb⟩ => ⟨he, x, hb.symm⟩
theorem wp_region_grown {P : Program} {id : Nat} {Q : Exit → Act → World → Prop} {a : Act} {w : World} {l : List Oper} (hm : P.follows .mixedOrders = true) (hB : Region.lexB .any l.toArray = true)
    (h : wpQuiet P l.toArray (fun w' => ∃ x : WX w, w' = x.w) (fun a' => ∀ w', Below w.heap.size w w' → Q .normal a' w') l a) : (Code.region id l.toArray true).wp P Q a w :=
  wp_region_quiet (C := fun w' => ∃ x : WX w, w' = x.w) hm hB ⟨⟨w.drew, (Below.refl _ _).drew⟩, rfl⟩ (by
    have : (fun a' => ∀ w', (∃ x : WX w, w' = x.w) → Q .normal a' w') = (fun a' => ∀ w', Below w.heap.size w w' → Q .normal a' w') := by
      funext a'; apply propext; constructor
      · intro h w' hb; exact h w' ⟨⟨w', hb⟩, rfl⟩
      · rintro h w' ⟨x, rfl⟩; exact h _ x.h
    rw [this]; simpa using h)
/-- A block of cells, known whole. -/
def Blk (w : World) (b : Nat) (vs : Array Value) (T : TypeId) : Prop := w.heap[b]? = some (.cells vs T (0, 0))
theorem Blk.cell {w : World} {b : Nat} {vs : Array Value} {T : TypeId} (h : Blk w b vs T) (j : Nat) {v : Value} (hv : vs[j]? = some v) : w.cell? ⟨b, j, none⟩ = some v := by
  unfold Blk at h; simp [World.cell?, h, hv]
theorem Blk.free {w : World} {b : Nat} {vs : Array Value} {T : TypeId} (h : Blk w b vs T) (j : Nat) : w.frozen? ⟨b, j, none⟩ = false := by
  unfold Blk at h; simp [World.frozen?, h]
theorem Blk.lt {w : World} {b : Nat} {vs : Array Value} {T : TypeId} (h : Blk w b vs T) : b < w.heap.size := by
  unfold Blk at h; exact (Array.getElem?_eq_some_iff.1 h).1
theorem Blk.below {w w' : World} {B b : Nat} {vs : Array Value} {T : TypeId} (h : Blk w b vs T) (hb : Below B w w') (hlt : b < B) : Blk w' b vs T := by
  unfold Blk at *; rw [hb.block b hlt]; exact h
theorem Blk.set {w : World} {b : Nat} {vs : Array Value} {T : TypeId} (h : Blk w b vs T) (j : Nat) (v : Value) : Blk (w.setCell ⟨b, j, none⟩ v) b (vs.setIfInBounds j v) T := by
  unfold Blk at *; simp [World.setCell, Array.getElem?_modify, h]
theorem Blk.set_ne {w : World} {b c : Nat} {vs : Array Value} {T : TypeId} (h : Blk w b vs T) (j : Nat) (v : Value) (hne : c ≠ b) : Blk (w.setCell ⟨c, j, none⟩ v) b vs T := by
  unfold Blk at *; simp [World.setCell, Array.getElem?_modify, hne, h]
theorem Blk.alloc {w : World} {b : Nat} {vs : Array Value} {T : TypeId} (h : Blk w b vs T) (o : Obj) : Blk (w.alloc o) b vs T := by
  have := h.lt; unfold Blk at *; rw [← h]; exact Below.heap_alloc w o b this
theorem Blk.drew {w : World} {b : Nat} {vs : Array Value} {T : TypeId} (h : Blk w b vs T) : Blk w.drew b vs T := h
theorem Blk.new (w : World) (vs : Array Value) (T : TypeId) : Blk (w.alloc (.cells vs T)) w.heap.size vs T := by
  unfold Blk; show (w.heap.push _)[w.heap.size]? = _; simp
abbrev I (n : Int) : Value := .int .i64 n
abbrev U (n : Int) : Value := .int .u32 n
abbrev L (n : Int) : Value := .int .u64 n
theorem Blk.grown {w w' : World} {g : Nat} {t : TypeId} {cs : Array Value} {row : Option Nat} (h : Blk w g cs t) (hb : w.grownBy w' row) (hg : some g ≠ row) : Blk w' g cs t := (hb.block g h.lt hg).trans h
theorem Blk.ne_ {w : World} {g g' : Nat} {t t' : TypeId} {cs cs' : Array Value} (h : Blk w g cs t) (h' : Blk w g' cs' t') (hne : t ≠ t') : g ≠ g' := by
  rintro rfl
  unfold Blk at h h'
  rw [h] at h'
  injection h' with h'
  injection h' with _ ht
  exact hne ht
theorem own_base {w : World} {base : Nat} {e : TypeId} {size n : Nat} {v : Value} {xs : List Value} (h : w.ownsRow base e size v n xs) : ∀ k, v.ownBlock = some k → base ≤ k := by
  rcases h.2 with ⟨rfl, _⟩ | ⟨g', cap, cur, rfl, hb, hh, _⟩
  · intro k hk; simp [Value.ownBlock] at hk
  · intro k hk
    have : g' = k := by simpa [Value.ownBlock] using hk
    omega
theorem Blk.wx {w : World} {b : Nat} {vs : Array Value} {T : TypeId} (h : Blk w b vs T) (j : Nat) {v : Value} (hv : vs[j]? = some v) : ∀ x : WX w, x.w.cell? ⟨b, j, none⟩ = some v := fun x => x.cell (h.cell j hv)
end Go.Proofs.YtkndlfdpmpdihaaGreatDoor
namespace Go.Proofs.YtkndlfdpmpdihaaGreatDoor
open Go.RowKit Go.Ev
set_option linter.unusedVariables false
set_option linter.unusedSimpArgs false
/-- The pool's own parts. -/
def poolV (re ro : Nat) (ta : Value) (room : Int) : Array Value := #[.map (some re), .map (some ro), ta, .int .i64 room]
/-- A generation less one, as a map has it: 0 where it has none. -/
def oldV : Option (Nat × Value) → Value
  | some (_, v) => v
  | none => .int .u64 0
theorem quiet_look {P : Program} {C : World → Prop} {a : Act} {o : Oper} {K : Act → Prop} (mo ko : Operand) {t : TypeId} {ok : Bool} {v : Value} (h : o.op = .lookup t mo ko ok) (hl : ∀ w, C w → (Instr.lookup t (a.eval mo) (a.eval ko) ok).run P w = .ok v w) (hk : K (a.put o.dst v)) : o.quiet P a C K :=
  ⟨v, fun w hw => by
    unfold Oper.quietAt
    unfold execOp
    rw [h]
    simp only [Functor.map, Sem.run_bind, Sem.run_map, hl w hw, Result.andThen_ok]
    exact ⟨rfl, rfl⟩, hk⟩
theorem handle_any {b re ro room : Nat} {ta : Value} {fs : Array MapEntry} {c : Nat} {w : World} {a g : Nat} (h : Blk w b (poolV re ro ta room) 320) (ho : w.heap[ro]? = some (.map fs c)) (hk : ∀ e ∈ fs.toList, ∃ b, e.key = PK b)
    (hg : oldV (lookP a fs.toList 0) = .int .u64 (g : Int)) (hg1 : g < 4294967295) (ha : a < 4096) :
    Calls Tryz.prog 177 #[.pointer (some ⟨b, 0, none⟩), PK a] w fun e w' => e = .returned (.int .u64 (((g + 1) * 4096 + a : Nat) : Int)) ∧ Below w.heap.size w w' := by
  show Calls Tryz.prog 177 #[.pointer (some ⟨b, 0, none⟩), .agg #[.int .i64 (a : Int)]] w _
  go_enter Tryz.func177, Tryz.ntmps177
  go_wp2
  have hS : Blk (w.alloc (.cells #[.int .i64 (a : Int)] 316)) w.heap.size #[.int .i64 (a : Int)] 316 := Blk.new w _ _
  have h' := h.alloc (.cells #[.int .i64 (a : Int)] 316)
  have ho' : (w.alloc (.cells #[.int .i64 (a : Int)] 316)).heap[ro]? = some (.map fs c) := by
    rw [Below.heap_alloc _ _ _ (Array.getElem?_eq_some_iff.mp ho).1, ho]
  have hB : Below w.heap.size w (w.alloc (.cells #[.int .i64 (a : Int)] 316)) := (Below.refl _ w).alloc (Nat.le_refl _) _
  generalize hrb : w.heap.size = rb at hS hB ⊢
  generalize hw1 : w.alloc (.cells #[.int .i64 (a : Int)] 316) = w1 at hS h' ho' hB ⊢
  have hl : ∀ x : WX w1, (Instr.lookup 318 (.map (some ro)) (.agg #[.int .i64 (a : Int)]) false).run Tryz.prog x.w = .ok (.int .u64 (g : Int)) x.w := by
    intro x
    have hx : x.w.heap[ro]? = some (.map fs c) := by
      rw [x.h.block ro (Array.getElem?_eq_some_iff.mp ho').1, ho']
    have := look_place (t := 318) (et := 37) (a := (a : Int)) (ok := false) (z := .int .u64 0) (by kernel_rfl) (fun w => by kernel_rfl) hx hk
    rw [show Value.agg #[.int .i64 (a : Int)] = PK a from rfl, this]
    cases hq : lookP a fs.toList 0 with
    | none => rw [hq] at hg; simp only [oldV] at hg; simp [hg]
    | some q => rw [hq] at hg; simp only [oldV] at hg; simp [hg]
  have c1 := h'.wx 1 rfl
  have c2 := hS.wx 0 rfl
  refine wp_region_grown (by kernel_rfl) (by kernel_rfl) ?_
  repeat (go_big_quiet_step (fail))
  refine BigFrame.wpQuiet_want (by rfl) ?_
  intro K hK
  refine quiet_look _ _ rfl (v := .int .u64 (g : Int)) ?_ ?_
  · rintro w ⟨x, rfl⟩
    exact hl x
  refine hK _ ?_
  simp only [Act.put, List.setIfInBounds_toArray, List.set_cons_succ, List.set_cons_zero]
  repeat (go_big_quiet_step (fail))
  refine wpQuiet_nil ?_
  intro w2 hb
  have hor : bits .or .u64 (((g : Int) + 1) * 4096) (a : Int) = (((g + 1) * 4096 + a : Nat) : Int) := by
    have h1 := bits_or_u64_nat ((g + 1) * 4096) a (by omega) (by omega)
    have h2 : (g + 1) * 4096 ||| a = (g + 1) * 4096 + a := by
      have := Nat.two_pow_add_eq_or_of_lt (i := 12) (b := a) ha (g + 1)
      rw [show (g + 1) * 4096 = 2 ^ 12 * (g + 1) by omega, this]
    rw [h2] at h1
    rw [← h1]
    congr 1
  rw [hor]
  go_wp2
  refine bodyPost_ret (v := .int .u64 (((g + 1) * 4096 + a : Nat) : Int)) ?_ rfl ⟨rfl, ?_⟩
  · simp [results, Tryz.results177, go_sem]
  · rw [hrb]; exact hB.trans (hb.mono (by rw [← hw1, ← hrb]; simp [World.alloc_eq]))
end Go.Proofs.YtkndlfdpmpdihaaGreatDoor
