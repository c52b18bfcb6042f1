/- The evaluator with the small world as a tree. No conditions beyond those that each statement shows. -/
import Derived.Test.YtkndlfdpmpdihaaGreatDoorE2
namespace Go.Ev
open Go.RowKit
set_option linter.unusedVariables false
set_option linter.unusedSimpArgs false

section lists
variable {α β : Type}
noncomputable def nthL (l : List α) : Nat → Option α :=
  List.rec (motive := fun _ => Nat → Option α) (fun _ => none) (fun x _ ih i => Nat.rec (motive := fun _ => Option α) (some x) (fun m _ => ih m) i) l
theorem nthL_eq : ∀ (l : List α) (i : Nat), nthL l i = l[i]?
  | [], i => rfl
  | x :: l, 0 => rfl
  | x :: l, i + 1 => by
    show nthL l i = _
    rw [nthL_eq l i]; rfl
noncomputable def setLK (v : α) (l : List α) : Nat → (List α → β) → β :=
  List.rec (motive := fun _ => Nat → (List α → β) → β) (fun _ c => c []) (fun x xs ih i c => Nat.rec (motive := fun _ => β) (c (v :: xs)) (fun m _ => ih m fun ys => c (x :: ys)) i) l
theorem setLK_eq (v : α) : ∀ (l : List α) (i : Nat) (c : List α → β), setLK v l i c = c (l.set i v)
  | [], i, c => rfl
  | x :: l, 0, c => rfl
  | x :: l, i + 1, c => by
    show setLK v l i (fun ys => c (x :: ys)) = _
    rw [setLK_eq v l i]; rfl
end lists

inductive T where
  | nil : T
  | leaf (o : Obj) : T
  | br (l r : T) : T
noncomputable def T.get (t : T) : Nat → Option Obj :=
  T.rec (motive := fun _ => Nat → Option Obj) (fun _ => none) (fun o _ => some o) (fun _ _ gl gr k => Bool.rec (motive := fun _ => Option Obj) (gr (k / 2)) (gl (k / 2)) (Nat.beq (k % 2) 0)) t
/-- t with o at k; d levels. -/
noncomputable def T.setK {β : Type} (o : Obj) (d : Nat) : T → Nat → (T → β) → β :=
  Nat.rec (motive := fun _ => T → Nat → (T → β) → β) (fun _ _ c => c (.leaf o))
    (fun _ ih t k c => T.rec (motive := fun _ => β)
      (Bool.rec (motive := fun _ => β) (ih .nil (k / 2) fun r => c (.br .nil r)) (ih .nil (k / 2) fun l => c (.br l .nil)) (Nat.beq (k % 2) 0))
      (fun _ => c .nil)
      (fun l r _ _ => Bool.rec (motive := fun _ => β) (ih r (k / 2) fun r => c (.br l r)) (ih l (k / 2) fun l => c (.br l r)) (Nat.beq (k % 2) 0)) t) d
noncomputable def T.set (o : Obj) (d : Nat) (t : T) (k : Nat) : T := T.setK o d t k id
def T.ok : Nat → T → Prop
  | _, .nil => True
  | 0, .leaf _ => True
  | d + 1, .br l r => T.ok d l ∧ T.ok d r
  | _, _ => False
theorem T.ok_nil (d : Nat) : T.ok d .nil := by cases d <;> trivial

theorem T.setK_eq {β : Type} (o : Obj) : ∀ (d : Nat) (t : T) (k : Nat) (c : T → β), T.setK o d t k c = c (T.set o d t k)
  | 0, t, k, c => rfl
  | d + 1, t, k, c => by
    cases t with
    | leaf o' => rfl
    | nil =>
      show Bool.rec (motive := fun _ => β) (T.setK o d .nil (k / 2) fun r => c (.br .nil r)) (T.setK o d .nil (k / 2) fun l => c (.br l .nil)) (Nat.beq (k % 2) 0) = c (Bool.rec (motive := fun _ => T) (T.setK o d .nil (k / 2) fun r => id (.br .nil r)) (T.setK o d .nil (k / 2) fun l => id (.br l .nil)) (Nat.beq (k % 2) 0))
      cases Nat.beq (k % 2) 0
      · show T.setK o d .nil (k / 2) (fun r => c (.br .nil r)) = c (T.setK o d .nil (k / 2) fun r => id (.br .nil r))
        rw [T.setK_eq o d .nil (k / 2), T.setK_eq o d .nil (k / 2)]; rfl
      · show T.setK o d .nil (k / 2) (fun l => c (.br l .nil)) = c (T.setK o d .nil (k / 2) fun l => id (.br l .nil))
        rw [T.setK_eq o d .nil (k / 2), T.setK_eq o d .nil (k / 2)]; rfl
    | br l r =>
      show Bool.rec (motive := fun _ => β) (T.setK o d r (k / 2) fun r => c (.br l r)) (T.setK o d l (k / 2) fun l => c (.br l r)) (Nat.beq (k % 2) 0) = c (Bool.rec (motive := fun _ => T) (T.setK o d r (k / 2) fun r => id (.br l r)) (T.setK o d l (k / 2) fun l => id (.br l r)) (Nat.beq (k % 2) 0))
      cases Nat.beq (k % 2) 0
      · show T.setK o d r (k / 2) (fun r => c (.br l r)) = c (T.setK o d r (k / 2) fun r => id (.br l r))
        rw [T.setK_eq o d r (k / 2), T.setK_eq o d r (k / 2)]; rfl
      · show T.setK o d l (k / 2) (fun l => c (.br l r)) = c (T.setK o d l (k / 2) fun l => id (.br l r))
        rw [T.setK_eq o d l (k / 2), T.setK_eq o d l (k / 2)]; rfl

theorem T.set_succ_nil (o : Obj) (d k : Nat) : T.set o (d + 1) .nil k = if k % 2 = 0 then .br (T.set o d .nil (k / 2)) .nil else .br .nil (T.set o d .nil (k / 2)) := by
  show Bool.rec (motive := fun _ => T) (T.setK o d .nil (k / 2) fun r => (id (T.br .nil r) : T)) (T.setK o d .nil (k / 2) fun l => (id (T.br l .nil) : T)) (Nat.beq (k % 2) 0) = _
  by_cases h : k % 2 = 0
  · rw [h, if_pos rfl]
    show T.setK o d .nil (k / 2) (fun l => (id (T.br l .nil) : T)) = _
    rw [T.setK_eq]; rfl
  · have hb : Nat.beq (k % 2) 0 = false := by
      cases hq : Nat.beq (k % 2) 0 with
      | false => rfl
      | true => exact absurd (Nat.eq_of_beq_eq_true hq) h
    rw [if_neg h, hb]
    show T.setK o d .nil (k / 2) (fun r => (id (T.br .nil r) : T)) = _
    rw [T.setK_eq]; rfl
theorem T.set_succ_br (o : Obj) (d k : Nat) (l r : T) : T.set o (d + 1) (.br l r) k = if k % 2 = 0 then .br (T.set o d l (k / 2)) r else .br l (T.set o d r (k / 2)) := by
  show Bool.rec (motive := fun _ => T) (T.setK o d r (k / 2) fun r => (id (T.br l r) : T)) (T.setK o d l (k / 2) fun l => (id (T.br l r) : T)) (Nat.beq (k % 2) 0) = _
  by_cases h : k % 2 = 0
  · rw [h, if_pos rfl]
    show T.setK o d l (k / 2) (fun l => (id (T.br l r) : T)) = _
    rw [T.setK_eq]; rfl
  · have hb : Nat.beq (k % 2) 0 = false := by
      cases hq : Nat.beq (k % 2) 0 with
      | false => rfl
      | true => exact absurd (Nat.eq_of_beq_eq_true hq) h
    rw [if_neg h, hb]
    show T.setK o d r (k / 2) (fun r => (id (T.br l r) : T)) = _
    rw [T.setK_eq]; rfl
theorem T.get_br (l r : T) (k : Nat) : (T.br l r).get k = if k % 2 = 0 then l.get (k / 2) else r.get (k / 2) := by
  show Bool.rec (motive := fun _ => Option Obj) (r.get (k / 2)) (l.get (k / 2)) (Nat.beq (k % 2) 0) = _
  by_cases h : k % 2 = 0
  · rw [h]; rfl
  · have hb : Nat.beq (k % 2) 0 = false := by
      cases hq : Nat.beq (k % 2) 0 with
      | false => rfl
      | true => exact absurd (Nat.eq_of_beq_eq_true hq) h
    rw [if_neg h, hb]

theorem T.ok_set (o : Obj) : ∀ (d : Nat) (t : T) (k : Nat), T.ok d t → T.ok d (T.set o d t k)
  | 0, t, k, h => trivial
  | d + 1, .nil, k, h => by
    rw [T.set_succ_nil]
    split
    · exact ⟨T.ok_set o d .nil _ (T.ok_nil d), T.ok_nil d⟩
    · exact ⟨T.ok_nil d, T.ok_set o d .nil _ (T.ok_nil d)⟩
  | d + 1, .br l r, k, h => by
    rw [T.set_succ_br]
    split
    · exact ⟨T.ok_set o d l _ h.1, h.2⟩
    · exact ⟨h.1, T.ok_set o d r _ h.2⟩
theorem T.get_set (o : Obj) : ∀ (d : Nat) (t : T) (k j : Nat), T.ok d t → k < 2 ^ d → j < 2 ^ d → (T.set o d t k).get j = if j = k then some o else t.get j
  | 0, t, k, j, h, hk, hj => by
    have e1 : k = 0 := by simpa using hk
    have e2 : j = 0 := by simpa using hj
    subst e1; subst e2; rfl
  | d + 1, .nil, k, j, h, hk, hj => by
    have hk2 : k / 2 < 2 ^ d := by rw [Nat.pow_succ] at hk; omega
    have hj2 : j / 2 < 2 ^ d := by rw [Nat.pow_succ] at hj; omega
    have ih := T.get_set o d .nil (k / 2) (j / 2) (T.ok_nil d) hk2 hj2
    rw [T.set_succ_nil]
    have hn : (T.nil).get j = none := rfl
    have hn2 : (T.nil).get (j / 2) = none := rfl
    split
    · rw [T.get_br]
      split
      · rw [ih]
        by_cases e : j = k
        · subst e; simp
        · rw [if_neg e, if_neg (by omega)]; rfl
      · rw [if_neg (by omega)]; rfl
    · rw [T.get_br]
      split
      · rw [if_neg (by omega)]; rfl
      · rw [ih]
        by_cases e : j = k
        · subst e; simp
        · rw [if_neg e, if_neg (by omega)]; rfl
  | d + 1, .br l r, k, j, h, hk, hj => by
    have hk2 : k / 2 < 2 ^ d := by rw [Nat.pow_succ] at hk; omega
    have hj2 : j / 2 < 2 ^ d := by rw [Nat.pow_succ] at hj; omega
    have il := T.get_set o d l (k / 2) (j / 2) h.1 hk2 hj2
    have ir := T.get_set o d r (k / 2) (j / 2) h.2 hk2 hj2
    rw [T.set_succ_br, T.get_br]
    split
    · rw [T.get_br]
      split
      · rw [il]
        by_cases e : j = k
        · subst e; simp
        · rw [if_neg e, if_neg (by omega)]
      · rw [if_neg (by omega)]
    · rw [T.get_br]
      split
      · rw [if_neg (by omega)]
      · rw [ir]
        by_cases e : j = k
        · subst e; simp
        · rw [if_neg e, if_neg (by omega)]

/-- The small world. -/
structure TW where
  t : T
  n : Nat
structure Rep (w : TW) (H : Array Obj) : Prop where
  ok : T.ok 16 w.t
  size : H.size = w.n
  get : ∀ k, k < 65536 → w.t.get k = H[k]?
  lt : w.n ≤ 65536
theorem Rep.set {w : TW} {H : Array Obj} (h : Rep w H) {k : Nat} (hk : k < w.n) (o : Obj) : Rep ⟨T.set o 16 w.t k, w.n⟩ (H.setIfInBounds k o) := by
  refine ⟨T.ok_set o 16 _ _ h.ok, by simp [h.size], fun j hj => ?_, h.lt⟩
  have hlt := h.lt
  show (T.set o 16 w.t k).get j = _
  rw [T.get_set o 16 w.t k j h.ok (by omega) (by omega), Array.getElem?_setIfInBounds, h.get j hj, h.size]
  by_cases e : j = k
  · subst e; simp [hk]
  · rw [if_neg e, if_neg (fun x => e x.symm)]
theorem Rep.push {w : TW} {H : Array Obj} (h : Rep w H) (hn : w.n < 65536) (o : Obj) : Rep ⟨T.set o 16 w.t w.n, w.n + 1⟩ (H.push o) := by
  refine ⟨T.ok_set o 16 _ _ h.ok, by simp [h.size], fun j hj => ?_, hn⟩
  show (T.set o 16 w.t w.n).get j = _
  rw [T.get_set o 16 w.t w.n j h.ok (by omega) (by omega), Array.getElem?_push, h.get j hj, h.size]

/-- A block of the small world. -/
noncomputable def TW.blk (w : TW) (k : Nat) : Option Obj := match Nat.blt k 65536 with | true => w.t.get k | false => none
theorem Rep.blk {w : TW} {H : Array Obj} (h : Rep w H) {k : Nat} {o : Obj} (hk : w.blk k = some o) : H[k]? = some o ∧ k < w.n := by
  unfold TW.blk at hk
  split at hk
  · rename_i hb
    rw [h.get k (by simpa [Nat.blt_eq] using hb)] at hk
    exact ⟨hk, by rw [← h.size]; exact (Array.getElem?_eq_some_iff.1 hk).1⟩
  · cases hk
noncomputable def TW.setK {β : Type} (w : TW) (k : Nat) (o : Obj) (c : TW → β) : β := T.setK o 16 w.t k fun t => c ⟨t, w.n⟩
noncomputable def TW.pushK {β : Type} (w : TW) (o : Obj) (c : TW → β) : β := forceObj o fun o => T.setK o 16 w.t w.n fun t => forceNat (w.n + 1) fun n => c ⟨t, n⟩

/-- The interpreter. -/
noncomputable def runW {α : Type} (P : Program) : Sem α → TW → Option (α × TW)
  | .pure a, w => some (a, w)
  | .load _ a k, w => match a with
    | ⟨b, i, none⟩ => match w.blk b with
      | some (.cells ⟨cs⟩ _ _) => match nthL cs i with
        | some v => runW P (k v) w
        | none => none
      | _ => none
    | _ => none
  | .store _ a v k, w => match Value.plainCell v, a with
    | true, ⟨b, i, none⟩ => match w.blk b with
      | some (.cells ⟨cs⟩ e (lo, hi)) => match Nat.ble lo i && Nat.blt i hi, nthL cs i with
        | false, some _ => forceV 20 v fun v => forceNat i fun i => setLK v cs i fun cs => w.setK b (.cells ⟨cs⟩ e (lo, hi)) fun w => runW P k w
        | _, _ => none
      | _ => none
    | _, _ => none
  | .new o k, w => match Nat.blt w.n 65536 with
    | true => w.pushK o fun w' => runW P (k w.n) w'
    | false => none
  | .getObj r k, w => match w.blk r with
    | some (.cells ..) => none
    | some o => runW P (k o) w
    | none => none
  | .setObj r o k, w => match w.blk r with
    | some (.cells ..) => none
    | some _ => forceObj o fun o => w.setK r o fun w => runW P k w
    | none => none
  | .choose q k, w => match q.forced with
    | true => runW P (k 0) w
    | false => none
  | .program k, w => runW P (k P) w
  | .mark _ k, w => runW P k w
  | _, _ => none

theorem runW_sound {α : Type} {P : Program} {s : Sem α} : ∀ {w w' : TW} {a : α}, runW P s w = some (a, w') → ∀ {u : World}, Rep w u.heap → ∃ u', s.run P u = .ok a u' ∧ Rep w' u'.heap := by
  induction s with
  | pure a => intro w w' b h u hu; cases h; exact ⟨u, rfl, hu⟩
  | load m a k ih =>
    intro w w' b h u hu
    unfold runW at h
    split at h <;> first | (cases h; done) | skip
    rename_i bl i
    split at h <;> first | (cases h; done) | skip
    rename_i cs e f hb
    split at h <;> first | (cases h; done) | skip
    rename_i v hv
    obtain ⟨h1, h2⟩ := hu.blk hb
    obtain ⟨u', r1, r2⟩ := ih v h hu
    refine ⟨u', ?_, r2⟩
    have hc : u.cell? ⟨bl, i, none⟩ = some v := by
      rw [nthL_eq] at hv
      simp [World.cell?, h1, hv]
    unfold Sem.run
    rw [hc]; exact r1
  | store m a v k ih =>
    intro w w' b h u hu
    unfold runW at h
    split at h <;> first | (cases h; done) | skip
    rename_i bl i hp
    split at h <;> first | (cases h; done) | skip
    rename_i cs e lo hi hb
    split at h <;> first | (cases h; done) | skip
    rename_i v0 hf hv
    simp only [forceV_eq, forceNat_eq, setLK_eq, TW.setK, T.setK_eq] at h
    obtain ⟨h1, h2⟩ := hu.blk hb
    rw [nthL_eq] at hv
    have hc : u.cell? ⟨bl, i, none⟩ = some v0 := by simp [World.cell?, h1, hv]
    have hfr : u.frozen? ⟨bl, i, none⟩ = false := by
      simp only [World.frozen?, h1]
      cases ha : (decide (lo ≤ i) && decide (i < hi)) with
      | false => rfl
      | true =>
        simp only [Bool.and_eq_true, decide_eq_true_eq] at ha
        have : (Nat.ble lo i && Nat.blt i hi) = true := by
          rw [Bool.and_eq_true]; exact ⟨Nat.ble_eq_true_of_le ha.1, by rw [Nat.blt_eq]; exact ha.2⟩
        rw [this] at hf; cases hf
    rw [run_store_of hp hc hfr]
    have hheap : (u.setCell ⟨bl, i, none⟩ v).heap = u.heap.setIfInBounds bl (.cells ⟨cs.set i v⟩ e (lo, hi)) := by
      rw [setCell_heap u bl i v h1]
      simp
    exact ih h (by rw [hheap]; exact hu.set h2 _)
  | new o k ih =>
    intro w w' b h u hu
    unfold runW at h
    split at h <;> first | (cases h; done) | skip
    rename_i hn
    simp only [TW.pushK, forceObj_eq, T.setK_eq, forceNat_eq] at h
    obtain ⟨u', r1, r2⟩ := ih w.n h (u := { u with heap := u.heap.push o }) (hu.push (by simpa [Nat.blt_eq] using hn) o)
    refine ⟨u', ?_, r2⟩
    show (k u.heap.size).run P { u with heap := u.heap.push o } = _
    rw [hu.size]; exact r1
  | shape => intro w w' b h; unfold runW at h; cases h
  | freeze => intro w w' b h; unfold runW at h; cases h
  | frozen => intro w w' b h; unfold runW at h; cases h
  | getObj r k ih =>
    intro w w' b h u hu
    unfold runW at h
    split at h <;> first | (cases h; done) | skip
    rename_i o hne hb
    obtain ⟨h1, h2⟩ := hu.blk hb
    obtain ⟨u', r1, r2⟩ := ih o h hu
    refine ⟨u', ?_, r2⟩
    unfold Sem.run
    rw [h1]
    cases o <;> first | exact r1 | exact absurd rfl (hne _ _ _)
  | setObj r o k ih =>
    intro w w' b h u hu
    unfold runW at h
    split at h <;> first | (cases h; done) | skip
    rename_i o2 hne hb
    simp only [forceObj_eq, TW.setK, T.setK_eq] at h
    obtain ⟨h1, h2⟩ := hu.blk hb
    obtain ⟨u', r1, r2⟩ := ih h (u := { u with heap := u.heap.setIfInBounds r o }) (hu.set h2 o)
    refine ⟨u', ?_, r2⟩
    unfold Sem.run
    rw [h1]
    cases o2 <;> first | exact r1 | exact absurd rfl (hne _ _ _)
  | choose q k ih =>
    intro w w' b h u hu
    unfold runW at h
    split at h <;> first | (cases h; done) | skip
    rename_i hq
    obtain ⟨u', r1, r2⟩ := ih 0 h hu
    refine ⟨u', ?_, r2⟩
    unfold Sem.run
    rw [if_pos hq]; exact r1
  | sys => intro w w' b h; unfold runW at h; cases h
  | program k ih => intro w w' b h u hu; exact ih P h hu
  | mark m k ih => intro w w' b h u hu; exact ih h hu
  | halt => intro w w' b h; unfold runW at h; cases h
end Go.Ev
namespace Go.Ev
open Go.RowKit
set_option linter.unusedVariables false
set_option linter.unusedSimpArgs false

noncomputable def exactT (w : TW) (k : Nat) : Bool := match w.blk k with
  | some (.cells _ _ f) => f == (0, 0)
  | _ => false
noncomputable def cutT (w : TW) (ρ : Operand → Value) (o : Oper) : Bool := match o.op with
  | .slice _ x lo _ _ => match ρ x with
    | .slice (some a) _ _ => exactT w a.block || zeroV (lo.map ρ)
    | .pointer (some a) => exactT w a.block
    | _ => true
  | _ => true
theorem exactT_ref {w : TW} {H : Array Obj} (h : Rep w H) {k : Nat} (hk : exactT w k = true) : exactB H k = true := by
  unfold exactT at hk
  split at hk
  · rename_i c e f hb
    unfold exactB
    rw [(h.blk hb).1]
    exact hk
  · cases hk
theorem cutT_ref {w : TW} {H : Array Obj} (h : Rep w H) {ρ : Operand → Value} {o : Oper} (hk : cutT w ρ o = true) : cutB H ρ o = true := by
  unfold cutT at hk
  unfold cutB
  split
  · rename_i hop
    rw [hop] at hk
    dsimp only at hk
    split
    · rename_i hx
      rw [hx] at hk
      simp only [Bool.or_eq_true] at hk ⊢
      exact hk.imp (exactT_ref h) id
    · rename_i hx
      rw [hx] at hk
      exact exactT_ref h hk
    · rfl
  · rfl

noncomputable def lookT (P : Program) (w : TW) (t : TypeId) (m key : Value) (ok : Bool) : Option Value :=
  match P.underlying t with
  | some (.map kt et) =>
    match (match m with | .map none => some #[] | .map (some k) => (match w.blk k with | some (.map es _) => some es | _ => none) | _ => none) with
    | some es => match findB P kt key es.isEmpty es with
      | some (some (_, v)) => some (if ok then .tuple #[v, .bool true] else v)
      | some none => match P.info? et with
        | some i => match i.zero with
          | some z => if AFb 10 z then some (if ok then .tuple #[z, .bool false] else z) else none
          | none => none
        | none => none
      | none => none
    | none => none
  | _ => none
theorem lookT_ref {P : Program} {w : TW} {H : Array Obj} (h : Rep w H) {t : TypeId} {m key v : Value} {ok : Bool} (hl : lookT P w t m key ok = some v) : lookB P H t m key ok = some v := by
  unfold lookT at hl
  unfold lookB
  split at hl <;> first | (cases hl; done) | skip
  rename_i kt et hu
  rw [hu]
  cases m with
  | map r =>
    cases r with
    | none => exact hl
    | some k =>
      dsimp only at hl ⊢
      cases hb : w.blk k with
      | none => rw [hb] at hl; cases hl
      | some o =>
        rw [hb] at hl
        rw [(h.blk hb).1]
        exact hl
  | _ => exact hl

noncomputable def updT (P : Program) (w : TW) (t : TypeId) (m key v : Value) : Option TW :=
  match P.underlying t, m with
  | some (.map kt _), .map (some k) => match w.blk k with
    | some (.map es c) => match findB P kt key false es with
      | some (some (i, _)) => match es[i]? with
        | some e => if AFb 10 e.key && Instr.sameBits 10000 e.key key then forceObj (.map (es.modify i fun e => { e with key := key, val := v }) c) fun o => w.setK k o some else none
        | none => none
      | some none => forceObj (.map (es.push { key, val := v, born := c }) (c + 1)) fun o => w.setK k o some
      | none => none
    | _ => none
  | _, _ => none
theorem updT_ref {P : Program} {w w' : TW} {H : Array Obj} (h : Rep w H) {t : TypeId} {m key v : Value} (hl : updT P w t m key v = some w') : ∃ H', updB P H t m key v = some H' ∧ Rep w' H' := by
  unfold updT at hl
  unfold updB
  split at hl <;> first | (cases hl; done) | skip
  rename_i kt et k hu
  rw [hu]
  dsimp only
  split at hl <;> first | (cases hl; done) | skip
  rename_i es c hb
  obtain ⟨h1, h2⟩ := h.blk hb
  rw [h1]
  dsimp only
  split at hl <;> first | (cases hl; done) | skip
  · rename_i i u hf
    rw [hf]
    dsimp only
    split at hl <;> first | (cases hl; done) | skip
    rename_i e he
    rw [he]
    dsimp only
    split at hl <;> first | (cases hl; done) | skip
    rename_i hc
    rw [if_pos hc]
    simp only [forceObj_eq, TW.setK, T.setK_eq, Option.some.injEq] at hl
    subst hl
    exact ⟨_, rfl, h.set h2 _⟩
  · rename_i hf
    rw [hf]
    simp only [forceObj_eq, TW.setK, T.setK_eq, Option.some.injEq] at hl
    subst hl
    exact ⟨_, rfl, h.set h2 _⟩
noncomputable def delT (P : Program) (w : TW) (t : TypeId) (m key : Value) : Option TW :=
  match P.underlying t, m with
  | some (.map kt _), .map (some k) => match w.blk k with
    | some (.map es c) => match findB P kt key es.isEmpty es with
      | some (some (i, _)) => forceObj (.map (es.eraseIdxIfInBounds i) c) fun o => w.setK k o some
      | some none => forceObj (.map es c) fun o => w.setK k o some
      | none => none
    | _ => none
  | _, _ => none
theorem delT_ref {P : Program} {w w' : TW} {H : Array Obj} (h : Rep w H) {t : TypeId} {m key : Value} (hl : delT P w t m key = some w') : ∃ H', delB P H t m key = some H' ∧ Rep w' H' := by
  unfold delT at hl
  unfold delB
  split at hl <;> first | (cases hl; done) | skip
  rename_i kt et k hu
  rw [hu]
  dsimp only
  split at hl <;> first | (cases hl; done) | skip
  rename_i es c hb
  obtain ⟨h1, h2⟩ := h.blk hb
  rw [h1]
  dsimp only
  split at hl <;> first | (cases hl; done) | skip
  · rename_i i u hf
    rw [hf]
    simp only [forceObj_eq, TW.setK, T.setK_eq, Option.some.injEq] at hl
    subst hl
    exact ⟨_, rfl, h.set h2 _⟩
  · rename_i hf
    rw [hf]
    simp only [forceObj_eq, TW.setK, T.setK_eq, Option.some.injEq] at hl
    subst hl
    exact ⟨_, rfl, h.set h2 _⟩

noncomputable def killT (w : TW) (size : Nat) (elem : TypeId) : Option Addr → Option TW
  | none => some w
  | some a => match w.blk a.block with
    | some (.cells _ e f) => if f == (0, 0) then some w else if f == (size + 2, 1) && a.off == 0 && a.spot.isNone && e == elem then w.setK a.block dead some else none
    | _ => none
theorem killT_ref {w w' : TW} {H : Array Obj} (h : Rep w H) {size : Nat} {elem : TypeId} {base : Option Addr} (hl : killT w size elem base = some w') : ∃ H', killB H size elem base = some H' ∧ Rep w' H' := by
  cases base with
  | none => cases hl; exact ⟨H, rfl, h⟩
  | some a =>
    unfold killT at hl
    unfold killB
    dsimp only at hl ⊢
    split at hl <;> first | (cases hl; done) | skip
    rename_i cs e f hb
    obtain ⟨h1, h2⟩ := h.blk hb
    rw [h1]
    dsimp only
    split at hl
    · rename_i hf
      cases hl
      rw [if_pos hf]
      exact ⟨H, rfl, h⟩
    · rename_i hf
      rw [if_neg hf]
      split at hl
      · rename_i hc
        rw [if_pos hc]
        simp only [TW.setK, T.setK_eq, Option.some.injEq] at hl
        subst hl
        exact ⟨_, rfl, h.set h2 _⟩
      · cases hl
noncomputable def growT (P : Program) (w : TW) (ts : Array TypeId) (s x : Value) : Option (Value × TW) :=
  match ts[0]?, ts[1]?, s, lenV x with
  | some t0, some t1, .slice base sLen sCap, some n =>
    match P.underlying t0, P.underlying t1 with
    | some (.slice elem), some d1 =>
      match P.info? elem with
      | some i => match i.zero with
        | some z =>
          if notInt d1 && decide (sCap < sLen + n) && decide (sLen + n < 256) && decide (i.bytes ≤ 1073741824) && z.cells.size == i.size && zeroOk P elem then
            match runW P (Builtin.firstCells i.size sLen s) w, runW P (Builtin.firstCells i.size n x) w, killT w i.size elem base with
            | some (old, _), some (new, _), some w' =>
              if old.size == sLen * i.size && new.size == n * i.size && new.toList.all Value.plainCell then
                match Nat.blt w'.n 65536 with
                | true => w'.pushK (.cells (old ++ new) elem (i.size + 2, 1)) fun w2 => some (.slice (some ⟨w'.n, 0, none⟩) (sLen + n) (sLen + n), w2)
                | false => none
              else none
            | _, _, _ => none
          else none
        | none => none
      | none => none
    | _, _ => none
  | _, _, _, _ => none
theorem growT_ref {P : Program} {w w' : TW} {u : World} (h : Rep w u.heap) {ts : Array TypeId} {s x v : Value} (hl : growT P w ts s x = some (v, w')) : ∃ H', growB P u.heap u ts s x = some (v, H') ∧ Rep w' H' := by
  unfold growT at hl
  unfold growB
  split at hl <;> first | (cases hl; done) | skip
  rename_i t0 t1 base sLen sCap n h0 h1 hlen
  rw [h0, h1, hlen]
  dsimp only
  split at hl <;> first | (cases hl; done) | skip
  rename_i elem d1 hu0 hu1
  rw [hu0, hu1]
  dsimp only
  split at hl <;> first | (cases hl; done) | skip
  rename_i i hi
  rw [hi]
  dsimp only
  split at hl <;> first | (cases hl; done) | skip
  rename_i z hz
  rw [hz]
  dsimp only
  split at hl <;> first | (cases hl; done) | skip
  rename_i hc
  rw [if_pos hc]
  split at hl <;> first | (cases hl; done) | skip
  rename_i old wo new wn w1 ho hn hk
  obtain ⟨u1, r1, _⟩ := runW_sound ho h
  obtain ⟨u2, r2, _⟩ := runW_sound hn h
  obtain ⟨H1, k1, k2⟩ := killT_ref h hk
  rw [r1, r2, k1]
  dsimp only
  split at hl <;> first | (cases hl; done) | skip
  rename_i hc2
  rw [if_pos hc2]
  split at hl <;> first | (cases hl; done) | skip
  rename_i hlt
  simp only [TW.pushK, forceObj_eq, T.setK_eq, forceNat_eq, Option.some.injEq, Prod.mk.injEq] at hl
  obtain ⟨rfl, rfl⟩ := hl
  have hsz : H1.size = u.heap.size := by
    have := k2.size
    cases base with
    | none => cases k1; rfl
    | some a =>
      unfold killB at k1
      dsimp only at k1
      split at k1
      · split at k1
        · cases k1; rfl
        · split at k1
          · cases k1; simp
          · cases k1
      · cases k1
  refine ⟨_, by rw [← hsz, k2.size], ?_⟩
  exact k2.push (by simpa [Nat.blt_eq] using hlt) _

abbrev SpecT := (Operand → Value) → Oper → TW → Option (Next × TW)
noncomputable def specA (P : Program) : SpecT := fun ρ o w => match o.op with
  | .lookup t m k ok => match lookT P w t (ρ m) (ρ k) ok with
    | some v => some (.value v, w)
    | none => none
  | .mapUpdate t m k v => match updT P w t (ρ m) (ρ k) (ρ v) with
    | some w' => some (.skip, w')
    | none => none
  | .insert t m k v => match updT P w t (ρ m) (ρ k) (ρ v) with
    | some w' => some (.skip, w')
    | none => none
  | .call ⟨.builtin .append, args, ts⟩ => match args.toList with
    | [s, x] => match growT P w ts (ρ s) (ρ x) with
      | some (v, w') => some (.value v, w')
      | none => match same0 P ts (ρ s) (ρ x) with
        | some v => some (.value v, w)
        | none => none
    | _ => none
  | .call ⟨.builtin .delete, args, ts⟩ => match args.toList, ts.toList with
    | [m, k], t :: _ => match delT P w t (ρ m) (ρ k) with
      | some w' => some (.value (.tuple #[]), w')
      | none => none
    | _, _ => none
  | _ => none
/-- The same, in the world of rows. -/
def SpecOkT (P : Program) (G : Gl) (sp : SpecT) : Prop := ∀ (ρ ρ' : Operand → Value) (o : Oper) (wa wa' : TW) (n : Next), sp ρ o wa = some (n, wa') → ∀ (B : FM) (w0 : World) (τ : Rel) (wr : World) (H : Array Obj), (∀ x ∈ o.op.operands, VR τ (ρ x) (ρ' x)) → Rep wa H → WR G B w0 τ H wr →
  ∃ τ' n' wr' H', τ.le τ' ∧ (execOp ρ' o).run P wr = .ok n' wr' ∧ NR τ' n n' ∧ Rep wa' H' ∧ WR G B w0 τ' H' wr'

theorem specA_ref {P : Program} {ρ : Operand → Value} {o : Oper} {w w' : TW} {n : Next} {u : World} (hl : specA P ρ o w = some (n, w')) (h : Rep w u.heap) : ∃ u', spec P ρ o u = some (n, u') ∧ Rep w' u'.heap := by
  unfold specA at hl
  unfold spec
  split at hl <;> first | (cases hl; done) | skip
  · rename_i t m k ok hop
    rw [hop]
    dsimp only
    split at hl <;> first | (cases hl; done) | skip
    rename_i v hv
    cases hl
    rw [lookT_ref h hv]
    exact ⟨u, rfl, h⟩
  · rename_i t m k v hop
    rw [hop]
    dsimp only
    split at hl <;> first | (cases hl; done) | skip
    rename_i w2 hv
    cases hl
    obtain ⟨H', e1, e2⟩ := updT_ref h hv
    rw [e1]
    exact ⟨_, rfl, e2⟩
  · rename_i t m k v hop
    rw [hop]
    dsimp only
    split at hl <;> first | (cases hl; done) | skip
    rename_i w2 hv
    cases hl
    obtain ⟨H', e1, e2⟩ := updT_ref h hv
    rw [e1]
    exact ⟨_, rfl, e2⟩
  · rename_i args ts hop
    rw [hop]
    dsimp only
    split at hl <;> first | (cases hl; done) | skip
    rename_i s x ha
    rw [ha]
    dsimp only
    split at hl
    · rename_i v w2 hg
      cases hl
      obtain ⟨H', e1, e2⟩ := growT_ref h hg
      rw [e1]
      exact ⟨_, rfl, e2⟩
    · split at hl <;> first | (cases hl; done) | skip
      rename_i v hs
      cases hl
      cases hq : growB P u.heap u ts (ρ s) (ρ x) with
      | none =>
        dsimp only
        rw [hs]
        exact ⟨u, rfl, h⟩
      | some r =>
        exfalso
        unfold same0 at hs
        unfold growB at hq
        split at hs <;> first | (cases hs; done) | skip
        rename_i t0 t1 base sLen sCap h0 h1 hsl hlen
        rw [h0, h1, hsl, hlen] at hq
        dsimp only at hq
        split at hs <;> first | (cases hs; done) | skip
        rename_i elem d1 hu0 hu1
        rw [hu0, hu1] at hq
        dsimp only at hq
        split at hs <;> first | (cases hs; done) | skip
        rename_i i hi
        rw [hi] at hq
        dsimp only at hq
        split at hs <;> first | (cases hs; done) | skip
        rename_i hc
        rw [Bool.and_eq_true, decide_eq_true_eq] at hc
        split at hq <;> first | (cases hq; done) | skip
        rw [if_neg (by
          intro hcc
          simp only [Bool.and_eq_true, decide_eq_true_eq] at hcc
          omega)] at hq
        cases hq
  · rename_i args ts hop
    rw [hop]
    dsimp only
    split at hl <;> first | (cases hl; done) | skip
    rename_i m k t rest ha ht
    rw [ha, ht]
    dsimp only
    split at hl <;> first | (cases hl; done) | skip
    rename_i w2 hg
    cases hl
    obtain ⟨H', e1, e2⟩ := delT_ref h hg
    rw [e1]
    exact ⟨_, rfl, e2⟩

def wOf (H : Array Obj) : World := { heap := H, tape := fun _ _ => 0, drawn := 0, os := default, output := #[] }
theorem specA_ok (P : Program) (G : Gl) : SpecOkT P G (specA P) := by
  intro ρ ρ' o wa wa' n h B w0 τ wr H hv hR hw
  obtain ⟨u', h1, h2⟩ := specA_ref (u := wOf H) h hR
  obtain ⟨τ', n', wr', l1, r1, r2, r3⟩ := spec_ok P G ρ ρ' o (wOf H) u' n h1 B w0 τ wr hv hw
  exact ⟨τ', n', wr', u'.heap, l1, r1, r2, h2, r3⟩

/-- A block more, that is only read. -/
theorem WR.newOld {G : Gl} {B : FM} {w0 : World} {τ : Rel} {H : Array Obj} {wr : World} {cs cs' : Array Value} {e e' : TypeId} {f : Nat × Nat} (q : Option (Nat × Nat)) (h : WR G B w0 τ H wr) (ho : LR τ cs cs') :
    ∃ τ' : Rel, τ.le τ' ∧ τ' H.size wr.heap.size q ∧ WR G B w0 τ' (H.push (oldB cs e)) { wr with heap := wr.heap.push (.cells cs' e' f) } := by
  refine ⟨⟨fun k r i => τ.r k r i ∨ (k = H.size ∧ r = wr.heap.size ∧ i = q), τ.s⟩, ⟨fun k r i x => .inl x, fun _ _ x => x⟩, .inr ⟨rfl, rfl, rfl⟩, ?_⟩
  have hle : τ.le (⟨fun k r i => τ.r k r i ∨ (k = H.size ∧ r = wr.heap.size ∧ i = q), τ.s⟩ : Rel) := ⟨fun k r i x => .inl x, fun _ _ x => x⟩
  have hnew : ¬ alive (H.push (oldB cs e)) H.size := by
    rintro ⟨u, hu, hl⟩
    simp at hu
    subst hu
    have := not_live_old cs e
    unfold oldB at this
    rw [this] at hl; cases hl
  have hal : ∀ k, k < H.size → alive (H.push (oldB cs e)) k → alive H k := by
    rintro k hk ⟨u, hu, hl⟩
    rw [Array.getElem?_push, if_neg (by omega)] at hu
    exact ⟨u, hu, hl⟩
  have hold : ∀ {j : Nat}, j < wr.heap.size → (wr.heap.push (.cells cs' e' f))[j]? = wr.heap[j]? := fun {j} hj => by rw [Array.getElem?_push, if_neg (by omega)]
  refine ⟨fun k u hk hu => ?_, ?_, ?_, ?_, ?_, ?_, fun g hg => .inl (h.glob g hg), h.kp.alloc _, h.sy⟩
  · rw [Array.getElem?_push] at hk
    by_cases he : k = H.size
    · rw [if_pos he] at hk
      cases hk
      rw [not_live_old] at hu; cases hu
    · rw [if_neg he] at hk
      obtain ⟨r, i, u', h1, h2, h3⟩ := h.blk k u hk hu
      refine ⟨r, i, u', .inl h1, ?_, h3.mono hle⟩
      show (wr.heap.push _)[r]? = _
      rw [hold (h.dom _ _ _ h1).2.1]; exact h2
  · rintro k r i r' i' (h1 | ⟨rfl, rfl, rfl⟩) (h2 | ⟨e, rfl, rfl⟩)
    · exact h.fn _ _ _ _ _ h1 h2
    · have := (h.dom _ _ _ h1).1; omega
    · have := (h.dom _ _ _ h2).1; omega
    · exact ⟨rfl, rfl⟩
  · rintro k k' r i i' (h1 | ⟨rfl, rfl, rfl⟩) (h2 | ⟨rfl, e, rfl⟩) l1 l2
    · exact h.inj _ _ _ _ _ h1 h2 (hal _ (h.dom _ _ _ h1).1 l1) (hal _ (h.dom _ _ _ h2).1 l2)
    · exact absurd l2 hnew
    · exact absurd l1 hnew
    · rfl
  · rintro k r i (h1 | ⟨rfl, rfl, rfl⟩)
    · have := h.dom _ _ _ h1
      refine ⟨by simp; omega, by simp; omega, fun l => this.2.2 (hal _ this.1 l)⟩
    · exact ⟨by simp, by simp, fun l => absurd l hnew⟩
  · intro k u hk
    rw [Array.getElem?_push] at hk
    by_cases he : k = H.size
    · rw [if_pos he] at hk; cases hk; exact .inr (.inr ⟨_, _, rfl⟩)
    · rw [if_neg he] at hk; exact h.ok k u hk
  · intro k cs2 e2 hk
    rw [Array.getElem?_push] at hk
    by_cases he : k = H.size
    · rw [if_pos he] at hk
      simp only [oldB, Option.some.injEq, Obj.cells.injEq] at hk
      obtain ⟨rfl, rfl, _⟩ := hk
      refine ⟨wr.heap.size, q, cs', e', f, .inr ⟨he, rfl, rfl⟩, by simp, ho.mono hle, ?_, .inr h.kp.new⟩
      rintro k' i' (g | ⟨rfl, _, rfl⟩) ha
      · have := (h.dom _ _ _ g).2.1; omega
      · exact hnew ha
    · rw [if_neg he] at hk
      obtain ⟨r, i, cs3, e3, f3, h1, h2, h3, h4, h5⟩ := h.old k cs2 e2 hk
      have hr := (h.dom _ _ _ h1).2.1
      refine ⟨r, i, cs3, e3, f3, .inl h1, ?_, h3.mono hle, ?_, h5⟩
      · show (wr.heap.push _)[r]? = _
        rw [hold hr]; exact h2
      · rintro k' i' (g | ⟨rfl, g, rfl⟩) ha
        · exact h4 k' i' g (hal _ (h.dom _ _ _ g).1 ha)
        · omega

/-- The bytes of a text, as cells. -/
def bytesL (s : ByteArray) : Array Value := ⟨s.data.toList.map fun b => .int .u8 b.toNat⟩
def bytesLoop (cs : Array Value) : Sem Value := do
  let mut s := ByteArray.empty
  for c in cs do
    let .int .u8 n := c | stuck "bytesToString: byte expected"
    s := s.push (UInt8.ofNat n.toNat)
  pure (.string s)
theorem bytesToString_eq (a : Addr) (l c : Nat) : Conv.bytesToString (.slice (some a) l c) = (do let cs ← loadCells a l; bytesLoop cs) := rfl
noncomputable def convT (P : Program) (w : TW) (src dst : TypeId) (x : Value) : Option (Value × TW) :=
  match P.underlying src, P.underlying dst, x with
  | some us, some (.slice e), .string s => match P.underlying e with
    | some (.int .u8) => match Nat.blt w.n 65536 with
      | true => w.pushK (oldB (bytesL s) e) fun w2 => some (.slice (some ⟨w.n, 0, none⟩) s.size s.size, w2)
      | false => none
    | _ => none
  | some (.slice e), some .string, .slice none l c => match P.underlying e with
    | some (.int .u8) => some (.string .empty, w)
    | _ => none
  | some (.slice e), some .string, .slice (some a) l c => match P.underlying e with
    | some (.int .u8) => match runW P (loadCells a l) w with
      | some (cs, _) => match cs.toList.all (AFb 10), still P (bytesLoop cs) with
        | true, some v => match AFb 10 v with | true => some (v, w) | false => none
        | _, _ => none
      | none => none
    | _ => none
  | _, _, _ => none
theorem ro_loadCellsFrom (a : Addr) : ∀ (n i : Nat) (acc : Array Value), RO (loadCellsFrom a i n acc)
  | 0, i, acc => .pure _
  | n + 1, i, acc => RO.then (.load _ _ _ (fun v => .pure v)) (fun v => ro_loadCellsFrom a n (i + 1) _)
theorem run_stringToBytes {P : Program} (e : TypeId) (s : ByteArray) (w : World) : ∃ cap cs f d, s.size ≤ cap ∧ (∀ (i : Nat) (v : Value), (bytesL s)[i]? = some v → cs[i]? = some v) ∧ cs.size = cap ∧
    (Conv.stringToBytes e s).run P w = .ok (.slice (some ⟨w.heap.size, 0, none⟩) s.size cap) { w with drawn := d, heap := w.heap.push (.cells cs e f) } := by
  obtain ⟨cap, hcap⟩ : ∃ cap, cap = (Question.appendCap s.size 0 e).cut (w.tape w.drawn (Question.appendCap s.size 0 e)) := ⟨_, rfl⟩
  have hle : s.size ≤ cap := by rw [hcap]; exact Nat.le_add_right _ _
  have hsz : (s.data.map fun b => Value.int .u8 (b.toNat : Int)).size = s.size := by rw [Array.size_map]; rfl
  refine ⟨cap, (s.data.map fun b => Value.int .u8 b.toNat) ++ Array.replicate (cap - s.size) (.int .u8 0), (((s.data.map fun b => Value.int .u8 (b.toNat : Int)) ++ Array.replicate (cap - s.size) (Value.int .u8 0)).size, ((s.data.map fun b => Value.int .u8 (b.toNat : Int)) ++ Array.replicate (cap - s.size) (Value.int .u8 0)).size + 1), w.drawn + 1, hle, ?_, ?_, ?_⟩
  · intro i v hv
    have hb : bytesL s = s.data.map fun b => Value.int .u8 (b.toNat : Int) := by unfold bytesL; rw [← Array.toList_map]
    rw [hb] at hv
    have hi := (Array.getElem?_eq_some_iff.1 hv).1
    rw [Array.getElem?_append, if_pos hi]; exact hv
  · rw [Array.size_append, hsz, Array.size_replicate]; omega
  · have hch : ∀ w : World, (choose (Question.appendCap s.size 0 e)).run P w = .ok ((Question.appendCap s.size 0 e).cut (w.tape w.drawn (Question.appendCap s.size 0 e))) w.drew := fun w => rfl
    have hnr : ∀ (xs : Array Value) (w : World), (newRow e xs).run P w = .ok ⟨w.heap.size, 0, none⟩ { w with heap := w.heap.push (.cells xs e) } := fun xs w => by simp [newRow, newObj, Sem.run]
    have hms : ∀ (xs : Array Value) (w : World), (markStringish ⟨w.heap.size, 0, none⟩).run P { w with heap := w.heap.push (.cells xs e) } = .ok () { w with heap := w.heap.push (.cells xs e (xs.size, xs.size + 1)) } := by
      intro xs w
      have hsh : World.shape? { w with heap := w.heap.push (.cells xs e) } w.heap.size = some (e, xs.size) := by simp [World.shape?]
      simp only [markStringish, Sem.run_bind, shape, freeze, Sem.run, hsh, Result.andThen_ok]
      congr 1
      unfold World.freeze
      rw [if_neg (by decide)]
      congr 1
      apply Array.ext_getElem?
      intro j
      simp only [Array.getElem?_modify, Array.getElem?_push]
      by_cases hj : j = w.heap.size
      · subst hj; simp
      · rw [if_neg (fun x => hj x.symm), if_neg hj, if_neg hj]
    simp only [Conv.stringToBytes, Sem.run_bind, hch, Result.andThen_ok, hnr, ← hcap]
    rw [show w.drew.heap = w.heap from rfl]
    have := hms ((s.data.map fun b => Value.int .u8 (b.toNat : Int)) ++ Array.replicate (cap - s.size) (Value.int .u8 0)) w.drew
    rw [show w.drew.heap = w.heap from rfl] at this
    rw [this]
    rfl
theorem convT_ok {P : Program} {G : Gl} {B : FM} {w0 : World} {τ : Rel} {wa wa' : TW} {wr : World} {H : Array Obj} {src dst : TypeId} {x x' v : Value} (h : convT P wa src dst x = some (v, wa')) (hx : VR τ x x') (hR : Rep wa H) (hw : WR G B w0 τ H wr) :
    ∃ τ' v' wr' H', τ.le τ' ∧ (convert src dst x').run P wr = .ok v' wr' ∧ VR τ' v v' ∧ Rep wa' H' ∧ WR G B w0 τ' H' wr' := by
  unfold convT at h
  split at h <;> first | (cases h; done) | skip
  · rename_i us e s h1 h2
    split at h <;> first | (cases h; done) | skip
    rename_i h3
    split at h <;> first | (cases h; done) | skip
    rename_i hn
    simp only [TW.pushK, forceObj_eq, T.setK_eq, forceNat_eq, Option.some.injEq, Prod.mk.injEq] at h
    obtain ⟨rfl, rfl⟩ := h
    cases hx
    obtain ⟨cap, cs, f, d, c1, c2, c3, c4⟩ := run_stringToBytes (P := P) e s wr
    obtain ⟨τ', l1, t1, w1⟩ := (hw.drewn d).newOld (cs := bytesL s) (cs' := cs) (e := e) (e' := e) (f := f) (some (cap, 1)) (fun i v hv => ⟨v, c2 i v hv, AFb.vr 10 v (by
      unfold bytesL at hv
      simp only [List.getElem?_toArray, List.getElem?_map, Option.map_eq_some_iff] at hv
      obtain ⟨b, _, rfl⟩ := hv
      rfl)⟩)
    refine ⟨τ', .slice (some ⟨wr.heap.size, 0, none⟩) s.size cap, _, _, l1, ?_, ?_, hR.push (by simpa [Nat.blt_eq] using hn) _, w1⟩
    · simp only [convert, Sem.run_bind, run_underlying h1, run_underlying h2, Result.andThen_ok]
      cases us <;> (simp only [Sem.run_bind, run_underlying h3, Result.andThen_ok]; exact c4)
    · rw [hR.size] at t1
      exact .sl _ _ 0 _ _ _ _ t1 ⟨c1, by simp⟩
  · rename_i e l c h1 h2
    split at h <;> first | (cases h; done) | skip
    rename_i h3
    cases h
    cases hx
    refine ⟨τ, .string .empty, wr, H, Rel.le.refl _, ?_, .string _, hR, hw⟩
    simp only [convert, Sem.run_bind, run_underlying h1, run_underlying h2, Result.andThen_ok, run_underlying h3]
    rfl
  · rename_i e a l c h1 h2
    split at h <;> first | (cases h; done) | skip
    rename_i h3
    split at h <;> first | (cases h; done) | skip
    rename_i cs wl hl
    split at h <;> first | (cases h; done) | skip
    rename_i v2 hall hst
    split at h <;> first | (cases h; done) | skip
    rename_i hav
    cases h
    cases hx with
    | sl k r o _ _ c' ii ht hcap =>
      obtain ⟨u', r1, r2⟩ := runW_sound hl (u := wOf H) hR
      obtain ⟨τ', b, wr', l1, q1, q2, q3⟩ := (sim_loadCellsFrom (P := P) l 0 (a := ⟨k, o, none⟩) (b := ⟨r, o, none⟩) ⟨k, r, o, ii, rfl, rfl, ht⟩ (AR.nil τ)).run (wa := wOf H) hw r1
      have e1 : b = cs := by
        refine (arr_eq q2.1 fun i v v' a b => AFb.eq 10 v v' (List.all_eq_true.1 hall v ?_) (q2.2 i v v' a b)).symm
        exact List.mem_of_getElem? (by rw [Array.getElem?_toList]; exact a)
      subst e1
      have e2 := (ro_loadCellsFrom ⟨r, o, none⟩ l 0 #[]).same q1
      subst e2
      refine ⟨τ, v, wr', H, Rel.le.refl _, ?_, AFb.vr 10 v hav, hR, hw⟩
      simp only [convert, Sem.run_bind, run_underlying h1, run_underlying h2, Result.andThen_ok, run_underlying h3, bytesToString_eq]
      have hlc : (loadCells ⟨r, o, none⟩ l).run P wr' = .ok b wr' := q1
      rw [hlc, Result.andThen_ok]
      exact still_run _ hst wr'
theorem ER.modify2 {τ : Rel} {es fs : Array MapEntry} (h : ER τ es fs) (j : Nat) {F F' : MapEntry → MapEntry} (hF : ∀ e f : MapEntry, VR τ e.key f.key → VR τ e.val f.val → e.born = f.born → VR τ (F e).key (F' f).key ∧ VR τ (F e).val (F' f).val ∧ (F e).born = (F' f).born) : ER τ (es.modify j F) (fs.modify j F') := by
  refine ⟨by simp [h.1], fun i a b ha hb => ?_⟩
  rw [Array.getElem?_modify] at ha hb
  by_cases hi : j = i
  · rw [if_pos hi] at ha hb
    cases h1 : es[i]? with
    | none => rw [h1] at ha; cases ha
    | some e =>
      cases h2 : fs[i]? with
      | none => rw [h2] at hb; cases hb
      | some f =>
        rw [h1] at ha; rw [h2] at hb
        cases ha; cases hb
        obtain ⟨q1, q2, q3⟩ := h.2 i e f h1 h2
        exact hF e f q1 q2 q3
  · rw [if_neg hi] at ha hb
    exact h.2 i a b ha hb
theorem ER.born {τ : Rel} {es fs : Array MapEntry} (h : ER τ es fs) : es.map (·.born) = fs.map (·.born) := by
  apply Array.ext_getElem?
  intro i
  rw [Array.getElem?_map, Array.getElem?_map]
  cases h1 : es[i]? with
  | none =>
    have : fs[i]? = none := by
      rw [Array.getElem?_eq_none_iff] at h1 ⊢; rw [← h.1]; exact h1
    rw [this]
  | some e =>
    have hi := (Array.getElem?_eq_some_iff.1 h1).1
    have hi2 : i < fs.size := by rw [← h.1]; exact hi
    have h2 := Array.getElem?_eq_getElem hi2
    rw [h2]
    simp [(h.2 i e _ h1 h2).2.2]
theorem ER.idx {τ : Rel} {es fs : Array MapEntry} (h : ER τ es fs) (n : Int) : es.findIdx? (fun e => (e.born : Int) == n) = fs.findIdx? (fun e => (e.born : Int) == n) := by
  have h1 := Array.findIdx?_map (f := (·.born)) (xs := es) (p := fun (b : Nat) => (b : Int) == n)
  have h2 := Array.findIdx?_map (f := (·.born)) (xs := fs) (p := fun (b : Nat) => (b : Int) == n)
  rw [h.born, h2] at h1
  exact h1.symm
/-- An entry of a map, for an assignment to come. -/
noncomputable def entT (P : Program) (w : TW) (t : TypeId) (m key : Value) : Option (Value × TW) :=
  match P.underlying t, m with
  | some (.map kt et), .map (some k) => match w.blk k with
    | some (.map es c) => match findB P kt key false es with
      | some (some (i, v)) => match es[i]? with
        | some e => if AFb 10 e.key && Instr.sameBits 10000 e.key key then forceObj (.map (es.modify i fun e => { e with key := key }) c) fun o => w.setK k o fun w' => some (.tuple #[v, goInt e.born], w') else none
        | none => none
      | some none => match P.info? et with
        | some inf => match inf.zero with
          | some z => if AFb 10 z then forceObj (.map (es.push { key, val := z, born := c }) (c + 1)) fun o => w.setK k o fun w' => some (.tuple #[z, goInt c], w') else none
          | none => none
        | none => none
      | none => none
    | _ => none
  | _, _ => none
theorem run_ent {P : Program} {w : World} {t kt et : TypeId} {key : Value} {fs : Array MapEntry} {c r : Nat} (hu : P.underlying t = some (.map kt et)) (hr : w.heap[r]? = some (.map fs c)) (hc : ∀ w, (Instr.checkKey false 10000 kt key).run P w = .ok () w) {q : Option (Nat × Value)} (hf : ∀ w, (Instr.findKey kt key fs.toList).run P w = .ok q w)
    (hs : ∀ i u, q = some (i, u) → Instr.sameBits 10000 (((fs[i]?).map (·.key)).getD key) key = true) {inf : TypeInfo} {z : Value} (hz : q = none → P.info? et = some inf ∧ inf.zero = some z) :
    (Instr.mapEntry t (.map (some r)) key).run P w = match q with
      | some (i, v) => .ok (.tuple #[v, goInt (((fs[i]?).map (·.born)).getD 0)]) { w with heap := w.heap.setIfInBounds r (.map (fs.modify i fun e => { e with key := key }) c) }
      | none => .ok (.tuple #[z, goInt c]) { w with heap := w.heap.setIfInBounds r (.map (fs.push { key, val := z, born := c }) (c + 1)) } := by
  simp only [Instr.mapEntry, Sem.run_bind, run_underlying hu, Result.andThen_ok, getObj, Sem.run, hr, hc, hf]
  cases q with
  | none =>
    obtain ⟨h1, h2⟩ := hz rfl
    simp only [Sem.run_bind, run_zero h1 h2, Result.andThen_ok, run_setObj hr]
    rfl
  | some x =>
    obtain ⟨i, u⟩ := x
    have := hs i u rfl
    simp only [Instr.keyThatStays, this, if_true, Sem.run_bind, Sem.run_pure, Result.andThen_ok, run_setObj hr]
theorem entT_ok {P : Program} {G : Gl} {B : FM} {w0 : World} {τ : Rel} {wa wa' : TW} {wr : World} {H : Array Obj} {t : TypeId} {m m' key key' v : Value} (h : entT P wa t m key = some (v, wa')) (hm : VR τ m m') (hk : VR τ key key') (hR : Rep wa H) (hw : WR G B w0 τ H wr) :
    ∃ v' wr' H', (Instr.mapEntry t m' key').run P wr = .ok v' wr' ∧ VR τ v v' ∧ Rep wa' H' ∧ WR G B w0 τ H' wr' := by
  unfold entT at h
  split at h <;> first | (cases h; done) | skip
  rename_i kt et k hu
  split at h <;> first | (cases h; done) | skip
  rename_i es c hb
  obtain ⟨h1, h2⟩ := hR.blk hb
  cases hm with
  | map _ r i ht =>
    obtain ⟨fs, e1, her, rfl⟩ := hw.map ht h1
    split at h <;> first | (cases h; done) | skip
    · rename_i j u hq
      obtain ⟨rfl, hak, hcc, q', hff, hr⟩ := findB_spec hq hk her
      cases q' with
      | none => exact hr.elim
      | some x =>
        obtain ⟨j', u'⟩ := x
        obtain ⟨rfl, huu⟩ := hr
        split at h <;> first | (cases h; done) | skip
        rename_i e hej
        split at h <;> first | (cases h; done) | skip
        rename_i hsb
        rw [Bool.and_eq_true] at hsb
        simp only [forceObj_eq, TW.setK, T.setK_eq, Option.some.injEq, Prod.mk.injEq] at h
        obtain ⟨rfl, rfl⟩ := h
        have hfj : ∃ f, fs[j]? = some f ∧ f.key = e.key ∧ f.born = e.born := by
          have hj := (Array.getElem?_eq_some_iff.1 hej).1
          have hj2 : j < fs.size := by rw [← her.1]; exact hj
          have e2 := Array.getElem?_eq_getElem hj2
          exact ⟨_, e2, (AFb.eq _ _ _ hsb.1 (her.2 j e _ hej e2).1).symm, (her.2 j e _ hej e2).2.2.symm⟩
        obtain ⟨f, hfj, hfk, hfb⟩ := hfj
        have hrun := run_ent (P := P) (inf := default) (z := undef) hu e1 hcc hff (fun i u hiu => by
          cases hiu
          rw [hfj]
          simpa [hfk] using hsb.2) (fun hh => by cases hh)
        refine ⟨_, _, _, hrun, ?_, hR.set h2 _, hw.putMap ht h1 (her.modify2 j fun e f q1 q2 q3 => ⟨hk, q2, q3⟩)⟩
        rw [hfj]
        simp only [Option.map_some, Option.getD_some, hfb]
        exact VR.tuple_ (((AR.nil τ).push huu).push (.int _ _))
    · rename_i hq
      obtain ⟨rfl, hak, hcc, q', hff, hr⟩ := findB_spec hq hk her
      cases q' with
      | some x => exact hr.elim
      | none =>
        split at h <;> first | (cases h; done) | skip
        rename_i inf hinf
        split at h <;> first | (cases h; done) | skip
        rename_i z hz
        split at h <;> first | (cases h; done) | skip
        rename_i hza
        simp only [forceObj_eq, TW.setK, T.setK_eq, Option.some.injEq, Prod.mk.injEq] at h
        obtain ⟨rfl, rfl⟩ := h
        have hrun := run_ent (P := P) hu e1 hcc hff (fun i u hiu => by cases hiu) (fun _ => ⟨hinf, hz⟩)
        refine ⟨_, _, _, hrun, ?_, hR.set h2 _, hw.putMap ht h1 (her.push hk (AFb.vr _ _ hza) rfl)⟩
        exact VR.tuple_ (((AR.nil τ).push (AFb.vr _ _ hza)).push (.int _ _))
noncomputable def estT (w : TW) (m s v : Value) : Option TW := match m, s with
  | .map (some k), .int _ n => match w.blk k with
    | some (.map es c) => match es.findIdx? (fun e => (e.born : Int) == n) with
      | some i => forceObj (.map (es.modify i fun e => { e with val := v }) c) fun o => w.setK k o some
      | none => none
    | _ => none
  | _, _ => none
theorem estT_ok {P : Program} {G : Gl} {B : FM} {w0 : World} {τ : Rel} {wa wa' : TW} {wr : World} {H : Array Obj} {t : TypeId} {m m' s s' v v' : Value} (h : estT wa m s v = some wa') (hm : VR τ m m') (hs : VR τ s s') (hv : VR τ v v') (hR : Rep wa H) (hw : WR G B w0 τ H wr) :
    ∃ wr' H', (Instr.entryStore t m' s' v').run P wr = .ok () wr' ∧ Rep wa' H' ∧ WR G B w0 τ H' wr' := by
  unfold estT at h
  split at h <;> first | (cases h; done) | skip
  rename_i k kk n
  split at h <;> first | (cases h; done) | skip
  rename_i es c hb
  obtain ⟨h1, h2⟩ := hR.blk hb
  cases hs
  cases hm with
  | map _ r i ht =>
    obtain ⟨fs, e1, her, rfl⟩ := hw.map ht h1
    split at h <;> first | (cases h; done) | skip
    rename_i j hj
    simp only [forceObj_eq, TW.setK, T.setK_eq, Option.some.injEq] at h
    subst h
    refine ⟨_, _, ?_, hR.set h2 _, hw.putMap ht h1 (her.modify2 j (F' := fun e => { e with val := v' }) fun e f q1 q2 q3 => ⟨q1, hv, q3⟩)⟩
    rw [her.idx] at hj
    simp only [Instr.entryStore, Sem.run_bind, getObj, Sem.run, e1, asInt, asIntOf, Sem.run_pure, Result.andThen_ok, hj]
    exact run_setObj e1 _
noncomputable def specT (P : Program) : SpecT := fun ρ o w => match o.op with
  | .convert src dst x => match convT P w src dst (ρ x) with
    | some (v, w') => some (.value v, w')
    | none => none
  | .mapEntry t m k => match entT P w t (ρ m) (ρ k) with
    | some (v, w') => some (.value v, w')
    | none => none
  | .entryStore t m s x => match estT w (ρ m) (ρ s) (ρ x) with
    | some w' => some (.skip, w')
    | none => none
  | _ => specA P ρ o w
theorem specT_ok (P : Program) (G : Gl) : SpecOkT P G (specT P) := by
  intro ρ ρ' o wa wa' n h B w0 τ wr H hv hR hw
  unfold specT at h
  split at h
  · rename_i src dst x hop
    split at h <;> first | (cases h; done) | skip
    rename_i v w2 hc
    cases h
    obtain ⟨τ', v', wr', H', l1, r1, r2, r3, r4⟩ := convT_ok hc (hv x (by rw [hop]; simp [Op.operands])) hR hw
    refine ⟨τ', _, wr', H', l1, ?_, .value _ _ r2, r3, r4⟩
    unfold execOp
    rw [hop]
    show ((do pure (Next.value (← convert src dst (ρ' x)))) : Sem Next).run P wr = _
    rw [Sem.run_bind, r1]; rfl
  · rename_i t m k hop
    split at h <;> first | (cases h; done) | skip
    rename_i v w2 hc
    cases h
    obtain ⟨v', wr', H', r1, r2, r3, r4⟩ := entT_ok (P := P) hc (hv m (by rw [hop]; simp [Op.operands])) (hv k (by rw [hop]; simp [Op.operands])) hR hw
    refine ⟨τ, _, wr', H', Rel.le.refl _, ?_, .value _ _ r2, r3, r4⟩
    unfold execOp
    rw [hop]
    show ((do pure (Next.value (← Instr.mapEntry t (ρ' m) (ρ' k)))) : Sem Next).run P wr = _
    rw [Sem.run_bind, r1]; rfl
  · rename_i t m s x hop
    split at h <;> first | (cases h; done) | skip
    rename_i w2 hc
    cases h
    obtain ⟨wr', H', r1, r3, r4⟩ := estT_ok (P := P) (t := t) hc (hv m (by rw [hop]; simp [Op.operands])) (hv s (by rw [hop]; simp [Op.operands])) (hv x (by rw [hop]; simp [Op.operands])) hR hw
    refine ⟨τ, _, wr', H', Rel.le.refl _, ?_, .skip, r3, r4⟩
    unfold execOp
    rw [hop]
    show ((do Instr.entryStore t (ρ' m) (ρ' s) (ρ' x); pure Next.skip) : Sem Next).run P wr = _
    rw [Sem.run_bind, r1]; rfl
  · exact specA_ok P G ρ ρ' o wa wa' n h B w0 τ wr H hv hR hw

/-! ### Short ways -/
section short
variable {α β : Type}
noncomputable def dropR (o : Nat) : List α → List α := Nat.rec (motive := fun _ => List α → List α) (fun l => l) (fun _ ih l => List.rec (motive := fun _ => List α) [] (fun _ xs _ => ih xs) l) o
theorem dropR_eq : ∀ (o : Nat) (l : List α), dropR o l = l.drop o
  | 0, l => rfl
  | o + 1, [] => rfl
  | o + 1, x :: l => by
    show dropR o l = _
    rw [dropR_eq o l]; rfl
noncomputable def takeK (n : Nat) : List α → (List α → Option β) → Option β := Nat.rec (motive := fun _ => List α → (List α → Option β) → Option β) (fun _ k => k []) (fun _ ih l k => List.rec (motive := fun _ => Option β) none (fun x xs _ => ih xs fun ys => k (x :: ys)) l) n
theorem takeK_eq : ∀ (n : Nat) (l : List α) (k : List α → Option β), takeK n l k = if n ≤ l.length then k (l.take n) else none
  | 0, l, k => by
    show k [] = _
    simp
  | n + 1, [], k => by
    show none = _
    simp
  | n + 1, x :: l, k => by
    show takeK n l (fun ys => k (x :: ys)) = _
    rw [takeK_eq n l]
    simp
noncomputable def replK (vs : List α) : List α → (List α → Option β) → Option β := List.rec (motive := fun _ => List α → (List α → Option β) → Option β) (fun l k => k l) (fun v _ ih l k => List.rec (motive := fun _ => Option β) none (fun _ xs _ => ih xs fun ys => k (v :: ys)) l) vs
theorem replK_eq : ∀ (vs l : List α) (k : List α → Option β), replK vs l k = if vs.length ≤ l.length then k (vs ++ l.drop vs.length) else none
  | [], l, k => by
    show k l = _
    simp
  | v :: vs, [], k => by
    show none = _
    simp
  | v :: vs, x :: l, k => by
    show replK vs l (fun ys => k (v :: ys)) = _
    rw [replK_eq vs l]
    simp
noncomputable def overK (vs : List α) (o : Nat) : List α → (List α → Option β) → Option β := Nat.rec (motive := fun _ => List α → (List α → Option β) → Option β) (replK vs) (fun _ ih l k => List.rec (motive := fun _ => Option β) none (fun x xs _ => ih xs fun ys => k (x :: ys)) l) o
theorem overK_eq (vs : List α) : ∀ (o : Nat) (l : List α) (k : List α → Option β), overK vs o l k = if o + vs.length ≤ l.length then k (l.take o ++ (vs ++ l.drop (o + vs.length))) else none
  | 0, l, k => by
    show replK vs l k = _
    rw [replK_eq]; simp
  | o + 1, [], k => by
    show none = _
    rw [if_neg (by simp only [List.length_nil]; omega)]
  | o + 1, x :: l, k => by
    show overK vs o l (fun ys => k (x :: ys)) = _
    rw [overK_eq vs o l]
    by_cases h : o + vs.length ≤ l.length
    · rw [if_pos h, if_pos (by simp only [List.length_cons]; omega)]
      rw [show o + 1 + vs.length = (o + vs.length) + 1 by omega]
      simp
    · rw [if_neg h, if_neg (by simp only [List.length_cons]; omega)]
end short
noncomputable def fastLd (P : Program) (w : TW) (t : TypeId) (a : Value) : Option Value := match a with
  | .pointer (some ⟨b, o, none⟩) => match w.blk b with
    | some (.cells ⟨cs⟩ _ _) => match P.underlying t with
      | some (.struct _) => match P.info? t with
        | some i => takeK i.size (dropR o cs) fun vs => some (.agg ⟨vs⟩)
        | none => none
      | some (.array _ _) => match P.info? t with
        | some i => takeK i.size (dropR o cs) fun vs => some (.agg ⟨vs⟩)
        | none => none
      | some _ => nthL cs o
      | none => none
    | _ => none
  | _ => none
def cellsL (v : Value) : List Value := match v with
  | .agg ⟨vs⟩ => vs
  | v => [v]
theorem cellsL_eq (v : Value) : v.cells = ⟨cellsL v⟩ := by cases v <;> rfl
noncomputable def fastSt (P : Program) (w : TW) (t : TypeId) (a v : Value) : Option TW := match a with
  | .pointer (some ⟨b, o, none⟩) => match w.blk b with
    | some (.cells ⟨cs⟩ e (lo, hi)) => match P.info? t with
      | some i => match Nat.beq (cellsL v).length i.size && ((cellsL v).all Value.plainCell && Nat.ble hi lo) with
        | true => overK (cellsL v) o cs fun cs => w.setK b (.cells ⟨cs⟩ e (lo, hi)) some
        | false => none
      | none => none
    | _ => none
  | _ => none
theorem run_storeCells2 {P : Program} : ∀ (vs : List Value) (w : World) (r o i : Nat) (cs : Array Value) (e : TypeId) (lo hi : Nat), hi ≤ lo → w.heap[r]? = some (.cells cs e (lo, hi)) → o + i + vs.length ≤ cs.size → (∀ v ∈ vs, Value.plainCell v = true) →
    ∃ w', (storeCells ⟨r, o, none⟩ vs i).run P w = .ok () w' ∧ w'.heap = w.heap.setIfInBounds r (.cells (over cs (o + i) vs) e (lo, hi))
  | [], w, r, o, i, cs, e, lo, hi, hlo, h, hl, hp => by
    refine ⟨w, rfl, ?_⟩
    apply Array.ext_getElem?
    intro j
    by_cases hj : r = j
    · subst hj
      obtain ⟨hlt, _⟩ := Array.getElem?_eq_some_iff.1 h
      rw [Array.getElem?_setIfInBounds_self, if_pos hlt, h]; rfl
    · rw [Array.getElem?_setIfInBounds_ne hj]
  | v :: vs, w, r, o, i, cs, e, lo, hi, hlo, h, hl, hp => by
    simp only [List.length_cons] at hl
    have hc : w.cell? ⟨r, o + i, none⟩ = some cs[o + i] := by
      simp only [World.cell?, h]
      simp
    have hf : w.frozen? ⟨r, o + i, none⟩ = false := by simp [World.frozen?, h]; omega
    have h2 : (w.setCell ⟨r, o + i, none⟩ v).heap[r]? = some (.cells (cs.setIfInBounds (o + i) v) e (lo, hi)) := by
      obtain ⟨hlt, _⟩ := Array.getElem?_eq_some_iff.1 h
      rw [setCell_heap w r (o + i) v h, Array.getElem?_setIfInBounds_self, if_pos hlt]
    obtain ⟨w', a1, a2⟩ := run_storeCells2 (P := P) vs (w.setCell ⟨r, o + i, none⟩ v) r o (i + 1) (cs.setIfInBounds (o + i) v) e lo hi hlo h2 (by simp; omega) (fun u hu => hp u (by simp [hu]))
    refine ⟨w', ?_, ?_⟩
    · show (Sem.bind (store ((⟨r, o, none⟩ : Addr).add i) v) fun _ => storeCells ⟨r, o, none⟩ vs (i + 1)).run P w = _
      rw [add_eq]
      show (Sem.store .plain ⟨r, o + i, none⟩ v ((Sem.pure ()).bind fun _ => storeCells ⟨r, o, none⟩ vs (i + 1))).run P w = _
      rw [run_store_of (hp v (by simp)) hc hf]
      exact a1
    · rw [a2, setCell_heap w r (o + i) v h]
      apply Array.ext_getElem?
      intro j
      by_cases hj : r = j
      · subst hj
        simp only [Array.getElem?_setIfInBounds_self, Array.size_setIfInBounds]
        rfl
      · rw [Array.getElem?_setIfInBounds_ne hj, Array.getElem?_setIfInBounds_ne hj, Array.getElem?_setIfInBounds_ne hj]
theorem run_loadFrom {P : Program} {w : World} {b o : Nat} {cs : List Value} {e : TypeId} {f : Nat × Nat} (h : w.heap[b]? = some (.cells ⟨cs⟩ e f)) : ∀ (n i : Nat) (acc : Array Value), o + i + n ≤ cs.length → (loadCellsFrom ⟨b, o, none⟩ i n acc).run P w = .ok (acc ++ ⟨(cs.drop (o + i)).take n⟩) w
  | 0, i, acc, hn => by simp [loadCellsFrom]
  | n + 1, i, acc, hn => by
    have hlt : o + i < cs.length := by omega
    have hc : w.cell? ⟨b, o + i, none⟩ = some cs[o + i] := by simp [World.cell?, h, hlt]
    show (Sem.bind (load ((⟨b, o, none⟩ : Addr).add i)) fun v => loadCellsFrom ⟨b, o, none⟩ (i + 1) n (acc.push v)).run P w = _
    rw [Sem.run_bind', add_eq]
    have hl : (load ⟨b, o + i, none⟩ : Sem Value).run P w = .ok cs[o + i] w := by
      simp [load, Sem.run, hc]
    rw [hl]
    show (loadCellsFrom ⟨b, o, none⟩ (i + 1) n (acc.push cs[o + i])).run P w = _
    rw [run_loadFrom h n (i + 1) _ (by omega)]
    congr 1
    rw [List.drop_eq_getElem_cons hlt, List.take_succ_cons]
    rw [show o + (i + 1) = o + i + 1 by omega]
    apply Array.toList_inj.1
    simp
theorem over_list (cs vs : List Value) (o : Nat) (h : o + vs.length ≤ cs.length) : over ⟨cs⟩ o vs = ⟨cs.take o ++ (vs ++ cs.drop (o + vs.length))⟩ := by
  apply Array.ext_getElem?
  intro j
  rw [over_get _ _ _ _ (by simpa using h)]
  simp only [List.getElem?_toArray]
  by_cases h1 : j < o
  · rw [if_neg (by omega), List.getElem?_append_left (by simp; omega), List.getElem?_take, if_pos h1]
  · rw [List.getElem?_append_right (by simp; omega)]
    have : (cs.take o).length = o := by simp; omega
    rw [this]
    by_cases h2 : j < o + vs.length
    · rw [if_pos ⟨by omega, h2⟩, List.getElem?_append_left (by omega)]
    · rw [if_neg (by omega), List.getElem?_append_right (by omega), List.getElem?_drop]
      congr 1; omega
noncomputable def runF (P : Program) (ρ : Operand → Value) (o : Oper) (w : TW) : Option (Next × TW) := match o.op with
  | .load t a => match fastLd P w t (ρ a) with
    | some v => some (.value v, w)
    | none => runW P (execC o.op o.type ρ) w
  | .store t a x => match fastSt P w t (ρ a) (ρ x) with
    | some w' => some (.skip, w')
    | none => runW P (execC o.op o.type ρ) w
  | _ => runW P (execC o.op o.type ρ) w
theorem fastLd_run {P : Program} {w : TW} {t : TypeId} {a v : Value} (h : fastLd P w t a = some v) {u : World} (hu : Rep w u.heap) : (Instr.loadAt t a).run P u = .ok v u := by
  unfold fastLd at h
  split at h <;> first | (cases h; done) | skip
  rename_i b o
  split at h <;> first | (cases h; done) | skip
  rename_i cs e f hb
  obtain ⟨h1, h2⟩ := hu.blk hb
  have hag : ∀ (d : TypeDesc) (i : TypeInfo), (∃ fs, d = .struct fs) ∨ (∃ n e, d = .array n e) → P.underlying t = some d → P.info? t = some i → takeK i.size (dropR o cs) (fun vs => some (Value.agg ⟨vs⟩)) = some v → (Instr.loadAt t (.pointer (some ⟨b, o, none⟩))).run P u = .ok v u := by
    intro d i hd hun hi hk
    rw [takeK_eq, dropR_eq] at hk
    split at hk <;> first | (cases hk; done) | skip
    rename_i hle
    cases hk
    by_cases h0 : i.size = 0
    · have hr : (loadCells ⟨b, o, none⟩ i.size).run P u = .ok #[] u := by rw [h0]; rfl
      simp only [Instr.loadAt, Instr.sureAddr, loadVar, isAgg, Sem.run_bind, Sem.run_pure, Result.andThen_ok, run_underlying hun, run_sizeOf hi]
      rw [h0]
      rcases hd with ⟨fs, rfl⟩ | ⟨n, e, rfl⟩ <;> (simp only [Sem.run_pure, Result.andThen_ok, if_true, Sem.run_bind, run_sizeOf hi, hr]; simp)
    · have hln : o + 0 + i.size ≤ cs.length := by rw [List.length_drop] at hle; omega
      have hr : (loadCells ⟨b, o, none⟩ i.size).run P u = .ok (#[] ++ ⟨(cs.drop (o + 0)).take i.size⟩) u := run_loadFrom h1 i.size 0 #[] hln
      simp only [Instr.loadAt, Instr.sureAddr, loadVar, isAgg, Sem.run_bind, Sem.run_pure, Result.andThen_ok, run_underlying hun]
      rcases hd with ⟨fs, rfl⟩ | ⟨n, e, rfl⟩ <;> (simp only [Sem.run_pure, Result.andThen_ok, if_true, Sem.run_bind, run_sizeOf hi, hr]; simp)
  split at h
  · rename_i fs hun
    split at h <;> first | (cases h; done) | skip
    rename_i i hi
    exact hag _ i (.inl ⟨fs, rfl⟩) hun hi h
  · rename_i n e hun
    split at h <;> first | (cases h; done) | skip
    rename_i i hi
    exact hag _ i (.inr ⟨n, e, rfl⟩) hun hi h
  · rename_i d hd1 hd2 hun
    rw [nthL_eq] at h
    have hc : u.cell? ⟨b, o, none⟩ = some v := by simp [World.cell?, h1, h]
    simp only [Instr.loadAt, Instr.sureAddr, loadVar, isAgg, Sem.run_bind, Sem.run_pure, Result.andThen_ok, run_underlying hun]
    cases d <;> first | exact absurd rfl (hd1 _) | exact absurd rfl (hd2 _ _) | (simp only [Sem.run_pure, Result.andThen_ok, Bool.false_eq_true, if_false]; simp [load, Sem.run, hc])
  · cases h
theorem fastSt_run {P : Program} {w w' : TW} {t : TypeId} {a v : Value} (h : fastSt P w t a v = some w') {u : World} (hu : Rep w u.heap) : ∃ u', (Instr.storeAt t a v).run P u = .ok () u' ∧ Rep w' u'.heap := by
  unfold fastSt at h
  split at h <;> first | (cases h; done) | skip
  rename_i b o
  split at h <;> first | (cases h; done) | skip
  rename_i cs e lo hi hb
  obtain ⟨h1, h2⟩ := hu.blk hb
  split at h <;> first | (cases h; done) | skip
  rename_i i hin
  split at h <;> first | (cases h; done) | skip
  rename_i hc
  rw [Bool.and_eq_true, Bool.and_eq_true] at hc
  rw [overK_eq] at h
  split at h <;> first | (cases h; done) | skip
  rename_i hle
  simp only [TW.setK, T.setK_eq, Option.some.injEq] at h
  subst h
  obtain ⟨u', a1, a2⟩ := run_storeCells2 (P := P) (cellsL v) u b o 0 ⟨cs⟩ e lo hi (Nat.le_of_ble_eq_true hc.2.2) h1 (by simpa using hle) (fun v hv => List.all_eq_true.1 hc.2.1 v hv)
  refine ⟨u', ?_, ?_⟩
  · have hsz : v.cells.size = i.size := by
      rw [cellsL_eq]
      exact Nat.eq_of_beq_eq_true hc.1
    simp only [Instr.storeAt, Instr.sureAddr, storeVar, Sem.run_bind, Sem.run_pure, Result.andThen_ok, run_sizeOf hin, hsz]
    simp only [ne_eq, not_true_eq_false, if_false]
    rw [cellsL_eq]
    exact a1
  · rw [a2, Nat.add_zero, over_list cs _ o hle]
    exact hu.set h2 _
theorem runF_sound {P : Program} {ρ : Operand → Value} {o : Oper} {w w' : TW} {n : Next} (h : runF P ρ o w = some (n, w')) {u : World} (hu : Rep w u.heap) : ∃ u', (execOp ρ o).run P u = .ok n u' ∧ Rep w' u'.heap := by
  unfold runF at h
  simp only [execQ_eq] at h
  split at h
  · rename_i t a hop
    split at h
    · rename_i v hv
      cases h
      refine ⟨u, ?_, hu⟩
      unfold execOp
      rw [hop]
      show ((do pure (Next.value (← Instr.loadAt t (ρ a)))) : Sem Next).run P u = _
      rw [Sem.run_bind, fastLd_run hv hu]; rfl
    · exact runW_sound h hu
  · rename_i t a x hop
    split at h
    · rename_i w2 hv
      cases h
      obtain ⟨u', r1, r2⟩ := fastSt_run hv hu
      refine ⟨u', ?_, r2⟩
      unfold execOp
      rw [hop]
      show ((do Instr.storeAt t (ρ a) (ρ x); pure Next.skip) : Sem Next).run P u = _
      rw [Sem.run_bind, r1]; rfl
    · exact runW_sound h hu
  · exact runW_sound h hu
theorem runF_congr {P : Program} {ρ ρ' : Operand → Value} {o : Oper} {w : TW} (h : ∀ x ∈ o.op.operands, ρ x = ρ' x) (e : execOp ρ o = execOp ρ' o) : runF P ρ o w = runF P ρ' o w := by
  unfold runF
  simp only [execQ_eq]
  rw [e]
  split
  · rename_i t a hop
    rw [h a (by rw [hop]; simp [Op.operands])]
  · rename_i t a x hop
    rw [h a (by rw [hop]; simp [Op.operands]), h x (by rw [hop]; simp [Op.operands])]
  · rfl

noncomputable def evalOpT (P : Program) (sp : SpecT) (okx : Operand → Bool) (ρ : Operand → Value) (o : Oper) (wa : TW) : Option (Next × TW) :=
  if o.op.operands.toList.all okx then
    match evalAF P ρ o with
    | some v => some (.value v, wa)
    | none =>
      if kindOk P ρ o && cutT wa ρ o then runF P ρ o wa
      else sp ρ o wa
  else none

/-- The small world, a tree, stands in the great one. -/
def WT (G : Gl) (B : FM) (w0 : World) (τ : Rel) (wa : TW) (wr : World) : Prop := ∃ H, Rep wa H ∧ WR G B w0 τ H wr

theorem evalOpT_sound {P : Program} {G : Gl} {B : FM} {w0 : World} {sp : SpecT} (hsp : SpecOkT P G sp) {okx : Operand → Bool} {ρ ρ' : Operand → Value} {o : Oper} {wa wa' : TW} {wr : World} {n : Next} {τ : Rel} (hρ : ∀ x, okx x = true → VR τ (ρ x) (ρ' x)) (hw : WT G B w0 τ wa wr) (h : evalOpT P sp okx ρ o wa = some (n, wa')) :
    ∃ τ' n' wr', τ.le τ' ∧ (execOp ρ' o).run P wr = .ok n' wr' ∧ NR τ' n n' ∧ WT G B w0 τ' wa' wr' := by
  obtain ⟨H, hR, hw⟩ := hw
  unfold evalOpT at h
  split at h
  · rename_i ho
    have hv : ∀ x ∈ o.op.operands, VR τ (ρ x) (ρ' x) := fun x hx => hρ x (List.all_eq_true.1 ho x (by simpa using hx))
    split at h
    · rename_i v he
      cases h
      obtain ⟨h1, h2⟩ := evalAF_spec hv he
      exact ⟨τ, _, wr, Rel.le.refl τ, h2 wr, .value _ _ (AFb.vr _ _ h1), H, hR, hw⟩
    · rename_i hna
      split at h
      · rename_i hk
        rw [Bool.and_eq_true] at hk
        obtain ⟨u', r1, r2⟩ := runF_sound h (u := wOf H) hR
        have he : evalOp P (fun _ _ _ => none) okx ρ o (wOf H) = some (n, u') := by
          unfold evalOp
          rw [if_pos ho, hna]
          dsimp only
          rw [if_pos (by rw [Bool.and_eq_true]; exact ⟨hk.1, cutT_ref hR hk.2⟩), r1]
        obtain ⟨τ', n', wr', l1, e1, e2, e3⟩ := evalOp_sound (G := G) (sp := fun _ _ _ => none) (fun _ _ _ _ _ _ hx => by cases hx) hρ hw he
        exact ⟨τ', n', wr', l1, e1, e2, _, r2, e3⟩
      · obtain ⟨τ', n', wr', H', l1, e1, e2, e3, e4⟩ := hsp _ _ o wa wa' n h B w0 τ wr H hv hR hw
        exact ⟨τ', n', wr', l1, e1, e2, H', e3, e4⟩
  · cases h
section wt
variable {G : Gl} {B B' : FM} {w0 : World} {τ : Rel} {wa : TW} {w : World}
def upd (B : FM) (r : Nat) (o : Option Obj) : FM := fun j => if j = r then o else B j
theorem upd_same (B : FM) (r : Nat) (o : Option Obj) : upd B r o r = o := by simp [upd]
theorem upd_ne (B : FM) (r : Nat) (o : Option Obj) {j : Nat} (h : j ≠ r) : upd B r o j = B j := by simp [upd, h]
theorem WT.lt (h : WT G B w0 τ wa w) {j : Nat} (hj : B j ≠ none) : j < w.heap.size := by obtain ⟨H, _, h⟩ := h; exact h.kp.lt hj
theorem WT.at (h : WT G B w0 τ wa w) {j : Nat} {o : Obj} (hj : B j = some o) : w.heap[j]? = some o := by obtain ⟨H, _, h⟩ := h; exact h.kp.block j o hj
/-- A block more, that nothing of this touches. -/
theorem WT.lay (h : WT G B w0 τ wa w) (o : Obj) : WT G (upd B w.heap.size (some o)) w0 τ wa (w.alloc o) := by
  obtain ⟨H, hR, h⟩ := h
  have old : ∀ {j : Nat}, j < w.heap.size → (w.alloc o).heap[j]? = w.heap[j]? := fun {j} hj => Below.heap_alloc w o j hj
  refine ⟨H, hR, fun k u hk hu => ?_, h.fn, h.inj, fun k r i x => ?_, h.ok, fun k cs e hk => ?_, h.glob, ?_, h.sy⟩
  · obtain ⟨r, i, o', h1, h2, h3⟩ := h.blk k u hk hu
    exact ⟨r, i, o', h1, by rw [old (h.dom _ _ _ h1).2.1]; exact h2, h3⟩
  · obtain ⟨a, b, c⟩ := h.dom _ _ _ x
    exact ⟨a, by rw [World.size_alloc]; omega, fun l => by rw [upd_ne _ _ _ (by omega)]; exact c l⟩
  · obtain ⟨r, i, cs', e', f, h1, h2, h3, h4, h5⟩ := h.old k cs e hk
    exact ⟨r, i, cs', e', f, h1, by rw [old (h.dom _ _ _ h1).2.1]; exact h2, h3, h4, h5.imp id fun hb => by rw [upd_ne _ _ _ (by have := (h.dom _ _ _ h1).2.1; omega)]; exact hb⟩
  · refine ⟨h.kp.os, h.kp.tape, h.kp.output, by rw [World.size_alloc]; exact Nat.le_succ_of_le h.kp.size, fun j u hj => ?_⟩
    by_cases e : j = w.heap.size
    · subst e
      rw [upd_same] at hj
      cases hj
      show (w.heap.push o)[w.heap.size]? = some o
      simp
    · rw [upd_ne _ _ _ e] at hj
      rw [old (h.kp.lt (by rw [hj]; simp))]; exact h.kp.block j u hj
/-- Such a block is one of the small world's from now on. -/
theorem WT.take {r : Nat} {cs : Array Value} {t : TypeId} (h : WT G (upd B r (some (.cells cs t (0, 0)))) w0 τ wa w) (hB : B r = none) (h0 : w0.heap.size ≤ r) (hcs : ∀ τ : Rel, AR τ cs cs) (hn : wa.n < 65536) :
    ∃ τ' : Rel, τ.le τ' ∧ τ' wa.n r none ∧ WT G B w0 τ' ⟨T.set (.cells cs t (0, 0)) 16 wa.t wa.n, wa.n + 1⟩ w := by
  obtain ⟨H, hR, h⟩ := h
  have hg := h.kp.block r _ (upd_same _ _ _)
  have hgl := (Array.getElem?_eq_some_iff.1 hg).1
  have hsz := hR.size
  refine ⟨⟨fun k u j => τ.r k u j ∨ (k = wa.n ∧ u = r ∧ j = none), τ.s⟩, ⟨fun k r j x => .inl x, fun _ _ x => x⟩, .inr ⟨rfl, rfl, rfl⟩, H.push (.cells cs t (0, 0)), hR.push hn _, ?_⟩
  have hle : τ.le (⟨fun k u j => τ.r k u j ∨ (k = wa.n ∧ u = r ∧ j = none), τ.s⟩ : Rel) := ⟨fun k r j x => .inl x, fun _ _ x => x⟩
  have hal : ∀ k, k < H.size → alive (H.push (.cells cs t (0, 0))) k → alive H k := by
    rintro k hk ⟨u, hu, hl⟩
    rw [Array.getElem?_push, if_neg (by omega)] at hu
    exact ⟨u, hu, hl⟩
  have hna : ∀ k i, τ k r i → ¬ alive H k := by
    intro k i hk ha
    have := (h.dom _ _ _ hk).2.2 ha
    rw [upd_same] at this; cases this
  have hdn : ∀ {u : Nat}, upd B r (some (.cells cs t (0, 0))) u = none → u ≠ r ∧ B u = none := by
    intro u hu
    have hne : u ≠ r := fun e => by rw [e, upd_same] at hu; cases hu
    rw [upd_ne _ _ _ hne] at hu
    exact ⟨hne, hu⟩
  have har : AR τ cs cs := hcs τ
  refine ⟨fun k u hk hu => ?_, ?_, ?_, ?_, ?_, ?_, fun q hq => .inl (h.glob q hq), ?_, h.sy⟩
  · rw [Array.getElem?_push] at hk
    by_cases he : k = H.size
    · rw [if_pos he] at hk
      cases hk
      exact ⟨r, none, _, .inr ⟨by omega, rfl, rfl⟩, hg, .cells _ _ _ (har.mono hle)⟩
    · rw [if_neg he] at hk
      obtain ⟨r2, j, u', h1, h2, h3⟩ := h.blk k u hk hu
      exact ⟨r2, j, u', .inl h1, h2, h3.mono hle⟩
  · rintro k u j u' j' (h1 | ⟨rfl, rfl, rfl⟩) (h2 | ⟨e, rfl, rfl⟩)
    · exact h.fn _ _ _ _ _ h1 h2
    · have := (h.dom _ _ _ h1).1; omega
    · have := (h.dom _ _ _ h2).1; omega
    · exact ⟨rfl, rfl⟩
  · rintro k k' u j j' (h1 | ⟨rfl, rfl, rfl⟩) (h2 | ⟨rfl, e, rfl⟩) l1 l2
    · exact h.inj _ _ _ _ _ h1 h2 (hal _ (h.dom _ _ _ h1).1 l1) (hal _ (h.dom _ _ _ h2).1 l2)
    · subst e; exact absurd (hal _ (h.dom _ _ _ h1).1 l1) (hna _ _ h1)
    · exact absurd (hal _ (h.dom _ _ _ h2).1 l2) (hna _ _ h2)
    · rfl
  · rintro k u j (h1 | ⟨rfl, rfl, rfl⟩)
    · have := h.dom _ _ _ h1
      exact ⟨by simp; omega, this.2.1, fun l => (hdn (this.2.2 (hal _ this.1 l))).2⟩
    · exact ⟨by simp; omega, hgl, fun _ => hB⟩
  · intro k u hk
    rw [Array.getElem?_push] at hk
    by_cases he : k = H.size
    · rw [if_pos he] at hk; cases hk; exact .inl rfl
    · rw [if_neg he] at hk; exact h.ok k u hk
  · intro k cs2 e2 hk
    rw [Array.getElem?_push] at hk
    by_cases he : k = H.size
    · rw [if_pos he] at hk
      simp only [oldB, Option.some.injEq, Obj.cells.injEq, Prod.mk.injEq] at hk
      omega
    · rw [if_neg he] at hk
      obtain ⟨r2, j, cs', e', f, h1, h2, h3, h4, h5⟩ := h.old k cs2 e2 hk
      have hne : r2 ≠ r := by
        rcases h5 with h5 | h5
        · omega
        · exact (hdn h5).1
      refine ⟨r2, j, cs', e', f, .inl h1, h2, h3.mono hle, ?_, h5.imp id fun x => (hdn x).2⟩
      rintro k' i' (q | ⟨_, q, _⟩) ha
      · exact h4 k' i' q (hal _ (h.dom _ _ _ q).1 ha)
      · exact hne q
  · refine ⟨h.kp.os, h.kp.tape, h.kp.output, h.kp.size, fun j o hj => ?_⟩
    have hne : j ≠ r := fun e => by rw [e, hB] at hj; cases hj
    exact h.kp.block j o (by rw [upd_ne _ _ _ hne]; exact hj)
end wt
end Go.Ev
namespace Go.Ev
open Go.RowKit
set_option linter.unusedVariables false
set_option linter.unusedSimpArgs false

theorem WT.glob {G : Gl} {B : FM} {w0 : World} {τ : Rel} {wa : TW} {wr : World} (h : WT G B w0 τ wa wr) : ∀ g : Nat, g < G.n → τ g g none := by
  obtain ⟨H, _, h⟩ := h; exact h.glob
abbrev EvF := FuncId → Array Value → TW → Option (Value × TW)

section ev
variable (P : Program) (G : Gl) (sp : SpecT) (ev : EvF)

noncomputable def stepBT (o : Oper) (e : Env) (w : TW) : Option (Env × TW) :=
  match e.fits o.dst with
  | false => none
  | true => match evalOpT P sp (e.ok G) e.eval o w with
    | some (.value v, w') => forceV 20 v fun v => putK e o.dst v fun e' => some (e', w')
    | some (.skip, w') => putK e o.dst undef fun e' => some (e', w')
    | some (.enter f args, w') => forceArr args fun args => match ev f args w' with
      | some (v, w'') => forceV 20 v fun v => putK e o.dst v fun e' => some (e', w'')
      | none => none
    | _ => none
noncomputable def stepOpsT (ops : Array Oper) : List Nat → Env → TW → Option (Env × TW)
  | [], e, w => some (e, w)
  | i :: rest, e, w => match ops[i]? with
    | none => stepOpsT ops rest e w
    | some o => match wantedE ops e o with
      | some true => match stepBT P G sp ev o e w with
        | some (e', w') => stepOpsT ops rest e' w'
        | none => none
      | some false => match e.fits o.dst with
        | true => putK e o.dst undef fun e' => stepOpsT ops rest e' w
        | false => none
      | none => none
noncomputable def evalLoopT (body : Env → TW → Option (Exit × Env × TW)) : Nat → Env → TW → Option (Exit × Env × TW)
  | 0, _, _ => none
  | n + 1, a, w => match body a w with
    | some (.normal, a', w') => evalLoopT body n a' w'
    | r => r
abbrev DrawnT := Array Oper → Env → TW → Option (Env × TW)
noncomputable def evalCodeT (dr : DrawnT) : Nat → Code → Env → TW → Option (Exit × Env × TW)
  | 0, _, _, _ => none
  | n + 1, c, a, w => match c with
    | .skip => some (.normal, a, w)
    | .label _ => some (.normal, a, w)
    | .ret => some (.ret, a, w)
    | .exit id => some (.exit id, a, w)
    | .region _ ops false => match stepOpsT P G sp ev ops (List.range ops.size) a w with
      | some (a', w') => some (.normal, a', w')
      | none => none
    | .region _ ops true => match dr ops a w with
      | some (a', w') => some (.normal, a', w')
      | none => none
    | .seq x y => match evalCodeT dr n x a w with
      | some (.normal, a', w') => evalCodeT dr n y a' w'
      | r => r
    | .cond c x y => match a.eval c with
      | .bool true => evalCodeT dr n x a w
      | .bool false => evalCodeT dr n y a w
      | _ => none
    | .block id body => match evalCodeT dr n body a w with
      | some (.exit k, a', w') => if k = id then some (.normal, a', w') else some (.exit k, a', w')
      | r => r
    | .loop body => evalLoopT (evalCodeT dr n body) n a w
    | .scope body => match evalCodeT dr n body a w with
      | some (.goto _, _, _) => none
      | r => r
    | _ => none
end ev

section sound
variable {P : Program} {G : Gl} {sp : SpecT} {ev : EvF}

def EvOkT (P : Program) (G : Gl) (ev : EvF) : Prop := ∀ f args wa v wa2, ev f args wa = some (v, wa2) → ∀ B w0 τ args' wr, AR τ args args' → WT G B w0 τ wa wr →
  Calls P f args' wr fun e wr' => ∃ τ' v', e = .returned v' ∧ τ.le τ' ∧ VR τ' v v' ∧ WT G B w0 τ' wa2 wr'

theorem stepBT_sound (hsp : SpecOkT P G sp) (hev : EvOkT P G ev) {o : Oper} {a a2 : Env} {wa wa2 : TW} (h : stepBT P G sp ev o a wa = some (a2, wa2)) {B : FM} {w0 : World} {τ : Rel} {a' : Act} {wr : World} (ha : EnvR τ a a') (hw : WT G B w0 τ wa wr)
    {K : Act → World → Prop} {Q : Exit → Act → World → Prop} (hK : ∀ τ' a2' wr', τ.le τ' → EnvR τ' a2 a2' → WT G B w0 τ' wa2 wr' → K a2' wr') : o.wp P a' wr K Q := by
  unfold stepBT at h
  unfold Oper.wp
  split at h
  · cases h
  rename_i hfit
  have hρ : ∀ x, a.ok G x = true → VR τ (a.eval x) (a'.eval x) := fun x hx => ha.eval hw.glob x hx
  split at h
  · rename_i v w' he
    simp only [forceV_eq, putK_eq, Option.some.injEq, Prod.mk.injEq] at h
    obtain ⟨rfl, rfl⟩ := h
    obtain ⟨τ', n', wr', h1, h2, h3, h4⟩ := evalOpT_sound hsp hρ hw he
    rw [h2]
    cases h3 with
    | value v v' hv => exact hK τ' _ _ h1 ((ha.mono h1).put o.dst hfit hv) h4
  · rename_i w' he
    simp only [putK_eq, Option.some.injEq, Prod.mk.injEq] at h
    obtain ⟨rfl, rfl⟩ := h
    obtain ⟨τ', n', wr', h1, h2, h3, h4⟩ := evalOpT_sound hsp hρ hw he
    rw [h2]
    cases h3 with
    | skip => exact hK τ' _ _ h1 ((ha.mono h1).put o.dst hfit (undef_vr _)) h4
  · rename_i f args w' he
    simp only [forceArr_eq] at h
    split at h
    · rename_i v w'' hc
      simp only [forceV_eq, putK_eq, Option.some.injEq, Prod.mk.injEq] at h
      obtain ⟨rfl, rfl⟩ := h
      obtain ⟨τ', n', wr', h1, h2, h3, h4⟩ := evalOpT_sound hsp hρ hw he
      rw [h2]
      cases h3 with
      | enter f xs ys hx =>
        refine (hev _ _ _ _ _ hc B w0 τ' ys wr' hx h4).mono ?_
        rintro e wr2 ⟨τ2, v', rfl, l2, hv, w2⟩
        exact hK τ2 _ _ (h1.trans l2) ((ha.mono (h1.trans l2)).put o.dst hfit hv) w2
    · cases h
  · cases h

theorem stepOpsT_sound (hsp : SpecOkT P G sp) (hev : EvOkT P G ev) (ops : Array Oper) : ∀ (l : List Nat) {a a2 : Env} {wa wa2 : TW}, stepOpsT P G sp ev ops l a wa = some (a2, wa2) → ∀ {B : FM} {w0 : World} {τ : Rel} {a' : Act} {wr : World}, EnvR τ a a' → WT G B w0 τ wa wr →
    ∀ {Q : Exit → Act → World → Prop}, (∀ τ' a2' wr', τ.le τ' → EnvR τ' a2 a2' → WT G B w0 τ' wa2 wr' → Q .normal a2' wr') → wpOps P ops Q l a' wr := by
  intro l
  induction l with
  | nil =>
    intro a a2 wa wa2 h B w0 τ a' wr ha hw Q hQ
    simp only [stepOpsT, Option.some.injEq, Prod.mk.injEq] at h
    obtain ⟨rfl, rfl⟩ := h
    exact hQ τ _ _ (Rel.le.refl _) ha hw
  | cons i rest ih =>
    intro a a2 wa wa2 h B w0 τ a' wr ha hw Q hQ
    unfold stepOpsT at h
    unfold wpOps
    cases ho : ops[i]? with
    | none => rw [ho] at h; exact ih h ha hw hQ
    | some o =>
      rw [ho] at h
      dsimp only at h ⊢
      split at h
      · rename_i hwant
        rw [if_pos (wantedE_spec hwant ha)]
        split at h
        · rename_i a1 w1 hs
          refine .inl (stepBT_sound hsp hev hs ha hw ?_)
          intro τ' a1' wr' l1 ha1 hw1
          exact ih h ha1 hw1 (fun τ2 a2' wr2 l2 h2 h3 => hQ τ2 a2' wr2 (l1.trans l2) h2 h3)
        · cases h
      · rename_i hwant
        rw [if_neg (by rw [wantedE_spec hwant ha]; simp)]
        split at h
        · rename_i hfit
          rw [putK_eq] at h
          exact ih h (ha.put o.dst hfit (undef_vr _)) hw hQ
        · cases h
      · cases h

/-- What the drawn regions have to show. -/
def DrOkT (P : Program) (G : Gl) (dr : DrawnT) : Prop := ∀ id ops a a2 wa wa2, dr ops a wa = some (a2, wa2) → ∀ B w0 τ a' wr, EnvR τ a a' → WT G B w0 τ wa wr →
  ∀ Q : Exit → Act → World → Prop, (∀ τ' a2' wr', τ.le τ' → EnvR τ' a2 a2' → WT G B w0 τ' wa2 wr' → Q .normal a2' wr') → (Code.region id ops true).wp P Q a' wr

theorem evalLoopT_sound {body : Env → TW → Option (Exit × Env × TW)} {c : Code}
    (hb : ∀ {ex a a2 wa wa2}, body a wa = some (ex, a2, wa2) → ∀ {B w0 τ a' wr}, EnvR τ a a' → WT G B w0 τ wa wr → ∀ {Q : Exit → Act → World → Prop}, (∀ τ' a2' wr', τ.le τ' → EnvR τ' a2 a2' → WT G B w0 τ' wa2 wr' → Q ex a2' wr') → c.wp P Q a' wr) :
    ∀ (n : Nat) {ex a a2 wa wa2}, evalLoopT body n a wa = some (ex, a2, wa2) → ∀ {B w0 τ a' wr}, EnvR τ a a' → WT G B w0 τ wa wr → ∀ {Q : Exit → Act → World → Prop}, (∀ τ' a2' wr', τ.le τ' → EnvR τ' a2 a2' → WT G B w0 τ' wa2 wr' → Q ex a2' wr') → ex ≠ .normal → Code.rounds P c Q n a' wr := by
  intro n
  induction n with
  | zero => intro ex a a2 wa wa2 h; cases h
  | succ n ih =>
    intro ex a a2 wa wa2 h B w0 τ a' wr ha hw Q hQ hne
    unfold evalLoopT at h
    unfold Code.rounds
    cases hbd : body a wa with
    | none => rw [hbd] at h; cases h
    | some r =>
      obtain ⟨e1, a1, w1⟩ := r
      rw [hbd] at h
      refine hb hbd ha hw ?_
      intro τ' a1' wr' l1 ha1 hw1
      cases e1 with
      | normal => exact ih h ha1 hw1 (fun τ2 a2' wr2 l2 h2 h3 => hQ τ2 a2' wr2 (l1.trans l2) h2 h3) hne
      | _ => cases h; exact hQ τ' a1' wr' l1 ha1 hw1
end sound
end Go.Ev
namespace Go.Ev
open Go.RowKit
set_option linter.unusedVariables false
set_option linter.unusedSimpArgs false

section sound
variable {P : Program} {G : Gl} {sp : SpecT} {ev : EvF}

theorem evalLoopT_ne {body : Env → TW → Option (Exit × Env × TW)} : ∀ (n : Nat) {ex a a2 wa wa2}, evalLoopT body n a wa = some (ex, a2, wa2) → ex ≠ .normal := by
  intro n
  induction n with
  | zero => intro ex a a2 wa wa2 h; cases h
  | succ n ih =>
    intro ex a a2 wa wa2 h
    unfold evalLoopT at h
    cases hbd : body a wa with
    | none => rw [hbd] at h; cases h
    | some r =>
      obtain ⟨e1, a1, w1⟩ := r
      rw [hbd] at h
      cases e1 with
      | normal => exact ih h
      | _ => cases h; simp

theorem evalCodeT_sound (hsp : SpecOkT P G sp) (hev : EvOkT P G ev) {dr : DrawnT} (hdr : DrOkT P G dr) : ∀ (n : Nat) {c : Code} {ex a a2 wa wa2}, evalCodeT P G sp ev dr n c a wa = some (ex, a2, wa2) → ∀ {B w0 τ a' wr}, EnvR τ a a' → WT G B w0 τ wa wr →
    ∀ {Q : Exit → Act → World → Prop}, (∀ τ' a2' wr', τ.le τ' → EnvR τ' a2 a2' → WT G B w0 τ' wa2 wr' → Q ex a2' wr') → c.wp P Q a' wr := by
  intro n
  induction n with
  | zero => intro c ex a a2 wa wa2 h; cases h
  | succ n ih =>
    intro c ex a a2 wa wa2 h B w0 τ a' wr ha hw Q hQ
    unfold evalCodeT at h
    cases c with
    | skip => cases h; exact wp_skip (hQ τ _ _ (Rel.le.refl _) ha hw)
    | label l => cases h; exact wp_label (hQ τ _ _ (Rel.le.refl _) ha hw)
    | ret => cases h; exact wp_ret (hQ τ _ _ (Rel.le.refl _) ha hw)
    | exit id => cases h; exact wp_exit (hQ τ _ _ (Rel.le.refl _) ha hw)
    | region id ops dw =>
      cases dw with
      | false =>
        dsimp only at h
        split at h
        · rename_i a1 w1 hs
          cases h
          exact wp_region (stepOpsT_sound hsp hev ops _ hs ha hw hQ)
        · cases h
      | true =>
        dsimp only at h
        split at h
        · rename_i a1 w1 hs
          cases h
          exact hdr id ops a _ wa _ hs B w0 τ a' wr ha hw Q hQ
        · cases h
    | seq x y =>
      dsimp only at h
      refine wp_seq ?_
      cases hx : evalCodeT P G sp ev dr n x a wa with
      | none => rw [hx] at h; cases h
      | some r =>
        obtain ⟨e1, a1, w1⟩ := r
        rw [hx] at h
        refine ih hx ha hw ?_
        intro τ' a1' wr' l1 ha1 hw1
        cases e1 with
        | normal => exact ih h ha1 hw1 (fun τ2 a2' wr2 l2 h2 h3 => hQ τ2 a2' wr2 (l1.trans l2) h2 h3)
        | _ => cases h; exact hQ τ' a1' wr' l1 ha1 hw1
    | cond c x y =>
      dsimp only at h
      have hop : ∀ b, a.eval c = .bool b → a'.eval c = .bool b := by
        intro b hb
        cases c with
        | tmp t =>
          have hb2 : (match look a.l t with | some v => v | none => undef) = .bool b := hb
          cases hl : look a.l t with
          | none => rw [hl] at hb2; cases hb2
          | some v =>
            rw [hl] at hb2
            have hb2 : v = .bool b := hb2
            subst hb2
            have hv := ha.tmps t _ hl
            show a'.tmps.getD t undef = .bool b
            generalize a'.tmps.getD t undef = q at hv ⊢
            cases hv; rfl
        | const v => exact hb
        | global g => cases hb
        | func f => cases hb
      split at h
      · rename_i hc
        exact wp_cond_true (hop _ hc) (ih h ha hw hQ)
      · rename_i hc
        exact wp_cond_false (hop _ hc) (ih h ha hw hQ)
      · cases h
    | block id body =>
      dsimp only at h
      refine wp_block ?_
      cases hx : evalCodeT P G sp ev dr n body a wa with
      | none => rw [hx] at h; cases h
      | some r =>
        obtain ⟨e1, a1, w1⟩ := r
        rw [hx] at h
        refine ih hx ha hw ?_
        intro τ' a1' wr' l1 ha1 hw1
        cases e1 with
        | exit k =>
          dsimp only at h
          show (if k = id then Q Exit.normal a1' wr' else Q (Exit.exit k) a1' wr')
          split at h
          · rename_i hk
            cases h
            rw [if_pos hk]; exact hQ τ' a1' wr' l1 ha1 hw1
          · rename_i hk
            cases h
            rw [if_neg hk]; exact hQ τ' a1' wr' l1 ha1 hw1
        | _ => cases h; exact hQ τ' a1' wr' l1 ha1 hw1
    | loop body =>
      dsimp only at h
      exact wp_loop_rounds n (evalLoopT_sound (body := evalCodeT P G sp ev dr n body) (c := body) (fun h1 => fun h2 h3 => fun h4 => ih h1 h2 h3 h4) n h ha hw hQ (evalLoopT_ne n h))
    | scope body =>
      dsimp only at h
      refine wp_scope_straight ?_
      cases hx : evalCodeT P G sp ev dr n body a wa with
      | none => rw [hx] at h; cases h
      | some r =>
        obtain ⟨e1, a1, w1⟩ := r
        rw [hx] at h
        refine ih hx ha hw ?_
        intro τ' a1' wr' l1 ha1 hw1
        cases e1 with
        | goto l => cases h
        | _ => cases h; exact hQ τ' a1' wr' l1 ha1 hw1
    | _ => cases h

/-- A function's run; what is known already is taken from a book. -/
noncomputable def evalFnT (P : Program) (G : Gl) (sp : SpecT) (dr : EvF → DrawnT) (book : EvF) (fuel : Nat) : Nat → EvF
  | 0, _, _, _ => none
  | n + 1, f, args, w => match book f args w with
    | some r => some r
    | none => match P.funcs[f]? with
      | none => none
      | some fn => match fn.body with
        | none => none
        | some body =>
          match evalCodeT P G sp (evalFnT P G sp dr book fuel n) (dr (evalFnT P G sp dr book fuel n)) fuel body ⟨args.size + (fn.ntmps - args.size), argsL 0 args.toList⟩ w with
          | some (.ret, e, w) => match e.has (resTmps fn) with
            | true => match runW P (results fn (e.row (resTmps fn))) w with
              | some (v, w) => forceV 20 v fun v => some (v, w)
              | none => none
            | false => none
          | some (.normal, e, w) => match e.has (resTmps fn) with
            | true => match runW P (results fn (e.row (resTmps fn))) w with
              | some (v, w) => forceV 20 v fun v => some (v, w)
              | none => none
            | false => none
          | _ => none

theorem evalFnT_sound (hsp : SpecOkT P G sp) {dr : EvF → DrawnT} (hdr : ∀ ev, EvOkT P G ev → DrOkT P G (dr ev)) {book : EvF} (hb : EvOkT P G book) (fuel : Nat) : ∀ n, EvOkT P G (evalFnT P G sp dr book fuel n) := by
  intro n
  induction n with
  | zero => intro f args wa v wa2 h; cases h
  | succ n ih =>
    intro f args wa v wa2 h B w0 τ args' wr hA hw
    unfold evalFnT at h
    split at h
    · rename_i r hr
      cases h
      exact hb f args wa v wa2 hr B w0 τ args' wr hA hw
    · split at h
      · cases h
      · rename_i fn hfn
        split at h
        · cases h
        · rename_i body hbody
          have ha : EnvR τ ⟨args.size + (fn.ntmps - args.size), argsL 0 args.toList⟩ ⟨args' ++ Array.replicate (fn.ntmps - args'.size) undef, []⟩ := by
            refine ⟨fun t u hu => ?_, ?_, rfl⟩
            · rw [argsL_look, if_pos (Nat.zero_le _), Nat.sub_zero, Array.getElem?_toList] at hu
              obtain ⟨u', e, hv⟩ := hA.get hu
              have hlt := (Array.getElem?_eq_some_iff.1 e).1
              rw [Array.getD_eq_getD_getElem?, Array.getElem?_append, if_pos hlt, e]
              exact hv
            · simp [hA.1]
          have fin : ∀ {ex e1 w1}, (ex = Exit.ret ∨ ex = Exit.normal) → evalCodeT P G sp (evalFnT P G sp dr book fuel n) (dr (evalFnT P G sp dr book fuel n)) fuel body ⟨args.size + (fn.ntmps - args.size), argsL 0 args.toList⟩ wa = some (ex, e1, w1) → e1.has (resTmps fn) = true →
              runW P (results fn (e1.row (resTmps fn))) w1 = some (v, wa2) → Calls P f args' wr fun e wr' => ∃ τ' v', e = .returned v' ∧ τ.le τ' ∧ VR τ' v v' ∧ WT G B w0 τ' wa2 wr' := by
            intro ex e1 w1 hex hc hhas hr
            refine calls_of_wp hfn hbody ?_
            refine evalCodeT_sound hsp ih (hdr _ ih) fuel hc ha hw ?_
            intro τ1 a1' wr1 l1 ha1 hw1
            have hres : ∀ r ∈ fn.results, match r with | .tmp t => VR τ1 ((e1.row (resTmps fn)).getD t undef) (a1'.tmps.getD t undef) | .cell t _ => VR τ1 ((e1.row (resTmps fn)).getD t undef) (a1'.tmps.getD t undef) := by
              intro r hrm
              cases r with
              | tmp t => exact row_vr ha1 hhas t (by unfold resTmps; rw [List.mem_map]; exact ⟨.tmp t, by simpa using hrm, rfl⟩)
              | cell t x => exact row_vr ha1 hhas t (by unfold resTmps; rw [List.mem_map]; exact ⟨.cell t x, by simpa using hrm, rfl⟩)
            obtain ⟨H1, hR1, hw1⟩ := hw1
            obtain ⟨u', hr1, hR2⟩ := runW_sound hr (u := wOf H1) hR1
            obtain ⟨τ2, v', wr2, l2, h2, h3, h4⟩ := (sim_results fn hres).run (wa := wOf H1) hw1 hr1
            have e2 := (ro_results fn a1'.tmps).same h2
            subst e2
            replace h4 : WT G B w0 τ2 wa2 wr2 := ⟨_, hR2, h4⟩
            have key : a1'.defers = [] ∧ ∃ u, (results fn a1'.tmps).run P wr2 = .ok u wr2 ∧ (∃ τ' v', Ending.returned u = .returned v' ∧ τ.le τ' ∧ VR τ' v v' ∧ WT G B w0 τ' wa2 wr2) :=
              ⟨ha1.d', v', h2, τ2, v', rfl, l1.trans l2, h3, h4⟩
            rcases hex with rfl | rfl
            · exact key
            · exact key
          split at h
          · rename_i e1 w1 hc
            split at h
            · rename_i hhas
              split at h
              · rename_i v1 w2 hr
                rw [forceV_eq] at h
                cases h
                exact fin (.inl rfl) hc hhas hr
              · cases h
            · cases h
          · rename_i e1 w1 hc
            split at h
            · rename_i hhas
              split at h
              · rename_i v1 w2 hr
                rw [forceV_eq] at h
                cases h
                exact fin (.inr rfl) hc hhas hr
              · cases h
            · cases h
          · cases h
end sound
end Go.Ev
namespace Go.Ev
open Go.RowKit
set_option linter.unusedVariables false
set_option linter.unusedSimpArgs false

noncomputable def teq (t : T) : T → Bool :=
  T.rec (motive := fun _ => T → Bool) (fun u => match u with | .nil => true | _ => false) (fun o u => match u with | .leaf o' => oeq o o' | _ => false)
    (fun _ _ fl fr u => match u with | .br l r => fl l && fr r | _ => false) t
theorem teq_eq : ∀ (t u : T), teq t u = true → t = u
  | .nil, u, h => by cases u <;> first | rfl | cases h
  | .leaf o, u, h => by
    cases u with
    | leaf o' => rw [oeq_eq o o' h]
    | _ => cases h
  | .br l r, u, h => by
    cases u with
    | br l' r' =>
      have h : (teq l l' && teq r r') = true := h
      rw [Bool.and_eq_true] at h
      rw [teq_eq l l' h.1, teq_eq r r' h.2]
    | _ => cases h
noncomputable def sameBT (r s : Env × TW) : Bool := Nat.beq r.1.n s.1.n && r.1.l.all (fun p => optVeq (look r.1.l p.1) (look s.1.l p.1)) && (Nat.beq r.2.n s.2.n && teq r.2.t s.2.t)
theorem sameBT_spec {r s : Env × TW} (h : sameBT r s = true) {τ : Rel} {a' : Act} (ha : EnvR τ s.1 a') : EnvR τ r.1 a' ∧ r.2 = s.2 := by
  simp only [sameBT, Bool.and_eq_true] at h
  obtain ⟨⟨h1, h2⟩, h3, h4⟩ := h
  refine ⟨⟨fun t v hv => ?_, ha.size.trans (Nat.eq_of_beq_eq_true h1).symm, ha.d'⟩, ?_⟩
  · obtain ⟨p, hp, rfl⟩ := look_mem _ _ _ hv
    have hq := List.all_eq_true.1 h2 p hp
    rw [hv] at hq
    cases hs : look s.1.l p.1 with
    | none => rw [hs] at hq; cases hq
    | some u =>
      rw [hs] at hq
      have := veq_eq _ _ _ hq
      subst this
      exact ha.tmps _ _ hs
  · obtain ⟨e1, t1, n1⟩ := r
    obtain ⟨e2, t2, n2⟩ := s
    have := teq_eq _ _ h4
    have := Nat.eq_of_beq_eq_true h3
    dsimp only at *
    subst_vars; rfl
theorem sameBT_heap {r s : Env × TW} (h : sameBT r s = true) : r.2 = s.2 := by
  simp only [sameBT, Bool.and_eq_true] at h
  obtain ⟨⟨h1, h2⟩, h3, h4⟩ := h
  obtain ⟨e1, t1, n1⟩ := r
  obtain ⟨e2, t2, n2⟩ := s
  have := teq_eq _ _ h4
  have := Nat.eq_of_beq_eq_true h3
  dsimp only at *
  subst_vars; rfl

section ev
variable (P : Program) (G : Gl) (sp : SpecT) (ev : EvF)

noncomputable def stillOpT (w : TW) (e : Env) (o : Oper) : Option Value :=
  if o.op.operands.toList.all (e.ok G) then
    match evalAF P e.eval o with
    | some v => some v
    | none =>
      if kindOk P e.eval o && cutT w e.eval o then
        match still P (execC o.op o.type e.eval) with
        | some (.value v) => some v
        | _ => none
      else none
  else none
noncomputable def takeOneT (ops : Array Oper) (listed : Array Bool) (e : Env) (w : TW) : List Nat → Option (Nat × Oper × Value)
  | [] => none
  | i :: rs => match ops[i]? with
    | none => takeOneT ops listed e w rs
    | some o => match Region.free .any ops listed i && e.fits o.dst with
      | false => takeOneT ops listed e w rs
      | true => match wantedE ops e o with
        | some true => match stillOpT P G w e o with
          | some v => some (i, o, v)
          | none => takeOneT ops listed e w rs
        | some false => some (i, o, undef)
        | none => takeOneT ops listed e w rs
noncomputable def branchBT (ops : Array Oper) (go : Env → TW → Option (Env × TW)) (e : Env) (w : TW) (i : Nat) : Option (Env × TW) := match ops[i]? with
  | none => none
  | some o => match wantedE ops e o with
    | some true => match stepBT P G sp ev o e w with
      | some (e', w') => go e' w'
      | none => none
    | some false => match e.fits o.dst with
      | true => putK e o.dst undef fun e' => go e' w
      | false => none
    | none => none
noncomputable def evalAnyT (ops : Array Oper) : Nat → Array Bool → Env → TW → Option (Env × TW)
  | 0, listed, e, w => if (Region.ready .any ops listed).isEmpty then some (e, w) else none
  | n + 1, listed, e, w => match Region.ready .any ops listed with
    | [] => some (e, w)
    | r :: rs => match takeOneT P G ops listed e w (r :: rs) with
      | some (i, o, v) => forceV 20 v fun v => forceB (listed.setIfInBounds i true) fun l' => putK e o.dst v fun e' => evalAnyT ops n l' e' w
      | none => match branchBT P G sp ev ops (fun e w => forceB (listed.setIfInBounds r true) fun l' => evalAnyT ops n l' e w) e w r with
        | none => none
        | some x => if rs.all (fun j => match branchBT P G sp ev ops (fun e w => forceB (listed.setIfInBounds j true) fun l' => evalAnyT ops n l' e w) e w j with
            | some y => sameBT x y
            | none => false) then some x else none
noncomputable def evalDrawnT : DrawnT := fun ops e w => if Region.noSelect ops then evalAnyT P G sp ev ops ops.size (Array.replicate ops.size false) e w else none
end ev

theorem WT.drewn {G : Gl} {B : FM} {w0 : World} {τ : Rel} {wa : TW} {w : World} (h : WT G B w0 τ wa w) {n : Nat} : WT G B w0 τ wa { w with drawn := n } := by
  obtain ⟨H, hR, h⟩ := h
  exact ⟨H, hR, h.drewn n⟩
section sound
variable {P : Program} {G : Gl} {sp : SpecT} {ev : EvF}

theorem stillOpT_spec {e : Env} {a' : Act} {o : Oper} {v : Value} {τ : Rel} {B : FM} {w0 : World} {w : TW} {wr : World} (ha : EnvR τ e a') (hw : WT G B w0 τ w wr) (h : stillOpT P G w e o = some v) :
    ∃ v', VR τ v v' ∧ ∀ w, (execOp a'.eval o).run P w = .ok (.value v') w := by
  unfold stillOpT at h
  simp only [execQ_eq] at h
  have hg0 := hw.glob
  obtain ⟨H, hR, hw⟩ := hw
  split at h
  · rename_i ho
    have hv : ∀ x ∈ o.op.operands, VR τ (e.eval x) (a'.eval x) := fun x hx => ha.eval hw.glob x (List.all_eq_true.1 ho x (by simpa using hx))
    split at h
    · rename_i u he
      cases h
      obtain ⟨h1, h2⟩ := evalAF_spec hv he
      exact ⟨_, AFb.vr _ _ h1, h2⟩
    · split at h
      · rename_i hk
        rw [Bool.and_eq_true] at hk
        have hs : Sim P NR τ (execOp e.eval o) (execOp a'.eval o) := by
          refine sim_exec e.eval a'.eval o hv hk.1 ?_
          intro t x lo hi mx hop
          have hc := cutT_ref hR hk.2
          unfold cutB at hc
          rw [hop] at hc
          dsimp only at hc
          unfold cutOk
          split
          · rename_i ad l c hx
            rw [hx] at hc
            simp only [Bool.or_eq_true] at hc
            rcases hc with hc | hc
            · exact .inl (hw.exact hc)
            · exact .inr (zeroV_spec hc)
          · rename_i ad hx
            rw [hx] at hc
            exact hw.exact hc
          · trivial
        split at h
        · rename_i u hu
          cases h
          obtain ⟨b, h1, h2⟩ := hs.still hu
          cases h2 with
          | value v v' hvv => exact ⟨v', hvv, fun w => still_run _ h1 w⟩
        · cases h
      · cases h
  · cases h

theorem takeOneT_spec {ops : Array Oper} {listed : Array Bool} {e : Env} {w : TW} : ∀ (rs : List Nat) {i : Nat} {o : Oper} {v : Value}, takeOneT P G ops listed e w rs = some (i, o, v) →
    i ∈ rs ∧ ops[i]? = some o ∧ Region.free .any ops listed i = true ∧ e.fits o.dst = true ∧ ((wantedE ops e o = some true ∧ stillOpT P G w e o = some v) ∨ (wantedE ops e o = some false ∧ v = undef)) := by
  intro rs
  induction rs with
  | nil => intro i o v h; cases h
  | cons r rs ih =>
    intro i o v h
    have up : takeOneT P G ops listed e w rs = some (i, o, v) → i ∈ r :: rs ∧ ops[i]? = some o ∧ Region.free .any ops listed i = true ∧ e.fits o.dst = true ∧ ((wantedE ops e o = some true ∧ stillOpT P G w e o = some v) ∨ (wantedE ops e o = some false ∧ v = undef)) := by
      intro h
      obtain ⟨h1, h2⟩ := ih h
      exact ⟨List.mem_cons_of_mem _ h1, h2⟩
    unfold takeOneT at h
    split at h
    · exact up h
    · rename_i o2 ho
      split at h
      · exact up h
      · rename_i hf
        rw [Bool.and_eq_true] at hf
        split at h
        · rename_i hwt
          split at h
          · rename_i u hu
            cases h
            exact ⟨List.mem_cons_self, ho, hf.1, hf.2, .inl ⟨hwt, hu⟩⟩
          · exact up h
        · rename_i hwt
          cases h
          exact ⟨List.mem_cons_self, ho, hf.1, hf.2, .inr ⟨hwt, rfl⟩⟩
        · exact up h

theorem branchBT_sound (hsp : SpecOkT P G sp) (hev : EvOkT P G ev) {ops : Array Oper} {go : Env → TW → Option (Env × TW)} {Kp : Act → World → Prop} {e e2 : Env} {a' : Act} {wa wa2 : TW} {wr : World} {i : Nat} {τ : Rel} {B : FM} {w0 : World} {Q : Exit → Act → World → Prop}
    (hgo : ∀ {a1 w1}, go a1 w1 = some (e2, wa2) → ∀ {τ' a1' wr'}, τ.le τ' → EnvR τ' a1 a1' → WT G B w0 τ' w1 wr' → Kp a1' wr')
    (ha : EnvR τ e a') (hw : WT G B w0 τ wa wr) (h : branchBT P G sp ev ops go e wa i = some (e2, wa2)) : wpOp P ops Q i Kp a' wr := by
  unfold branchBT at h
  unfold wpOp
  cases ho : ops[i]? with
  | none => rw [ho] at h; cases h
  | some o =>
    rw [ho] at h
    dsimp only at h ⊢
    split at h
    · rename_i hwant
      rw [if_pos (wantedE_spec hwant ha)]
      split at h
      · rename_i a1 w1 hs
        exact .inl (stepBT_sound hsp hev hs ha hw (fun τ' a1' wr' l1 ha1 hw1 => hgo h l1 ha1 hw1))
      · cases h
    · rename_i hwant
      rw [if_neg (by rw [wantedE_spec hwant ha]; simp)]
      split at h
      · rename_i hfit
        rw [putK_eq] at h
        exact hgo h (Rel.le.refl _) (ha.put o.dst hfit (undef_vr _)) hw
      · cases h
    · cases h

theorem evalAnyT_sound (hsp : SpecOkT P G sp) (hev : EvOkT P G ev) {ops : Array Oper} (hns : Region.noSelect ops = true) : ∀ (n : Nat) {listed : Array Bool} {e e2 : Env} {wa wa2 : TW}, evalAnyT P G sp ev ops n listed e wa = some (e2, wa2) → ∀ {B : FM} {w0 : World} {τ : Rel} {a' : Act} {wr : World}, EnvR τ e a' → WT G B w0 τ wa wr →
    ∀ {Q : Exit → Act → World → Prop}, (∀ τ' a2' wr', τ.le τ' → EnvR τ' e2 a2' → WT G B w0 τ' wa2 wr' → Q .normal a2' wr') → wpAny P .any ops (QN Q) n listed a' wr := by
  intro n
  induction n with
  | zero =>
    intro listed a a2 wa wa2 h B w0 τ a' wr ha hw Q hQ
    unfold evalAnyT at h
    split at h
    · rename_i he
      cases h
      exact wpAny_done (P := P) (Q := QN Q) (by simpa using he) (hQ τ _ _ (Rel.le.refl _) ha hw) 0
    · cases h
  | succ n ih =>
    intro listed a a2 wa wa2 h B w0 τ a' wr ha hw Q hQ
    unfold evalAnyT at h
    split at h
    · rename_i he
      cases h
      exact wpAny_done (P := P) (Q := QN Q) he (hQ τ _ _ (Rel.le.refl _) ha hw) (n + 1)
    · rename_i r rs he
      split at h
      · rename_i i o v ht
        simp only [forceV_eq, forceB_eq, putK_eq] at h
        obtain ⟨h1, h2, h3, hfit, h4⟩ := takeOneT_spec _ ht
        have hy : ∃ v', VR τ v v' ∧ Yields P ops o v' a' := by
          rcases h4 with ⟨hwt, hs⟩ | ⟨hwt, rfl⟩
          · obtain ⟨v', hv, hr⟩ := stillOpT_spec ha hw hs
            exact ⟨v', hv, .inl ⟨wantedE_spec hwt ha, hr⟩⟩
          · exact ⟨undef, undef_vr _, .inr ⟨wantedE_spec hwt ha, rfl⟩⟩
        obtain ⟨v', hv, hy⟩ := hy
        refine wpAny_take h2 hns h3 (by rw [he]; simpa using h1) (fun c a w hp => hp.elim) hy ?_
        exact ih h (ha.put o.dst hfit hv) hw hQ
      · split at h
        · cases h
        · rename_i x hx
          split at h
          · rename_i hall
            cases h
            refine wpAny_all he (by simp) ?_
            intro j hj
            have one : ∀ {j a3 w3}, branchBT P G sp ev ops (fun a w => forceB (listed.setIfInBounds j true) fun l' => evalAnyT P G sp ev ops n l' a w) a wa j = some (a3, w3) → (∀ τ a', EnvR τ a3 a' → EnvR τ a2 a') → w3 = wa2 →
                wpOp P ops (QN Q) j (wpAny P .any ops (QN Q) n (listed.setIfInBounds j true)) a' wr := by
              intro j a3 w3 hb e1 e2
              refine branchBT_sound hsp hev ?_ ha hw hb
              intro a1 w1 hg τ' a1' wr' l1 ha1 hw1
              rw [forceB_eq] at hg
              exact ih hg ha1 hw1 (fun τ2 a2' wr2 l2 h2 h3 => hQ τ2 a2' wr2 (l1.trans l2) (e1 _ _ h2) (e2 ▸ h3))
            rcases List.mem_cons.1 hj with rfl | hj
            · exact one hx (fun _ _ h => h) rfl
            · have hb := List.all_eq_true.1 hall j hj
              split at hb
              · rename_i y hy
                exact one (a3 := y.1) (w3 := y.2) hy (fun τ a' h => (sameBT_spec hb h).1) (sameBT_heap hb).symm
              · cases hb
          · cases h

theorem evalDrawnT_ok (hm : P.follows .mixedOrders = true) (hsp : SpecOkT P G sp) (ev : EvF) (hev : EvOkT P G ev) : DrOkT P G (evalDrawnT P G sp ev) := by
  intro id ops a a2 wa wa2 h B w0 τ a' wr ha hw Q hQ
  unfold evalDrawnT at h
  split at h
  · rename_i hns
    refine Code.wp_mono (Q := QN Q) QN.imp ?_
    refine wp_region_any hm ?_
    exact evalAnyT_sound hsp hev hns _ h ha hw.drewn hQ
  · cases h
end sound
end Go.Ev
namespace Go.Ev
open Go.RowKit
set_option linter.unusedVariables false
set_option linter.unusedSimpArgs false

theorem RO.sameT {α : Type} {P : Program} {s : Sem α} (h : RO s) : ∀ {w w' : TW} {a : α}, runW P s w = some (a, w') → w' = w := by
  induction h with
  | pure a => intro w w' b hr; cases hr; rfl
  | load m a k _ ih =>
    intro w w' b hr
    unfold runW at hr
    split at hr <;> first | (cases hr; done) | skip
    split at hr <;> first | (cases hr; done) | skip
    split at hr <;> first | (cases hr; done) | skip
    exact ih _ hr
  | program k _ ih => intro w w' b hr; exact ih P hr
  | mark m k _ ih => intro w w' b hr; exact ih hr
  | halt h => intro w w' b hr; cases hr

section congr
variable {P : Program} {ρ ρ' : Operand → Value} {o : Oper}
theorem kindOk_congr (h : ∀ x ∈ o.op.operands, ρ x = ρ' x) : kindOk P ρ o = kindOk P ρ' o := by
  obtain ⟨dst, op, type, pos, after, guard⟩ := o
  dsimp only at h
  unfold kindOk
  cases op <;> first | rfl | skip
  all_goals simp only [Op.operands] at h
  case binOp b t x y u =>
    cases b <;> first | rfl | (dsimp only; rw [h x (by simp), h y (by simp)])
  case nilCheck x => dsimp only; rw [h x (by simp)]
  case makeFunc fn a b => cases fn <;> rfl
  case slice t x lo hi mx => cases hi <;> cases mx <;> rfl
  case call c =>
    dsimp only
    cases hc : c.callee with
    | value f => dsimp only; rw [h f (by simp [Call.operands, hc])]
    | invoke r m => dsimp only; rw [h r (by simp [Call.operands, hc])]
    | builtin b => cases b <;> rfl
theorem cutT_congr {w : TW} (h : ∀ x ∈ o.op.operands, ρ x = ρ' x) : cutT w ρ o = cutT w ρ' o := by
  obtain ⟨dst, op, type, pos, after, guard⟩ := o
  dsimp only at h
  unfold cutT
  cases op <;> first | rfl | skip
  simp only [Op.operands] at h
  rename_i t x lo hi mx
  dsimp only
  rw [h x (by simp)]
  have hlo : lo.map ρ = lo.map ρ' := by
    cases lo with
    | none => rfl
    | some y => simp [h y (by simp)]
  rw [hlo]
theorem evalAF_congr (hs : noSel o = true) (h : ∀ x ∈ o.op.operands, ρ x = ρ' x) : evalAF P ρ o = evalAF P ρ' o := by
  have e : execOp ρ o = execOp ρ' o := execOp_congr o (fun cs b hx => by unfold noSel at hs; rw [hx] at hs; cases hs) h
  unfold evalAF
  simp only [execQ_eq]
  have ha : o.op.operands.toList.all (fun x => AFb 10 (ρ x)) = o.op.operands.toList.all (fun x => AFb 10 (ρ' x)) := by
    rw [Bool.eq_iff_iff, List.all_eq_true, List.all_eq_true]
    exact ⟨fun k x hx => by rw [← h x (by simpa using hx)]; exact k x hx, fun k x hx => by rw [h x (by simpa using hx)]; exact k x hx⟩
  rw [e, ha]
theorem specA_congr {w : TW} (h : ∀ x ∈ o.op.operands, ρ x = ρ' x) : specA P ρ o w = specA P ρ' o w := by
  obtain ⟨dst, op, type, pos, after, guard⟩ := o
  dsimp only at h
  unfold specA
  cases op <;> first | rfl | skip
  all_goals simp only [Op.operands] at h
  case lookup t m k ok => dsimp only; rw [h m (by simp), h k (by simp)]
  case mapUpdate t m k v => dsimp only; rw [h m (by simp), h k (by simp), h v (by simp)]
  case insert t m k v => dsimp only; rw [h m (by simp), h k (by simp), h v (by simp)]
  case call c =>
    obtain ⟨callee, args, ts⟩ := c
    cases callee <;> first | rfl | skip
    rename_i b
    have harg : ∀ x ∈ args, ρ x = ρ' x := fun x hx => h x (by simp [Call.operands, hx])
    cases b <;> first | rfl | skip
    all_goals
      dsimp only
      cases ha : args.toList with
      | nil => rfl
      | cons s r =>
        cases r with
        | nil => rfl
        | cons x r2 =>
          cases r2 with
          | nil =>
            obtain ⟨m1, m2⟩ := mem2 ha
            first
              | (simp only [harg s m1, harg x m2]; done)
              | (cases ts.toList <;> first | rfl | (dsimp only; rw [harg s m1, harg x m2]))
          | cons y r3 => rfl
theorem specT_congr {w : TW} (h : ∀ x ∈ o.op.operands, ρ x = ρ' x) : specT P ρ o w = specT P ρ' o w := by
  unfold specT
  split
  · rename_i src dst x hop
    rw [h x (by rw [hop]; simp [Op.operands])]
  · rename_i t m k hop
    rw [h m (by rw [hop]; simp [Op.operands]), h k (by rw [hop]; simp [Op.operands])]
  · rename_i t m s x hop
    rw [h m (by rw [hop]; simp [Op.operands]), h s (by rw [hop]; simp [Op.operands]), h x (by rw [hop]; simp [Op.operands])]
  · exact specA_congr h
end congr

section quiet
variable {P : Program} {G : Gl} {B : FM} {w0 : World}
theorem evalOpT_sound2 {sp : SpecT} (hsp : SpecOkT P G sp) {okx : Operand → Bool} {ρ ρ' : Operand → Value} {o : Oper} {wa wa' : TW} {wr : World} {n : Next} {τ : Rel} (hv : ∀ x ∈ o.op.operands, okx x = true → VR τ (ρ x) (ρ' x)) (hw : WT G B w0 τ wa wr) (h : evalOpT P sp okx ρ o wa = some (n, wa')) :
    ∃ τ' n' wr', τ.le τ' ∧ (execOp ρ' o).run P wr = .ok n' wr' ∧ NR τ' n n' ∧ WT G B w0 τ' wa' wr' := by
  have hb : ∀ x, okx x = true → x ∈ o.op.operands ∨ True := fun _ _ => .inr trivial
  obtain ⟨H, hR, hw⟩ := hw
  unfold evalOpT at h
  split at h
  · rename_i ho
    have hv : ∀ x ∈ o.op.operands, VR τ (ρ x) (ρ' x) := fun x hx => hv x hx (List.all_eq_true.1 ho x (by simpa using hx))
    split at h
    · rename_i v he
      cases h
      obtain ⟨h1, h2⟩ := evalAF_spec hv he
      exact ⟨τ, _, wr, Rel.le.refl τ, h2 wr, .value _ _ (AFb.vr _ _ h1), H, hR, hw⟩
    · rename_i hna
      split at h
      · rename_i hk
        rw [Bool.and_eq_true] at hk
        have hs : Sim P NR τ (execOp ρ o) (execOp ρ' o) := by
          refine sim_exec ρ ρ' o hv hk.1 ?_
          intro t x lo hi mx hop
          have hc := cutT_ref hR hk.2
          unfold cutB at hc
          rw [hop] at hc
          dsimp only at hc
          unfold cutOk
          split
          · rename_i ad l c hx
            rw [hx] at hc
            simp only [Bool.or_eq_true] at hc
            rcases hc with hc | hc
            · exact .inl (hw.exact hc)
            · exact .inr (zeroV_spec hc)
          · rename_i ad hx
            rw [hx] at hc
            exact hw.exact hc
          · trivial
        obtain ⟨u', r1, r2⟩ := runF_sound h (u := wOf H) hR
        obtain ⟨τ', n', wr', l1, e1, e2, e3⟩ := hs.run (wa := wOf H) hw r1
        exact ⟨τ', n', wr', l1, e1, e2, _, r2, e3⟩
      · obtain ⟨τ', n', wr', H', l1, e1, e2, e3, e4⟩ := hsp _ _ o wa wa' n h B w0 τ wr H hv hR hw
        exact ⟨τ', n', wr', l1, e1, e2, H', e3, e4⟩
  · cases h

def isLd (o : Oper) : Bool := match o.op with
  | .load _ _ => true
  | .lookup _ _ _ _ => true
  | _ => false
theorem load_same {ρ : Operand → Value} {o : Oper} {okx : Operand → Bool} {w w' : TW} {n : Next} (hl : isLd o = true) (h : evalOpT P (specT P) okx ρ o w = some (n, w')) : w' = w := by
  obtain ⟨dst, op, type, pos, after, guard⟩ := o
  unfold evalOpT at h
  split at h <;> first | (cases h; done) | skip
  split at h
  · cases h; rfl
  · cases op <;> first | (cases hl; done) | skip
    · split at h
      · unfold runF at h
        simp only [execQ_eq] at h
        try dsimp only at h
        split at h
        · cases h; rfl
        refine RO.sameT ?_ h
        try simp only [execOp]
        refine RO.then (RO.then ?_ (fun a => ro_loadVar _ a)) (fun v => .pure _)
        unfold Instr.sureAddr
        split
        · exact .pure _
        · exact .halt _
      · unfold specT specA at h
        cases h
    · split at h
      · rename_i hk
        cases hk
      · unfold specT specA at h
        dsimp only at h
        split at h <;> first | (cases h; done) | skip
        cases h; rfl

/-- What writes nothing. -/
noncomputable def quietT0 (P : Program) (G : Gl) (w : TW) (e : Env) (o : Oper) : Option Value := match isLd o with
  | true => match evalOpT P (specT P) (e.ok G) e.eval o w with
    | some (.value v, _) => some v
    | _ => none
  | false => stillOpT P G w e o
theorem stillOpT_spec2 {e : Env} {ρ' : Operand → Value} {o : Oper} {v : Value} {τ : Rel} {w : TW} {wr : World} (hv : ∀ x ∈ o.op.operands, e.ok G x = true → VR τ (e.eval x) (ρ' x)) (hw : WT G B w0 τ w wr) (h : stillOpT P G w e o = some v) :
    ∃ v', VR τ v v' ∧ ∀ w, (execOp ρ' o).run P w = .ok (.value v') w := by
  unfold stillOpT at h
  simp only [execQ_eq] at h
  obtain ⟨H, hR, hw⟩ := hw
  split at h
  · rename_i ho
    have hv : ∀ x ∈ o.op.operands, VR τ (e.eval x) (ρ' x) := fun x hx => hv x hx (List.all_eq_true.1 ho x (by simpa using hx))
    split at h
    · rename_i u he
      cases h
      obtain ⟨h1, h2⟩ := evalAF_spec hv he
      exact ⟨_, AFb.vr _ _ h1, h2⟩
    · split at h
      · rename_i hk
        rw [Bool.and_eq_true] at hk
        have hs : Sim P NR τ (execOp e.eval o) (execOp ρ' o) := by
          refine sim_exec e.eval ρ' o hv hk.1 ?_
          intro t x lo hi mx hop
          have hc := cutT_ref hR hk.2
          unfold cutB at hc
          rw [hop] at hc
          dsimp only at hc
          unfold cutOk
          split
          · rename_i ad l c hx
            rw [hx] at hc
            simp only [Bool.or_eq_true] at hc
            rcases hc with hc | hc
            · exact .inl (hw.exact hc)
            · exact .inr (zeroV_spec hc)
          · rename_i ad hx
            rw [hx] at hc
            exact hw.exact hc
          · trivial
        split at h
        · rename_i u hu
          cases h
          obtain ⟨b, h1, h2⟩ := hs.still hu
          cases h2 with
          | value v v' hvv => exact ⟨v', hvv, fun w => still_run _ h1 w⟩
        · cases h
      · cases h
  · cases h
theorem quietT0_spec {e : Env} {ρ' : Operand → Value} {o : Oper} {v : Value} {τ : Rel} {w : TW} {wr : World} (hv : ∀ x ∈ o.op.operands, e.ok G x = true → VR τ (e.eval x) (ρ' x)) (hw : WT G B w0 τ w wr) (h : quietT0 P G w e o = some v) :
    ∃ τ' v' wr', τ.le τ' ∧ (execOp ρ' o).run P wr = .ok (.value v') wr' ∧ VR τ' v v' ∧ WT G B w0 τ' w wr' := by
  unfold quietT0 at h
  split at h
  · rename_i hl
    split at h <;> first | (cases h; done) | skip
    rename_i u w2 he
    cases h
    have e1 := load_same hl he
    subst e1
    obtain ⟨τ', n', wr', l1, r1, r2, r3⟩ := evalOpT_sound2 (specT_ok P G) hv hw he
    cases r2 with
    | value v v' hvv => exact ⟨τ', v', wr', l1, r1, hvv, r3⟩
  · obtain ⟨v', h1, h2⟩ := stillOpT_spec2 hv hw h
    exact ⟨τ, v', wr, Rel.le.refl _, h2 wr, h1, hw⟩
/-- It asks for no more than its operands. -/
theorem quietT0_congr {e e' : Env} {o : Oper} {w : TW} (hs : noSel o = true) (h : ∀ x ∈ o.op.operands, e.eval x = e'.eval x ∧ e.ok G x = e'.ok G x) : quietT0 P G w e o = quietT0 P G w e' o := by
  have h1 : ∀ x ∈ o.op.operands, e.eval x = e'.eval x := fun x hx => (h x hx).1
  have ha : o.op.operands.toList.all (e.ok G) = o.op.operands.toList.all (e'.ok G) := by
    rw [Bool.eq_iff_iff, List.all_eq_true, List.all_eq_true]
    exact ⟨fun k x hx => by rw [← (h x (by simpa using hx)).2]; exact k x hx, fun k x hx => by rw [(h x (by simpa using hx)).2]; exact k x hx⟩
  have ex : execOp e.eval o = execOp e'.eval o := execOp_congr o (fun cs b hx => by unfold noSel at hs; rw [hx] at hs; cases hs) h1
  unfold quietT0 evalOpT stillOpT
  simp only [execQ_eq]
  rw [ha, evalAF_congr hs h1, kindOk_congr h1, cutT_congr h1, runF_congr h1 ex, ex, specT_congr h1]

/-- One operation, and its value. -/
noncomputable def stepV0 (P : Program) (G : Gl) (sp : SpecT) (ev : EvF) (o : Oper) (e : Env) (w : TW) : Option (Value × TW) :=
  match evalOpT P sp (e.ok G) e.eval o w with
  | some (.value v, w') => forceV 20 v fun v => some (v, w')
  | some (.skip, w') => some (undef, w')
  | some (.enter f args, w') => forceArr args fun args => match ev f args w' with
    | some (v, w'') => forceV 20 v fun v => some (v, w'')
    | none => none
  | _ => none
theorem stepV0_sound {sp : SpecT} {ev : EvF} (hsp : SpecOkT P G sp) (hev : EvOkT P G ev) {o : Oper} {e : Env} {v : Value} {wa wa2 : TW} (h : stepV0 P G sp ev o e wa = some (v, wa2)) {τ : Rel} {a' : Act} {wr : World} (hv : ∀ x ∈ o.op.operands, e.ok G x = true → VR τ (e.eval x) (a'.eval x)) (hw : WT G B w0 τ wa wr)
    {K : Act → World → Prop} {Q : Exit → Act → World → Prop} (hK : ∀ τ' v' wr', τ.le τ' → VR τ' v v' → WT G B w0 τ' wa2 wr' → K (a'.put o.dst v') wr') : o.wp P a' wr K Q := by
  unfold stepV0 at h
  unfold Oper.wp
  split at h
  · rename_i v1 w' he
    simp only [forceV_eq, Option.some.injEq, Prod.mk.injEq] at h
    obtain ⟨rfl, rfl⟩ := h
    obtain ⟨τ', n', wr', h1, h2, h3, h4⟩ := evalOpT_sound2 hsp hv hw he
    rw [h2]
    cases h3 with
    | value v v' hvv => exact hK τ' _ _ h1 hvv h4
  · rename_i w' he
    simp only [Option.some.injEq, Prod.mk.injEq] at h
    obtain ⟨rfl, rfl⟩ := h
    obtain ⟨τ', n', wr', h1, h2, h3, h4⟩ := evalOpT_sound2 hsp hv hw he
    rw [h2]
    cases h3 with
    | skip => exact hK τ' _ _ h1 (undef_vr _) h4
  · rename_i f args w' he
    simp only [forceArr_eq] at h
    split at h
    · rename_i v1 w'' hc
      simp only [forceV_eq, Option.some.injEq, Prod.mk.injEq] at h
      obtain ⟨rfl, rfl⟩ := h
      obtain ⟨τ', n', wr', h1, h2, h3, h4⟩ := evalOpT_sound2 hsp hv hw he
      rw [h2]
      cases h3 with
      | enter f xs ys hx =>
        refine (hev _ _ _ _ _ hc B w0 τ' ys wr' hx h4).mono ?_
        rintro e wr2 ⟨τ2, v', rfl, l2, hvv, w2⟩
        exact hK τ2 _ _ (h1.trans l2) hvv w2
    · cases h
  · cases h
end quiet
end Go.Ev
namespace Go.Ev
open Go.RowKit
set_option linter.unusedVariables false
set_option linter.unusedSimpArgs false

noncomputable def lookR (l : List (Nat × Value)) (t : Nat) : Option Value := List.rec (motive := fun _ => Option Value) none (fun p _ ih => Bool.rec (motive := fun _ => Option Value) ih (some p.2) (Nat.beq p.1 t)) l
theorem lookR_eq : ∀ (l : List (Nat × Value)) (t : Nat), lookR l t = look l t
  | [], t => rfl
  | (k, v) :: r, t => by
    show Bool.rec (motive := fun _ => Option Value) (lookR r t) (some v) (Nat.beq k t) = look ((k, v) :: r) t
    unfold look
    rw [lookR_eq r t]
    cases Nat.beq k t <;> rfl
def constK (v : Value) : Option Value := match v with
  | .int _ _ => some v
  | .bool _ => some v
  | .string _ => some v
  | _ => none
noncomputable def Env.get (e : Env) (x : Operand) : Option Value := match x with
  | .tmp t => lookR e.l t
  | .const v => constK v
  | _ => none
theorem Env.get_spec {G : Gl} {e : Env} {x : Operand} {v : Value} (h : e.get x = some v) : e.ok G x = true ∧ e.eval x = v := by
  unfold Env.get at h
  cases x with
  | tmp t =>
    dsimp only at h
    rw [lookR_eq] at h
    constructor
    · show (look e.l t).isSome = true
      rw [h]; rfl
    · show (match look e.l t with | some v => v | none => undef) = v
      rw [h]
  | const u =>
    dsimp only at h
    unfold constK at h
    split at h <;> first | (cases h; exact ⟨rfl, rfl⟩) | cases h
  | global g => cases h
  | func f => cases h
theorem Env.get_congr {G : Gl} {e e' : Env} {x : Operand} (h : e.eval x = e'.eval x ∧ e.ok G x = e'.ok G x) : e.get x = e'.get x := by
  unfold Env.get
  cases x with
  | tmp t =>
    dsimp only
    rw [lookR_eq, lookR_eq]
    have h1 : (match look e.l t with | some v => v | none => undef) = (match look e'.l t with | some v => v | none => undef) := h.1
    have h2 : (look e.l t).isSome = (look e'.l t).isSome := h.2
    cases h3 : look e.l t with
    | none =>
      rw [h3] at h2
      cases h4 : look e'.l t with
      | none => rfl
      | some u => rw [h4] at h2; cases h2
    | some v =>
      rw [h3] at h1 h2
      cases h4 : look e'.l t with
      | none => rw [h4] at h2; cases h2
      | some u => rw [h4] at h1; exact congrArg some h1
  | _ => rfl

noncomputable def forceN {β : Type} (n : Nat) (k : Nat → β) : β := Nat.rec (motive := fun _ => β) (k 0) (fun m _ => k (Nat.succ m)) n
theorem forceN_eq {β : Type} (n : Nat) (k : Nat → β) : forceN n k = k n := by cases n <;> rfl
noncomputable def boolK (b : Bool) : Option Value := Bool.rec (motive := fun _ => Option Value) (some (.bool false)) (some (.bool true)) b
theorem boolK_eq (b : Bool) : boolK b = some (.bool b) := by cases b <;> rfl
def kindN : IntKind → Nat
  | .i8 => 0 | .i16 => 1 | .i32 => 2 | .i64 => 3 | .u8 => 4 | .u16 => 5 | .u32 => 6 | .u64 => 7
theorem kindN_inj {k k' : IntKind} (h : Nat.beq (kindN k) (kindN k') = true) : k = k' := by
  have := Nat.eq_of_beq_eq_true h
  cases k <;> cases k' <;> first | rfl | (simp [kindN] at this)
/-- Within the kind. -/
noncomputable def smallN (k : IntKind) (n : Nat) : Bool := match k with
  | .i8 => Nat.blt n 128
  | .i16 => Nat.blt n 32768
  | .i32 => Nat.blt n 2147483648
  | .i64 => Nat.blt n 9223372036854775808
  | .u8 => Nat.blt n 256
  | .u16 => Nat.blt n 65536
  | .u32 => Nat.blt n 4294967296
  | .u64 => Nat.blt n 18446744073709551616
def limN (k : IntKind) : Nat := if k.signed then k.bits - 1 else k.bits
theorem smallN_lt {k : IntKind} {n : Nat} (h : smallN k n = true) : n < 2 ^ limN k := by
  unfold smallN at h
  cases k <;> (dsimp only at h; rw [Nat.blt_eq] at h; exact h)
theorem smallN_of {k : IntKind} {n : Nat} (h : n < 2 ^ limN k) : smallN k n = true := by
  unfold smallN
  cases k <;> (dsimp only; rw [Nat.blt_eq]; exact h)
theorem smallN_wrap {k : IntKind} {n : Nat} (h : smallN k n = true) : k.wrap (n : Int) = n := by
  have hl := smallN_lt h
  unfold limN at hl
  have hb : 1 ≤ k.bits := by cases k <;> decide
  have hle : (2 : Nat) ^ (if k.signed then k.bits - 1 else k.bits) ≤ 2 ^ k.bits := Nat.pow_le_pow_right (by decide) (by split <;> omega)
  have hlt : n < 2 ^ k.bits := Nat.lt_of_lt_of_le hl hle
  have hm : (n : Int) % (2 ^ k.bits : Int) = n := Int.emod_eq_of_lt (by omega) (by exact_mod_cast hlt)
  unfold IntKind.wrap
  simp only [hm]
  cases hs : k.signed with
  | false => simp
  | true =>
    rw [hs, if_pos rfl] at hl
    rw [if_neg]
    simp only [Bool.true_and, ge_iff_le, decide_eq_true_eq, Int.not_le]
    exact_mod_cast hl
theorem smallN_le {k : IntKind} {m n : Nat} (h : smallN k m = true) (hn : n ≤ m) : smallN k n = true := smallN_of (Nat.lt_of_le_of_lt hn (smallN_lt h))
noncomputable def natBin (b : BinOp) (k : IntKind) (m n : Nat) : Option Value := match b with
  | .eql => boolK (Nat.beq m n)
  | .neq => boolK (Bool.rec true false (Nat.beq m n))
  | .lss => boolK (Nat.blt m n)
  | .leq => boolK (Nat.ble m n)
  | .gtr => boolK (Nat.blt n m)
  | .geq => boolK (Nat.ble n m)
  | .add => match smallN k (m + n) with
    | true => forceN (m + n) fun s => some (.int k (.ofNat s))
    | false => none
  | .sub => match Nat.ble n m && smallN k m with
    | true => forceN (m - n) fun s => some (.int k (.ofNat s))
    | false => none
  | .mul => match smallN k (m * n) with
    | true => forceN (m * n) fun s => some (.int k (.ofNat s))
    | false => none
  | .quo => match Nat.blt 0 n && smallN k m with
    | true => forceN (m / n) fun s => some (.int k (.ofNat s))
    | false => none
  | .rem => match Nat.blt 0 n with
    | true => forceN (m % n) fun s => some (.int k (.ofNat s))
    | false => none
  | .and => match smallN k m && smallN k n with
    | true => forceN (Nat.land m n) fun s => some (.int k (.ofNat s))
    | false => none
  | .or => match smallN k m && smallN k n with
    | true => forceN (Nat.lor m n) fun s => some (.int k (.ofNat s))
    | false => none
  | .shl => match Nat.ble n 63 && smallN k (m * 2 ^ n) with
    | true => forceN (m * 2 ^ n) fun s => some (.int k (.ofNat s))
    | false => none
  | .shr => match Nat.ble n 8 with
    | true => forceN (m / 2 ^ n) fun s => some (.int k (.ofNat s))
    | false => match Nat.ble n k.bits with
      | true => forceN (m / 2 ^ n) fun s => some (.int k (.ofNat s))
      | false => none
  | _ => none
theorem natBin_spec {P : Program} {b : BinOp} {t : TypeId} {k : IntKind} {m n : Nat} {v : Value} (h : natBin b k m n = some v) : still P (binOp b t (.int k (.ofNat m)) (.int k (.ofNat n))) = some v ∧ AFb 10 v = true := by
  have hadd : natBin .add k m n = some v → still P (binOp .add t (.int k (.ofNat m)) (.int k (.ofNat n))) = some v ∧ AFb 10 v = true := by
    intro h
    unfold natBin at h
    dsimp only at h
    split at h <;> first | (cases h; done) | skip
    rename_i hs
    rw [forceN_eq] at h
    cases h
    refine ⟨?_, rfl⟩
    have := smallN_wrap hs
    simp only [binOp, ne_eq, not_true_eq_false, if_false, Op.intArith]
    show some (Value.int k (k.wrap ((m : Int) + (n : Int)))) = _
    rw [show ((m : Int) + (n : Int)) = ((m + n : Nat) : Int) by omega, this]
    rfl
  have hsub : natBin .sub k m n = some v → still P (binOp .sub t (.int k (.ofNat m)) (.int k (.ofNat n))) = some v ∧ AFb 10 v = true := by
    intro h
    unfold natBin at h
    dsimp only at h
    split at h <;> first | (cases h; done) | skip
    rename_i hs
    rw [Bool.and_eq_true] at hs
    rw [forceN_eq] at h
    cases h
    refine ⟨?_, rfl⟩
    have hle : n ≤ m := Nat.le_of_ble_eq_true hs.1
    have hsm : smallN k (m - n) = true := smallN_le hs.2 (Nat.sub_le _ _)
    have := smallN_wrap hsm
    simp only [binOp, ne_eq, not_true_eq_false, if_false, Op.intArith]
    show some (Value.int k (k.wrap ((m : Int) - (n : Int)))) = _
    rw [show ((m : Int) - (n : Int)) = ((m - n : Nat) : Int) by omega, this]
    rfl
  have hcmp : ∀ (b : BinOp) (c d : Bool), natBin b k m n = boolK c → still P (binOp b t (.int k (.ofNat m)) (.int k (.ofNat n))) = some (.bool d) → c = d → natBin b k m n = some v → still P (binOp b t (.int k (.ofNat m)) (.int k (.ofNat n))) = some v ∧ AFb 10 v = true := by
    rintro b c _ h1 h2 rfl h3
    rw [h1, boolK_eq] at h3
    cases h3
    exact ⟨h2, rfl⟩
  have hst : ∀ (b : BinOp) (d : Bool), binOp b t (.int k (.ofNat m)) (.int k (.ofNat n)) = (if k ≠ k then stuck "BinOp: operands of different kinds" else pure (.bool d)) → still P (binOp b t (.int k (.ofNat m)) (.int k (.ofNat n))) = some (.bool d) := by
    intro b d e
    rw [e]
    simp only [ne_eq, not_true_eq_false, if_false]
    rfl
  have hkb : 8 ≤ k.bits ∧ k.bits ≤ 64 := by cases k <;> decide
  have hlb : limN k ≤ k.bits := by unfold limN; split <;> omega
  have ofi : ∀ m : Nat, smallN k m = true → (BitVec.ofInt k.bits (Int.ofNat m)).toNat = m := by
    intro m hm
    have h1 := Nat.lt_of_lt_of_le (smallN_lt hm) (Nat.pow_le_pow_right (by decide : 0 < 2) hlb)
    rw [Int.ofNat_eq_natCast, BitVec.ofInt_natCast, BitVec.toNat_ofNat, Nat.mod_eq_of_lt h1]
  cases b
  case add => exact hadd h
  case sub => exact hsub h
  case eql =>
    refine hcmp .eql (Nat.beq m n) ((Int.ofNat m) == (Int.ofNat n)) rfl (hst _ _ rfl) ?_ h
    rw [Bool.eq_iff_iff]
    simp [Nat.beq_eq]
    omega
  case neq =>
    refine hcmp .neq (Bool.rec true false (Nat.beq m n)) ((Int.ofNat m) != (Int.ofNat n)) rfl (hst _ _ rfl) ?_ h
    cases hq : Nat.beq m n
    · have : ¬ (m = n) := fun e => by rw [e, Nat.beq_refl] at hq; cases hq
      simp
      omega
    · have := Nat.eq_of_beq_eq_true hq
      simp [this]
  case lss =>
    refine hcmp .lss (Nat.blt m n) (decide ((Int.ofNat m) < (Int.ofNat n))) rfl (hst _ _ rfl) ?_ h
    rw [Bool.eq_iff_iff]; simp [Nat.blt_eq]
  case leq =>
    refine hcmp .leq (Nat.ble m n) (decide ((Int.ofNat m) ≤ (Int.ofNat n))) rfl (hst _ _ rfl) ?_ h
    rw [Bool.eq_iff_iff]; simp
  case gtr =>
    refine hcmp .gtr (Nat.blt n m) (decide ((Int.ofNat m) > (Int.ofNat n))) rfl (hst _ _ rfl) ?_ h
    rw [Bool.eq_iff_iff]; simp [Nat.blt_eq]
  case geq =>
    refine hcmp .geq (Nat.ble n m) (decide ((Int.ofNat m) ≥ (Int.ofNat n))) rfl (hst _ _ rfl) ?_ h
    rw [Bool.eq_iff_iff]; simp
  case mul =>
    unfold natBin at h
    dsimp only at h
    split at h <;> first | (cases h; done) | skip
    rename_i hs
    rw [forceN_eq] at h
    cases h
    refine ⟨?_, rfl⟩
    have := smallN_wrap hs
    simp only [binOp, ne_eq, not_true_eq_false, if_false, Op.intArith]
    show some (Value.int k (k.wrap ((m : Int) * (n : Int)))) = _
    rw [show ((m : Int) * (n : Int)) = ((m * n : Nat) : Int) by simp, this]
    rfl
  case quo =>
    unfold natBin at h
    dsimp only at h
    split at h <;> first | (cases h; done) | skip
    rename_i hs
    rw [Bool.and_eq_true] at hs
    rw [forceN_eq] at h
    cases h
    refine ⟨?_, rfl⟩
    have hn : 0 < n := by simpa [Nat.blt_eq] using hs.1
    have := smallN_wrap (smallN_le hs.2 (Nat.div_le_self m n))
    simp only [binOp, ne_eq, not_true_eq_false, if_false, Op.intDiv]
    rw [if_neg (by simp; omega)]
    show some (Value.int k (k.wrap (Int.tdiv (m : Int) (n : Int)))) = _
    rw [show Int.tdiv (m : Int) (n : Int) = ((m / n : Nat) : Int) from rfl, this]
    rfl
  case rem =>
    unfold natBin at h
    dsimp only at h
    split at h <;> first | (cases h; done) | skip
    rename_i hs
    rw [forceN_eq] at h
    cases h
    refine ⟨?_, rfl⟩
    have hn : 0 < n := by simpa [Nat.blt_eq] using hs
    simp only [binOp, ne_eq, not_true_eq_false, if_false, Op.intDiv]
    rw [if_neg (by simp; omega)]
    rfl
  case and =>
    unfold natBin at h
    dsimp only at h
    split at h <;> first | (cases h; done) | skip
    rename_i hs
    rw [Bool.and_eq_true] at hs
    rw [forceN_eq] at h
    cases h
    refine ⟨?_, rfl⟩
    have hle : Nat.land m n ≤ m := Nat.and_le_left
    have := smallN_wrap (smallN_le hs.1 hle)
    simp only [binOp, ne_eq, not_true_eq_false, if_false, Op.intBits]
    show some (Value.int k (k.wrap (((BitVec.ofInt k.bits (Int.ofNat m) &&& BitVec.ofInt k.bits (Int.ofNat n)).toNat : Nat) : Int))) = _
    rw [BitVec.toNat_and, ofi m hs.1, ofi n hs.2]
    exact congrArg (fun x => some (Value.int k x)) this
  case or =>
    unfold natBin at h
    dsimp only at h
    split at h <;> first | (cases h; done) | skip
    rename_i hs
    rw [Bool.and_eq_true] at hs
    rw [forceN_eq] at h
    cases h
    refine ⟨?_, rfl⟩
    have := smallN_wrap (smallN_of (Nat.or_lt_two_pow (smallN_lt hs.1) (smallN_lt hs.2)))
    simp only [binOp, ne_eq, not_true_eq_false, if_false, Op.intBits]
    show some (Value.int k (k.wrap (((BitVec.ofInt k.bits (Int.ofNat m) ||| BitVec.ofInt k.bits (Int.ofNat n)).toNat : Nat) : Int))) = _
    rw [BitVec.toNat_or, ofi m hs.1, ofi n hs.2]
    exact congrArg (fun x => some (Value.int k x)) this
  case shl =>
    unfold natBin at h
    dsimp only at h
    split at h <;> first | (cases h; done) | skip
    rename_i hs
    rw [Bool.and_eq_true] at hs
    rw [forceN_eq] at h
    cases h
    refine ⟨?_, rfl⟩
    have hn : n ≤ 63 := Nat.le_of_ble_eq_true hs.1
    have hw := smallN_wrap hs.2
    by_cases hkn : n ≤ k.bits
    · show still P (Op.shift .shl k (Int.ofNat m) k (Int.ofNat n)) = _
      unfold Op.shift
      rw [if_neg (by simp)]
      have hmin : min (Int.ofNat n).toNat k.bits = n := Nat.min_eq_left hkn
      simp only [hmin]
      show some (Value.int k (k.wrap ((m : Int) * 2 ^ n))) = _
      rw [show ((m : Int) * 2 ^ n) = ((m * 2 ^ n : Nat) : Int) by simp, hw]
      rfl
    · have h0 : m = 0 := by
        have := smallN_lt hs.2
        rcases Nat.eq_zero_or_pos m with h | h
        · exact h
        · exfalso
          have h1 : 2 ^ n ≤ m * 2 ^ n := Nat.le_mul_of_pos_left _ h
          have h2 : (2 : Nat) ^ limN k ≤ 2 ^ n := Nat.pow_le_pow_right (by decide) (by omega)
          omega
      subst h0
      show still P (Op.shift .shl k (Int.ofNat 0) k (Int.ofNat n)) = _
      unfold Op.shift
      rw [if_neg (by simp)]
      show some (Value.int k (k.wrap ((0 : Int) * 2 ^ _))) = _
      rw [Int.zero_mul, Nat.zero_mul]
      have h00 : k.wrap (0 : Int) = 0 := smallN_wrap (n := 0) (smallN_of (Nat.two_pow_pos _))
      rw [h00]
      rfl
  case shr =>
    have key : n ≤ k.bits → still P (Op.shift .shr k (Int.ofNat m) k (Int.ofNat n)) = some (.int k (.ofNat (m / 2 ^ n))) := by
      intro hkn
      unfold Op.shift
      rw [if_neg (by simp)]
      have hmin : min (Int.ofNat n).toNat k.bits = n := Nat.min_eq_left hkn
      simp only [hmin]
      show some (Value.int k (Int.fdiv (m : Int) (2 ^ n))) = _
      rw [show ((2 : Int) ^ n) = ((2 ^ n : Nat) : Int) by simp]
      rw [show Int.fdiv (m : Int) ((2 ^ n : Nat) : Int) = ((m / 2 ^ n : Nat) : Int) from (Int.ofNat_fdiv m (2 ^ n)).symm]
      rfl
    unfold natBin at h
    dsimp only at h
    split at h
    · rename_i hs
      rw [forceN_eq] at h
      cases h
      exact ⟨key (by have := Nat.le_of_ble_eq_true hs; omega), rfl⟩
    · split at h <;> first | (cases h; done) | skip
      rename_i hs
      rw [forceN_eq] at h
      cases h
      exact ⟨key (Nat.le_of_ble_eq_true hs), rfl⟩
  all_goals cases h

/-- Where a field lies. -/
def fieldOff (P : Program) (s : TypeId) (f : Nat) : Option Nat := match P.underlying s with
  | some (.struct fields) => match fields[f]? with
    | some fd => match P.info? fd.type with
      | some i => match i.size with
        | 0 => none
        | _ => some fd.offset
      | none => none
    | none => none
  | _ => none
inductive Ind where
  | sl (size : Nat)
  | arr (len size : Nat)
/-- How an index is taken. -/
def indOf (P : Program) (t : TypeId) : Option Ind := match P.underlying t with
  | some (.slice e) => match P.info? e with | some i => some (.sl i.size) | none => none
  | some (.array n e) => match P.info? e with | some i => some (.arr n i.size) | none => none
  | _ => none
def isShift : BinOp → Bool
  | .shl => true
  | .shr => true
  | _ => false
def intKindOf (P : Program) (s d : TypeId) : Option IntKind := match P.underlying s, P.underlying d with
  | some _, some (.int k) => some k
  | _, _ => none
noncomputable def fastQ0 (P : Program) (w : TW) (e : Env) (o : Oper) : Option Value := match o.op with
  | .move x => e.get x
  | .assign x => e.get x
  | .load t a => match e.get a with
    | some v => fastLd P w t v
    | none => none
  | .binOp b _ x y _ => match e.get x, e.get y with
    | some (.int k (.ofNat m)), some (.int k' (.ofNat n)) => match Nat.beq (kindN k) (kindN k') || isShift b with
      | true => natBin b k m n
      | false => none
    | _, _ => none
  | .convert s d x => match e.get x, intKindOf P s d with
    | some (.int _ (.ofNat n)), some k => match smallN k n with
      | true => some (.int k (.ofNat n))
      | false => none
    | _, _ => none
  | .extract x i => match e.get x with
    | some (.tuple ⟨xs⟩) => nthL xs i
    | _ => none
  | .unOp .not _ x => match e.get x with
    | some (.bool true) => some (.bool false)
    | some (.bool false) => some (.bool true)
    | _ => none
  | .fieldAddr s x f => match e.get x, fieldOff P s f with
    | some (.pointer (some ⟨b, o, none⟩)), some d => forceN (o + d) fun o => some (.pointer (some ⟨b, o, none⟩))
    | _, _ => none
  | .indexAddr t x ix => match e.get ix with
    | some (.int _ (.ofNat i)) => match e.get x, indOf P t with
      | some (.slice (some ⟨b, o, none⟩) l _), some (.sl z) => match Nat.blt i l with
        | true => forceN (o + i * z) fun o => some (.pointer (some ⟨b, o, none⟩))
        | false => none
      | some (.pointer (some ⟨b, o, none⟩)), some (.arr l z) => match Nat.blt i l with
        | true => forceN (o + i * z) fun o => some (.pointer (some ⟨b, o, none⟩))
        | false => none
      | _, _ => none
    | _ => none
  | _ => none

noncomputable def fLoad (P : Program) (w : TW) (e : Env) (t : TypeId) (a : Operand) : Option Value := match e.get a with
  | some v => fastLd P w t v
  | none => none
noncomputable def fBin (e : Env) (b : BinOp) (x y : Operand) : Option Value := match e.get x, e.get y with
  | some (.int k (.ofNat m)), some (.int k' (.ofNat n)) => match Nat.beq (kindN k) (kindN k') || isShift b with
    | true => natBin b k m n
    | false => none
  | _, _ => none
noncomputable def fConv (P : Program) (e : Env) (s d : TypeId) (x : Operand) : Option Value := match e.get x, intKindOf P s d with
  | some (.int _ (.ofNat n)), some k => match smallN k n with
    | true => some (.int k (.ofNat n))
    | false => none
  | _, _ => none
noncomputable def fExt (e : Env) (x : Operand) (i : Nat) : Option Value := match e.get x with
  | some (.tuple ⟨xs⟩) => nthL xs i
  | _ => none
noncomputable def fNot (e : Env) (u : UnOp) (x : Operand) : Option Value := match u with
  | .not => match e.get x with
    | some (.bool true) => some (.bool false)
    | some (.bool false) => some (.bool true)
    | _ => none
  | _ => none
noncomputable def fFld (P : Program) (e : Env) (s : TypeId) (x : Operand) (f : Nat) : Option Value := match e.get x, fieldOff P s f with
  | some (.pointer (some ⟨b, o, none⟩)), some d => forceN (o + d) fun o => some (.pointer (some ⟨b, o, none⟩))
  | _, _ => none
noncomputable def fIdx (P : Program) (e : Env) (t : TypeId) (x ix : Operand) : Option Value := match e.get ix with
  | some (.int _ (.ofNat i)) => match e.get x, indOf P t with
    | some (.slice (some ⟨b, o, none⟩) l _), some (.sl z) => match Nat.blt i l with
      | true => forceN (o + i * z) fun o => some (.pointer (some ⟨b, o, none⟩))
      | false => none
    | some (.pointer (some ⟨b, o, none⟩)), some (.arr l z) => match Nat.blt i l with
      | true => forceN (o + i * z) fun o => some (.pointer (some ⟨b, o, none⟩))
      | false => none
    | _, _ => none
  | _ => none
noncomputable def fastQ (P : Program) (w : TW) (e : Env) (o : Oper) : Option Value := match o.op with
  | .move x => e.get x
  | .assign x => e.get x
  | .load t a => fLoad P w e t a
  | .binOp b _ x y _ => fBin e b x y
  | .convert s d x => fConv P e s d x
  | .extract x i => fExt e x i
  | .unOp u _ x => fNot e u x
  | .fieldAddr s x f => fFld P e s x f
  | .indexAddr t x ix => fIdx P e t x ix
  | _ => none
theorem fastQ_eq0 (P : Program) (w : TW) (e : Env) (o : Oper) : fastQ P w e o = fastQ0 P w e o := by
  unfold fastQ fastQ0
  cases o.op <;> first | rfl | skip
  rename_i u _ _
  cases u <;> rfl
section
variable {P : Program} {G : Gl}
theorem runW_still {α : Type} : ∀ {s : Sem α} {a : α} {w : TW}, still P s = some a → runW P s w = some (a, w) := by
  intro s
  induction s with
  | pure b => intro a w h; simp only [still, Option.some.injEq] at h; rw [h]; rfl
  | program k ih => intro a w h; exact ih P h
  | mark m k ih => intro a w h; exact ih h
  | _ => intro a w h; simp [still] at h
/-- What a short way has to show. -/
def QF (P : Program) (G : Gl) (w : TW) (e : Env) (o : Oper) (v : Value) : Prop := evalOpT P (specT P) (e.ok G) e.eval o w = some (.value v, w) ∧ (isLd o = false → stillOpT P G w e o = some v)
theorem QF.af {w : TW} {e : Env} {o : Oper} {v : Value} (h1 : ∀ x ∈ o.op.operands, e.ok G x = true ∧ AFb 10 (e.eval x) = true) (h2 : noSel o = true) (h3 : still P (execOp e.eval o) = some (.value v)) (h4 : AFb 10 v = true) : QF P G w e o v := by
  have ha : o.op.operands.toList.all (e.ok G) = true := List.all_eq_true.2 fun x hx => (h1 x (by simpa using hx)).1
  have hb : o.op.operands.toList.all (fun x => AFb 10 (e.eval x)) = true := List.all_eq_true.2 fun x hx => (h1 x (by simpa using hx)).2
  have he : evalAF P e.eval o = some v := by
    unfold evalAF
    simp only [execQ_eq]
    rw [if_pos (by rw [hb, h2]; rfl), h3]
    dsimp only
    rw [if_pos h4]
  constructor
  · unfold evalOpT
    rw [if_pos ha, he]
  · intro _
    unfold stillOpT
    simp only [execQ_eq]
    rw [if_pos ha, he]
theorem evalOpT_still {w : TW} {e : Env} {o : Oper} {n : Next} (h1 : ∀ x ∈ o.op.operands, e.ok G x = true) (h2 : kindOk P e.eval o = true) (h5 : cutT w e.eval o = true) (h3 : still P (execOp e.eval o) = some n) (h4 : (∀ t a, o.op ≠ .load t a) ∧ ∀ t a x, o.op ≠ .store t a x) :
    evalOpT P (specT P) (e.ok G) e.eval o w = some (n, w) := by
  have ha : o.op.operands.toList.all (e.ok G) = true := List.all_eq_true.2 fun x hx => h1 x (by simpa using hx)
  unfold evalOpT
  rw [if_pos ha]
  split
  · rename_i u hu
    unfold evalAF at hu
    simp only [execQ_eq] at hu
    split at hu <;> first | (cases hu; done) | skip
    rw [h3] at hu
    split at hu <;> first | (cases hu; done) | skip
    rename_i u2 hu2
    cases hu2
    split at hu <;> first | (cases hu; done) | skip
    cases hu; rfl
  · rw [if_pos (by rw [h2, h5]; rfl)]
    unfold runF
    simp only [execQ_eq]
    split
    · rename_i t a hop; exact absurd hop (h4.1 t a)
    · rename_i t a x hop; exact absurd hop (h4.2 t a x)
    · exact runW_still h3
theorem QF.kind {w : TW} {e : Env} {o : Oper} {v : Value} (h1 : ∀ x ∈ o.op.operands, e.ok G x = true) (h2 : kindOk P e.eval o = true) (h5 : cutT w e.eval o = true) (h3 : still P (execOp e.eval o) = some (.value v)) (h4 : (∀ t a, o.op ≠ .load t a) ∧ ∀ t a x, o.op ≠ .store t a x) : QF P G w e o v := by
  refine ⟨evalOpT_still h1 h2 h5 h3 h4, fun _ => ?_⟩
  have ha : o.op.operands.toList.all (e.ok G) = true := List.all_eq_true.2 fun x hx => h1 x (by simpa using hx)
  unfold stillOpT
  simp only [execQ_eq]
  rw [if_pos ha]
  split
  · rename_i u hu
    unfold evalAF at hu
    simp only [execQ_eq] at hu
    split at hu <;> first | (cases hu; done) | skip
    rw [h3] at hu
    dsimp only at hu
    split at hu <;> first | (cases hu; done) | skip
    cases hu; rfl
  · rw [if_pos (by rw [h2, h5]; rfl), h3]
theorem still_underlying {t : TypeId} {d : TypeDesc} (h : P.underlying t = some d) : still P (underlying t) = some d := by
  unfold underlying
  rw [still_bind_of (a := P) rfl, h]; try rfl
theorem still_sizeOf {t : TypeId} {i : TypeInfo} (h : P.info? t = some i) : still P (sizeOf t) = some i.size := by
  have h1 : still P (typeInfo t) = some i := by
    unfold typeInfo
    rw [still_bind_of (a := P) rfl, h]; try rfl
  unfold sizeOf
  rw [still_bind_of h1]; try rfl
theorem still_v {s : Sem Value} {v : Value} (h : still P s = some v) : still P (do pure (Next.value (← s))) = some (.value v) := by
  rw [still_bind_of h]; rfl
theorem fastQ_spec {w : TW} {e : Env} {o : Oper} {v : Value} (h : fastQ P w e o = some v) : QF P G w e o v := by
  rw [fastQ_eq0] at h
  obtain ⟨dst, op, type, pos, after, guard⟩ := o
  unfold fastQ0 at h
  dsimp only at h
  split at h <;> first | (cases h; done) | skip
  · rename_i x
    obtain ⟨h1, h2⟩ := Env.get_spec (G := G) h
    refine QF.kind (fun y hy => ?_) rfl rfl ?_ ⟨by simp, by simp⟩
    · have : y = x := by simpa [Op.operands] using hy
      rw [this]; exact h1
    · show still P (pure (Next.value (e.eval x))) = _
      rw [h2]; rfl
  · rename_i x
    obtain ⟨h1, h2⟩ := Env.get_spec (G := G) h
    refine QF.kind (fun y hy => ?_) rfl rfl ?_ ⟨by simp, by simp⟩
    · have : y = x := by simpa [Op.operands] using hy
      rw [this]; exact h1
    · show still P (pure (Next.value (e.eval x))) = _
      rw [h2]; rfl
  · rename_i t a
    split at h <;> first | (cases h; done) | skip
    rename_i va hva
    obtain ⟨h1, h2⟩ := Env.get_spec (G := G) hva
    refine ⟨?_, fun hl => by cases hl⟩
    have hop : (({ dst, op := .load t a, type, pos, after, guard } : Oper).op.operands) = #[a] := rfl
    unfold evalOpT
    rw [hop]
    have e1 : (#[a].toList.all (e.ok G)) = true := by simp [h1]
    have e2 : evalAF P e.eval { dst, op := .load t a, type, pos, after, guard } = none := by
      unfold evalAF
      simp only [execQ_eq]
      rw [hop]
      have : AFb 10 (e.eval a) = false := by
        rw [h2]
        unfold fastLd at h
        split at h <;> first | (cases h; done) | rfl
      rw [if_neg (by simp [this])]
    rw [if_pos e1, e2]
    show (if true && true then runF P e.eval _ w else specT P _ _ w) = _
    simp only [Bool.and_self, if_true]
    unfold runF
    simp only [execQ_eq]
    try dsimp only
    rw [h2, h]
  · rename_i b t x y u
    split at h <;> first | (cases h; done) | skip
    rename_i k m k' n hx hy
    split at h <;> first | (cases h; done) | skip
    rename_i hk
    obtain ⟨h1, h2⟩ := Env.get_spec (G := G) hx
    obtain ⟨h3, h4⟩ := Env.get_spec (G := G) hy
    obtain ⟨h5, h6⟩ := natBin_spec (P := P) (t := t) h
    refine QF.af (fun z hz => ?_) rfl ?_ h6
    · have : z = x ∨ z = y := by simpa [Op.operands] using hz
      rcases this with rfl | rfl
      · exact ⟨h1, by rw [h2]; rfl⟩
      · exact ⟨h3, by rw [h4]; rfl⟩
    · show still P (do pure (Next.value (← (do eqGuard b t x y (e.eval x) (e.eval y); binOp b t (e.eval x) (e.eval y) : Sem Value)))) = _
      refine still_v ?_
      rw [h2, h4]
      have hg : still P (eqGuard b t x y (.int k (.ofNat m)) (.int k' (.ofNat n))) = some () := by cases b <;> rfl
      rw [still_bind_of hg]
      rw [Bool.or_eq_true] at hk
      rcases hk with hk | hk
      · have := kindN_inj hk
        subst this
        exact h5
      · cases b <;> first | (cases hk; done) | exact h5
  · rename_i s d x
    split at h <;> first | (cases h; done) | skip
    rename_i k0 n k hx hk
    split at h <;> first | (cases h; done) | skip
    rename_i hs
    cases h
    obtain ⟨h1, h2⟩ := Env.get_spec (G := G) hx
    unfold intKindOf at hk
    split at hk <;> first | (cases hk; done) | skip
    rename_i us _ hus hud
    cases hk
    refine QF.af (fun z hz => ?_) rfl ?_ rfl
    · have : z = x := by simpa [Op.operands] using hz
      subst this
      exact ⟨h1, by rw [h2]; rfl⟩
    · show still P (do pure (Next.value (← convert s d (e.eval x)))) = _
      refine still_v ?_
      rw [h2]
      unfold convert
      rw [still_bind_of (still_underlying hus), still_bind_of (still_underlying hud)]
      have hw := smallN_wrap hs
      have : still P (Conv.intToInt k (Int.ofNat n)) = some (.int k (.ofNat n)) := by
        unfold Conv.intToInt
        exact congrArg (fun x => some (Value.int k x)) hw
      cases us <;> exact this
  · rename_i x i
    split at h <;> first | (cases h; done) | skip
    rename_i xs hx
    obtain ⟨h1, h2⟩ := Env.get_spec (G := G) hx
    refine QF.kind (fun y hy => ?_) rfl rfl ?_ ⟨by simp, by simp⟩
    · have : y = x := by simpa [Op.operands] using hy
      rw [this]; exact h1
    · show still P (do pure (Next.value (← Instr.extract (e.eval x) i))) = _
      refine still_v ?_
      rw [h2]
      rw [nthL_eq] at h
      unfold Instr.extract
      simp only [List.getElem?_toArray, h]
      rfl
  · rename_i t x
    split at h <;> first | (cases h; done) | skip
    all_goals
      rename_i hx
      cases h
      obtain ⟨h1, h2⟩ := Env.get_spec (G := G) hx
      refine QF.af (fun z hz => ?_) rfl ?_ rfl
      · have : z = x := by simpa [Op.operands] using hz
        subst this
        exact ⟨h1, by rw [h2]; rfl⟩
      · show still P (do pure (Next.value (← Op.unary .not (e.eval x)))) = _
        refine still_v ?_
        rw [h2]; rfl
  · rename_i s x f
    split at h <;> first | (cases h; done) | skip
    rename_i b o d hx hd
    rw [forceN_eq] at h
    cases h
    obtain ⟨h1, h2⟩ := Env.get_spec (G := G) hx
    unfold fieldOff at hd
    split at hd <;> first | (cases hd; done) | skip
    rename_i fields hun
    split at hd <;> first | (cases hd; done) | skip
    rename_i fd hfd
    split at hd <;> first | (cases hd; done) | skip
    rename_i i hi
    split at hd <;> first | (cases hd; done) | skip
    rename_i hsz
    cases hd
    refine QF.kind (fun y hy => ?_) ?_ rfl ?_ ⟨by simp, by simp⟩
    · have : y = x := by simpa [Op.operands] using hy
      rw [this]; exact h1
    · show fieldOk P s f = true
      unfold fieldOk
      rw [hun]
      dsimp only
      rw [hfd]
      dsimp only
      rw [hi]
      simpa using hsz
    · show still P (do pure (Next.value (← Instr.fieldAt s (e.eval x) f))) = _
      refine still_v ?_
      rw [h2]
      unfold Instr.fieldAt
      rw [still_bind_of (still_underlying hun)]
      dsimp only
      rw [hfd]
      dsimp only
      rw [still_bind_of (a := (⟨b, o, none⟩ : Addr)) rfl]
      unfold fieldPlace
      have hp : still P (do if (← sizeOf fd.type) = 0 then partAt (⟨b, o, none⟩ : Addr) fd.offset fd.byteOffset else pure ((⟨b, o, none⟩ : Addr).add fd.offset)) = some ⟨b, o + fd.offset, none⟩ := by
        rw [still_bind_of (still_sizeOf hi), if_neg (by simpa using hsz), add_eq]; rfl
      rw [still_bind_of hp]; rfl
  · rename_i t x ix
    split at h <;> first | (cases h; done) | skip
    rename_i kk i hix
    obtain ⟨h3, h4⟩ := Env.get_spec (G := G) hix
    split at h <;> first | (cases h; done) | skip
    · rename_i b o l c z hx hin
      obtain ⟨h1, h2⟩ := Env.get_spec (G := G) hx
      split at h <;> first | (cases h; done) | skip
      rename_i hlt
      have hlt : i < l := by simpa [Nat.blt_eq] using hlt
      rw [forceN_eq] at h
      cases h
      unfold indOf at hin
      split at hin <;> first | (cases hin; done) | skip
      · rename_i el hun
        split at hin <;> first | (cases hin; done) | skip
        rename_i inf hi
        cases hin
        refine QF.kind (fun y hy => ?_) rfl rfl ?_ ⟨by simp, by simp⟩
        · have : y = x ∨ y = ix := by simpa [Op.operands] using hy
          rcases this with rfl | rfl
          · exact h1
          · exact h3
        · show still P (do pure (Next.value (← Instr.indexAt t (e.eval x) (e.eval ix)))) = _
          refine still_v ?_
          rw [h2, h4]
          unfold Instr.indexAt
          rw [still_bind_of (a := (kk, (Int.ofNat i))) rfl]
          dsimp only
          rw [still_bind_of (still_underlying hun)]
          dsimp only
          rw [still_bind_of (a := (some (⟨b, o, none⟩ : Addr), l, el)) rfl]
          rw [still_bind_of (still_underlying hun)]
          dsimp only
          rw [if_pos ⟨Int.natCast_nonneg i, Int.ofNat_lt.2 hlt⟩, still_bind_of (still_sizeOf hi), add_eq]
          rfl
      · split at hin <;> cases hin
    · rename_i b o l z hx hin
      obtain ⟨h1, h2⟩ := Env.get_spec (G := G) hx
      split at h <;> first | (cases h; done) | skip
      rename_i hlt
      have hlt : i < l := by simpa [Nat.blt_eq] using hlt
      rw [forceN_eq] at h
      cases h
      unfold indOf at hin
      split at hin <;> first | (cases hin; done) | skip
      · split at hin <;> cases hin
      · rename_i n el hun
        split at hin <;> first | (cases hin; done) | skip
        rename_i inf hi
        cases hin
        refine QF.kind (fun y hy => ?_) rfl rfl ?_ ⟨by simp, by simp⟩
        · have : y = x ∨ y = ix := by simpa [Op.operands] using hy
          rcases this with rfl | rfl
          · exact h1
          · exact h3
        · show still P (do pure (Next.value (← Instr.indexAt t (e.eval x) (e.eval ix)))) = _
          refine still_v ?_
          rw [h2, h4]
          unfold Instr.indexAt
          rw [still_bind_of (a := (kk, (Int.ofNat i))) rfl]
          dsimp only
          rw [still_bind_of (still_underlying hun)]
          dsimp only
          rw [still_bind_of (a := (⟨b, o, none⟩ : Addr)) rfl]
          rw [still_bind_of (a := (some (⟨b, o, none⟩ : Addr), l, el)) rfl]
          rw [still_bind_of (still_underlying hun)]
          dsimp only
          rw [if_pos ⟨Int.natCast_nonneg i, Int.ofNat_lt.2 hlt⟩, still_bind_of (still_sizeOf hi), add_eq]
          rfl
theorem fastQ_congr {w : TW} {e e' : Env} {o : Oper} (h : ∀ x ∈ o.op.operands, e.eval x = e'.eval x ∧ e.ok G x = e'.ok G x) : fastQ P w e o = fastQ P w e' o := by
  rw [fastQ_eq0, fastQ_eq0]
  obtain ⟨dst, op, type, pos, after, guard⟩ := o
  dsimp only at h
  unfold fastQ0
  cases op <;> first | rfl | skip
  all_goals simp only [Op.operands] at h
  case move x => exact Env.get_congr (h x (by simp))
  case assign x => exact Env.get_congr (h x (by simp))
  case load t a => dsimp only; rw [Env.get_congr (h a (by simp))]
  case binOp b t x y u => dsimp only; rw [Env.get_congr (h x (by simp)), Env.get_congr (h y (by simp))]
  case extract x i => dsimp only; rw [Env.get_congr (h x (by simp))]
  case convert s d x => dsimp only; rw [Env.get_congr (h x (by simp))]
  case unOp u t x => cases u <;> first | rfl | (dsimp only; rw [Env.get_congr (h x (by simp))])
  case fieldAddr s x f => dsimp only; rw [Env.get_congr (h x (by simp))]
  case indexAddr t x ix => dsimp only; rw [Env.get_congr (h x (by simp)), Env.get_congr (h ix (by simp))]
theorem fastQ_world {o : Oper} (h : isLd o = false) (w w' : TW) {e : Env} : fastQ P w e o = fastQ P w' e o := by
  rw [fastQ_eq0, fastQ_eq0]
  obtain ⟨dst, op, type, pos, after, guard⟩ := o
  unfold fastQ0
  cases op <;> first | rfl | (cases h; done) | (rename_i u _ _; cases u <;> rfl)

end
end Go.Ev
