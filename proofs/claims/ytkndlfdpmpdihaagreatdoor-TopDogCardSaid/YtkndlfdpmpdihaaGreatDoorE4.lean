/- Equality and operations on symbols; drawn regions reckoned in one order. No conditions beyond those that each statement shows. -/
import Derived.Test.YtkndlfdpmpdihaaGreatDoorE3
namespace Go.Ev
open Go.RowKit
set_option linter.unusedVariables false
set_option linter.unusedSimpArgs false
variable {P : Program} {G : Gl}
/- Operations on symbols. -/
def argTy : Value → Option Value
  | .int k _ => some (.int k 0)
  | .bool _ => some (.bool false)
  | v => symTy v
def isSym : Value → Bool
  | .func (.yield _) _ _ => true
  | _ => false
theorem sameTy_int {k : IntKind} {n : Int} {v : Value} (h : sameTy (.int k n) v = true) : ∃ a, v = .int k a := by
  cases v <;> first | (cases h; done) | skip
  rename_i k' a
  have : k = k' := by simpa [sameTy] using h
  subst this
  exact ⟨a, rfl⟩
theorem sameTy_bool {b : Bool} {v : Value} (h : sameTy (.bool b) v = true) : ∃ a, v = .bool a := by
  cases v <;> first | (cases h; done) | exact ⟨_, rfl⟩
theorem sameTy_sb {t v : Value} (h : sameTy t v = true) : sb v = true := by
  cases t <;> cases v <;> first | (cases h; done) | rfl
theorem arg_spec {τ : Rel} {x v t : Value} (hs : τ.s = G.s) (h : VR τ x v) (ht : argTy x = some t) : sameTy t v = true ∧ symArg G.s x v := by
  cases h <;> first | (cases ht; done) | skip
  · cases ht; exact ⟨rfl, .inl ⟨rfl, rfl⟩⟩
  · cases ht; exact ⟨by simp [sameTy], .inl ⟨rfl, rfl⟩⟩
  · rename_i fn xs ys us vs hf _ _ _ _
    exfalso
    cases fn <;> first | (exact hf _ rfl) | (simp [argTy, symTy] at ht)
  · rename_i l xs ys hss hb
    rw [hs] at hss
    exact ⟨G.ty _ _ _ hss ht, .inr hss⟩
noncomputable def atomEq (x y : Value) : Option Value := match isSym x || isSym y with
  | true => match argTy x, argTy y with
    | some (.int k _), some (.int k' _) => match Nat.beq (kindN k) (kindN k') with
      | true => some (.func (.yield 1) ⟨[x, y]⟩ ⟨[.int .u64 (.ofNat 11), .bool false]⟩)
      | false => none
    | some (.bool _), some (.bool _) => some (.func (.yield 5) ⟨[x, y]⟩ ⟨[.int .u64 (.ofNat 0), .bool false]⟩)
    | _, _ => none
  | false => match x, y with
    | .int k (.ofNat m), .int k' (.ofNat n) => match Nat.beq (kindN k) (kindN k') with
      | true => boolK (Nat.beq m n)
      | false => none
    | .bool a, .bool b => boolK (a == b)
    | _, _ => none
/-- What == gives of two numbers, or two truths. -/
def atomV : Value → Value → Option Bool
  | .int k a, .int k' b => if k = k' then some (a == b) else none
  | .bool a, .bool b => some (a == b)
  | _, _ => none
theorem atomEq_spec {τ : Rel} (hs : τ.s = G.s) {x y x' y' v : Value} (h : atomEq x y = some v) (hx : VR τ x x') (hy : VR τ y y') : ∃ b, atomV x' y' = some b ∧ VR τ v (.bool b) := by
  unfold atomEq at h
  split at h
  · split at h <;> first | (cases h; done) | skip
    · rename_i k n k' n' ex ey
      split at h <;> first | (cases h; done) | skip
      rename_i hk
      have hk := kindN_inj hk
      subst hk
      cases h
      obtain ⟨h1, h2⟩ := arg_spec hs hx ex
      obtain ⟨h3, h4⟩ := arg_spec hs hy ey
      obtain ⟨a, rfl⟩ := sameTy_int h1
      obtain ⟨c, rfl⟩ := sameTy_int h3
      refine ⟨a == c, by simp [atomV], .sym 1 _ _ _ ?_ rfl⟩
      rw [hs]
      refine G.cl 0 [x, y] [.int k a, .int k c] (.int .u64 (.ofNat 11)) (.bool false) _ (.cons _ _ _ _ h2 (.cons _ _ _ _ h4 .nil)) ?_ rfl
      show binV (binD 11) (.int k a) (.int k c) = _
      show (if k = k ∨ _ then _ else none) = _
      rw [if_pos (.inl rfl)]
      rfl
    · rename_i ex ey
      cases h
      obtain ⟨h1, h2⟩ := arg_spec hs hx ex
      obtain ⟨h3, h4⟩ := arg_spec hs hy ey
      obtain ⟨a, rfl⟩ := sameTy_bool h1
      obtain ⟨c, rfl⟩ := sameTy_bool h3
      refine ⟨a == c, rfl, .sym 5 _ _ _ ?_ rfl⟩
      rw [hs]
      exact G.cl 4 [x, y] [.bool a, .bool c] _ _ _ (.cons _ _ _ _ h2 (.cons _ _ _ _ h4 .nil)) rfl rfl
  · split at h <;> first | (cases h; done) | skip
    · split at h <;> first | (cases h; done) | skip
      rename_i k m k' n _ _ hk
      have hk := kindN_inj hk
      subst hk
      rw [boolK_eq] at h
      cases h
      obtain rfl : x' = .int k (.ofNat m) := by cases hx; rfl
      obtain rfl : y' = .int k (.ofNat n) := by cases hy; rfl
      refine ⟨Nat.beq m n, ?_, .bool _⟩
      show (if k = k then some (Int.ofNat m == Int.ofNat n) else none) = _
      rw [if_pos rfl]
      congr 1
      show decide (Int.ofNat m = Int.ofNat n) = _
      cases hq : Nat.beq m n with
      | true => have := Nat.eq_of_beq_eq_true hq; subst this; simp
      | false =>
        have : m ≠ n := fun e => by subst e; rw [Nat.beq_refl] at hq; cases hq
        simp; omega
    · rw [boolK_eq] at h
      cases h
      cases hx; cases hy
      exact ⟨_, rfl, .bool _⟩
/-- Both answers are yes. -/
def andV (a b : Value) : Option Value := match a, b with
  | .bool false, _ => some (.bool false)
  | .bool true, v => some v
  | _, .bool false => some (.bool false)
  | v, .bool true => some v
  | a, b => match isSym a && isSym b with
    | true => some (.func (.yield 4) ⟨[a, b]⟩ ⟨[.int .u64 (.ofNat 0), .bool false]⟩)
    | false => none
theorem andV_spec {τ : Rel} (hs : τ.s = G.s) {a b v : Value} {p q : Bool} (h : andV a b = some v) (ha : VR τ a (.bool p)) (hb : VR τ b (.bool q)) : VR τ v (.bool (p && q)) := by
  have key : ∀ {x : Value} {r : Bool}, VR τ x (.bool r) → (x = .bool r) ∨ (isSym x = true ∧ symArg G.s x (.bool r)) := by
    intro x r hx
    cases hx
    · exact .inl rfl
    · rename_i l xs ys h1 h2
      rw [hs] at h1
      exact .inr ⟨rfl, .inr h1⟩
  unfold andV at h
  split at h
  · cases h; cases ha; exact .bool _
  · cases h; cases ha; exact hb
  · cases h; cases hb; rw [Bool.and_false]; exact .bool _
  · cases h; cases hb; rw [Bool.and_true]; exact ha
  · split at h <;> first | (cases h; done) | skip
    rename_i hq
    rw [Bool.and_eq_true] at hq
    cases h
    rcases key ha with rfl | ⟨_, h1⟩
    · exact absurd hq.1 (by simp [isSym])
    rcases key hb with rfl | ⟨_, h2⟩
    · exact absurd hq.2 (by simp [isSym])
    refine .sym 4 _ _ _ ?_ rfl
    rw [hs]
    exact G.cl 3 [a, b] [.bool p, .bool q] _ _ _ (.cons _ _ _ _ h1 (.cons _ _ _ _ h2 .nil)) rfl rfl
def aggT : TypeDesc → Bool
  | .struct _ => true
  | .array _ _ => true
  | _ => false
theorem run_isAgg {t : TypeId} {d : TypeDesc} (h : P.underlying t = some d) (w : World) : (isAgg t).run P w = .ok (aggT d) w := by
  unfold isAgg
  rw [Sem.run_bind, run_underlying h]
  cases d <;> rfl
/-- A part of a row of cells. -/
noncomputable def partV (P : Program) (t : TypeId) (cs : Array Value) (off : Nat) : Option Value := match P.underlying t with
  | some d => match aggT d with
    | true => match P.info? t with
      | some i => some (.agg (cs.extract off (off + i.size)))
      | none => none
    | false => cs[off]?
  | none => none
theorem partV_spec {τ : Rel} {t : TypeId} {xs ys : Array Value} {off : Nat} {v : Value} (h : partV P t xs off = some v) (hx : AR τ xs ys) : ∃ v', VR τ v v' ∧ ∀ w, (part t ys off).run P w = .ok v' w := by
  unfold partV at h
  split at h <;> first | (cases h; done) | skip
  rename_i d hu
  split at h
  · rename_i ha
    split at h <;> first | (cases h; done) | skip
    rename_i i hi
    cases h
    refine ⟨.agg (ys.extract off (off + i.size)), VR.agg_ ⟨by simp [hx.1], fun j v v' h1 h2 => ?_⟩, fun w => ?_⟩
    · rw [Array.getElem?_extract] at h1 h2
      rw [hx.1] at h1
      split at h1
      · rename_i hi; rw [if_pos hi] at h2; exact hx.2 _ v v' h1 h2
      · cases h1
    · unfold part
      rw [Sem.run_bind, run_isAgg hu, Result.andThen_ok, ha, if_pos rfl, Sem.run_bind, run_sizeOf hi]
      rfl
  · rename_i ha
    obtain ⟨v', e, hv⟩ := hx.get h
    refine ⟨v', hv, fun w => ?_⟩
    unfold part
    rw [Sem.run_bind, run_isAgg hu, Result.andThen_ok, ha]
    simp only [Bool.false_eq_true, if_false]
    rw [e]
    rfl
/-- Part by part, in order. -/
noncomputable def eqParts (eq : TypeId → Value → Value → Option Value) (P : Program) (xs ys : Array Value) (l : List (TypeId × Nat)) : Option Value :=
  List.rec (motive := fun _ => Option Value) (some (.bool true)) (fun p _ ih => match partV P p.1 xs p.2, partV P p.1 ys p.2 with
    | some a, some b => match eq p.1 a b with
      | some (.bool false) => some (.bool false)
      | some v => match ih with
        | some r => andV v r
        | none => none
      | none => none
    | _, _ => none) l
noncomputable def eqV (P : Program) : Nat → TypeId → Value → Value → Option Value := fun n => Nat.rec (motive := fun _ => TypeId → Value → Value → Option Value) (fun _ _ _ => none) (fun _ ih t x y => match P.underlying t with
  | some .bool => match argTy x with
    | some (.bool _) => atomEq x y
    | _ => none
  | some (.int _) => match argTy x with
    | some (.int _ _) => atomEq x y
    | _ => none
  | some (.struct fs) => match P.stoodInHeld t, x, y with
    | false, .agg xs, .agg ys => eqParts ih P xs ys ((fs.toList.filter fun f => f.name != "_").map fun f => (f.type, f.offset))
    | _, _, _ => none
  | some (.array n e) => match P.info? e, x, y with
    | some i, .agg xs, .agg ys => eqParts ih P xs ys ((List.range' 0 n).map fun j => (e, j * i.size))
    | _, _, _ => none
  | _ => none) n
/-- Part by part: what the model does. -/
def loopEq (P : Program) (d : Nat) (xs ys : Array Value) : List (TypeId × Nat) → Sem Bool
  | [] => pure true
  | p :: l => do
    if !(← Op.equalIn d p.1 (← part p.1 xs p.2) (← part p.1 ys p.2)) then return false
    loopEq P d xs ys l
theorem eqParts_spec {τ : Rel} (hs : τ.s = G.s) {eq : TypeId → Value → Value → Option Value} {d : Nat} (ih : ∀ t x y v x' y', eq t x y = some v → VR τ x x' → VR τ y y' → ∃ b, (∀ w, (Op.equalIn d t x' y').run P w = .ok b w) ∧ VR τ v (.bool b))
    {xs ys xs' ys' : Array Value} (hx : AR τ xs xs') (hy : AR τ ys ys') : ∀ (l : List (TypeId × Nat)) {v : Value}, eqParts eq P xs ys l = some v → ∃ b, (∀ w, (loopEq P d xs' ys' l).run P w = .ok b w) ∧ VR τ v (.bool b)
  | [], v, h => by
    cases h
    exact ⟨true, fun w => rfl, .bool _⟩
  | p :: l, v, h => by
    have h : (match partV P p.1 xs p.2, partV P p.1 ys p.2 with
      | some a, some b => match eq p.1 a b with
        | some (.bool false) => some (.bool false)
        | some v => match eqParts eq P xs ys l with
          | some r => andV v r
          | none => none
        | none => none
      | _, _ => none) = some v := h
    split at h <;> first | (cases h; done) | skip
    rename_i a b ea eb
    obtain ⟨a', va, ra⟩ := partV_spec ea hx
    obtain ⟨b', vb, rb⟩ := partV_spec eb hy
    have step : ∀ (q : Bool) w, (Op.equalIn d p.1 a' b').run P w = .ok q w → (loopEq P d xs' ys' (p :: l)).run P w = (if q = true then (loopEq P d xs' ys' l).run P w else .ok false w) := by
      intro q w hq
      have e : loopEq P d xs' ys' (p :: l) = (do
        if !(← Op.equalIn d p.1 (← part p.1 xs' p.2) (← part p.1 ys' p.2)) then return false
        loopEq P d xs' ys' l) := rfl
      rw [e]
      simp only [Sem.run_bind, ra, rb, Result.andThen_ok, hq]
      cases q <;> rfl
    split at h <;> first | (cases h; done) | skip
    · rename_i he
      cases h
      obtain ⟨q, r1, r2⟩ := ih _ _ _ _ _ _ he va vb
      cases r2
      exact ⟨false, fun w => by rw [step false w (r1 w)]; rfl, .bool _⟩
    · rename_i u _ he
      split at h <;> first | (cases h; done) | skip
      rename_i r er
      obtain ⟨q, r1, r2⟩ := ih _ _ _ _ _ _ he va vb
      obtain ⟨q2, r3, r4⟩ := eqParts_spec hs ih hx hy l er
      refine ⟨q && q2, fun w => ?_, andV_spec hs h r2 r4⟩
      rw [step q w (r1 w)]
      cases q
      · rfl
      · exact r3 w
theorem run_array_eq {t e : TypeId} {n : Nat} {i : TypeInfo} (ht : P.underlying t = some (.array n e)) (hi : P.info? e = some i) (d : Nat) (xs ys : Array Value) (w : World) :
    (Op.equalIn (d + 1) t (.agg xs) (.agg ys)).run P w = (loopEq P d xs ys ((List.range' 0 n).map fun j => (e, j * i.size))).run P w := by
  rw [Op.equalIn]
  simp only [Sem.run_bind, run_underlying ht, Result.andThen_ok, run_sizeOf hi, Std.Legacy.Range.forIn_eq_forIn_range', Std.Legacy.Range.size, Nat.sub_zero, Nat.add_sub_cancel, Nat.div_one]
  generalize List.range' 0 n 1 = l
  induction l generalizing w with
  | nil => rfl
  | cons j l ih =>
    have e2 : loopEq P d xs ys ((j :: l).map fun j => (e, j * i.size)) = (do
        if !(← Op.equalIn d e (← part e xs (j * i.size)) (← part e ys (j * i.size))) then return false
        loopEq P d xs ys (l.map fun j => (e, j * i.size))) := rfl
    rw [e2]
    simp only [List.forIn_cons, Sem.run_bind]
    cases (part e xs (j * i.size)).run P w with
    | ok a w1 =>
      simp only [Result.andThen_ok]
      cases (part e ys (j * i.size)).run P w1 with
      | ok b w2 =>
        simp only [Result.andThen_ok]
        cases (Op.equalIn d e a b).run P w2 with
        | ok q w3 =>
          cases q
          · rfl
          · simpa using ih w3
        | _ => rfl
      | _ => rfl
    | _ => rfl
theorem run_struct_eq {t : TypeId} {fs : Array Field} (ht : P.underlying t = some (.struct fs)) (hh : P.stoodInHeld t = false) (d : Nat) (xs ys : Array Value) (w : World) :
    (Op.equalIn (d + 1) t (.agg xs) (.agg ys)).run P w = (loopEq P d xs ys ((fs.toList.filter fun f => f.name != "_").map fun f => (f.type, f.offset))).run P w := by
  rw [Op.equalIn]
  simp only [Sem.run_bind, run_underlying ht, Result.andThen_ok]
  have hp : (program).run P w = .ok P w := rfl
  rw [hp]
  simp only [Result.andThen_ok, hh, Bool.false_eq_true, if_false, Sem.run_bind]
  rw [← Array.forIn_toList]
  clear hp
  generalize fs.toList = l
  induction l generalizing w with
  | nil => rfl
  | cons f l ih =>
    simp only [List.forIn_cons, Sem.run_bind]
    by_cases hn : f.name = "_"
    · have e2 : ((f :: l).filter fun f => f.name != "_") = (l.filter fun f => f.name != "_") := by simp [hn]
      rw [e2, if_neg (by simpa using hn)]
      simpa using ih w
    · have e2 : ((f :: l).filter fun f => f.name != "_") = f :: (l.filter fun f => f.name != "_") := by simp [hn]
      rw [e2, if_pos (by simpa using hn)]
      have e3 : loopEq P d xs ys ((f :: (l.filter fun f => f.name != "_")).map fun f => (f.type, f.offset)) = (do
        if !(← Op.equalIn d f.type (← part f.type xs f.offset) (← part f.type ys f.offset)) then return false
        loopEq P d xs ys ((l.filter fun f => f.name != "_").map fun f => (f.type, f.offset))) := rfl
      rw [e3]
      simp only [Sem.run_bind]
      cases (part f.type xs f.offset).run P w with
      | ok a w1 =>
        simp only [Result.andThen_ok]
        cases (part f.type ys f.offset).run P w1 with
        | ok b w2 =>
          simp only [Result.andThen_ok]
          cases (Op.equalIn d f.type a b).run P w2 with
          | ok q w3 =>
            cases q
            · rfl
            · simpa using ih w3
          | _ => rfl
        | _ => rfl
      | _ => rfl
theorem eqV_succ (n : Nat) (t : TypeId) (x y : Value) : eqV P (n + 1) t x y = (match P.underlying t with
      | some .bool => match argTy x with
        | some (.bool _) => atomEq x y
        | _ => none
      | some (.int _) => match argTy x with
        | some (.int _ _) => atomEq x y
        | _ => none
      | some (.struct fs) => match P.stoodInHeld t, x, y with
        | false, .agg xs, .agg ys => eqParts (eqV P n) P xs ys ((fs.toList.filter fun f => f.name != "_").map fun f => (f.type, f.offset))
        | _, _, _ => none
      | some (.array m e) => match P.info? e, x, y with
        | some i, .agg xs, .agg ys => eqParts (eqV P n) P xs ys ((List.range' 0 m).map fun j => (e, j * i.size))
        | _, _, _ => none
      | _ => none) := rfl
theorem eqV_spec {τ : Rel} (hs : τ.s = G.s) : ∀ (n : Nat) (t : TypeId) (x y v x' y' : Value), eqV P n t x y = some v → VR τ x x' → VR τ y y' → ∀ d, n ≤ d → ∃ b, (∀ w, (Op.equalIn d t x' y').run P w = .ok b w) ∧ VR τ v (.bool b)
  | 0, t, x, y, v, x', y', h, _, _, _, _ => by cases h
  | n + 1, t, x, y, v, x', y', h, hx, hy, d, hd => by
    obtain ⟨d, rfl⟩ : ∃ k, d = k + 1 := ⟨d - 1, by omega⟩
    rw [eqV_succ] at h
    split at h <;> first | (cases h; done) | skip
    · rename_i hu
      split at h <;> first | (cases h; done) | skip
      rename_i ex
      obtain ⟨b, hb, hv⟩ := atomEq_spec hs h hx hy
      obtain ⟨h1, _⟩ := arg_spec hs hx ex
      obtain ⟨a, rfl⟩ := sameTy_bool h1
      cases y' <;> first | (cases hb; done) | skip
      refine ⟨b, fun w => ?_, hv⟩
      rw [Op.equalIn, Sem.run_bind, run_underlying hu]
      cases hb
      rfl
    · rename_i k hu
      split at h <;> first | (cases h; done) | skip
      rename_i ex
      obtain ⟨b, hb, hv⟩ := atomEq_spec hs h hx hy
      obtain ⟨h1, _⟩ := arg_spec hs hx ex
      obtain ⟨a, rfl⟩ := sameTy_int h1
      cases y' <;> first | (cases hb; done) | skip
      rename_i k2 c
      refine ⟨b, fun w => ?_, hv⟩
      rw [Op.equalIn, Sem.run_bind, run_underlying hu]
      unfold atomV at hb
      dsimp only at hb
      split at hb <;> first | (cases hb; done) | skip
      rename_i hk
      cases hb
      show Sem.run P (if _ then _ else _) w = _
      rw [if_pos hk]
      rfl
    · rename_i fs hu
      split at h <;> first | (cases h; done) | skip
      rename_i xs ys hh
      cases hx with
      | agg _ xs' e1 f1 =>
      cases hy with
      | agg _ ys' e2 f2 =>
      obtain ⟨b, r1, r2⟩ := eqParts_spec hs (d := d) (fun t x y v x' y' a b c => eqV_spec hs n t x y v x' y' a b c d (by omega)) ⟨e1, f1⟩ ⟨e2, f2⟩ _ h
      exact ⟨b, fun w => by rw [run_struct_eq hu hh]; exact r1 w, r2⟩
    · rename_i m e hu
      split at h <;> first | (cases h; done) | skip
      rename_i i xs ys hi
      cases hx with
      | agg _ xs' e1 f1 =>
      cases hy with
      | agg _ ys' e2 f2 =>
      obtain ⟨b, r1, r2⟩ := eqParts_spec hs (d := d) (fun t x y v x' y' a b c => eqV_spec hs n t x y v x' y' a b c d (by omega)) ⟨e1, f1⟩ ⟨e2, f2⟩ _ h
      exact ⟨b, fun w => by rw [run_array_eq hu hi]; exact r1 w, r2⟩
end Go.Ev
namespace Go.Ev
open Go.RowKit
set_option linter.unusedVariables false
set_option linter.unusedSimpArgs false
section
variable {P : Program} {G : Gl}
/-- The type of what an operation on two numbers gives; none: it may fail. -/
def binTy (b : BinOp) (k k' : IntKind) (y : Value) : Option Value := match b with
  | .add | .sub | .mul | .and | .or | .xor | .andNot => match Nat.beq (kindN k) (kindN k') with
    | true => some (.int k 0)
    | false => none
  | .quo | .rem => match Nat.beq (kindN k) (kindN k'), y with
    | true, .int _ (.ofNat (_ + 1)) => some (.int k 0)
    | _, _ => none
  | .shl | .shr => match y with
    | .int _ (.ofNat _) => some (.int k 0)
    | _ => none
  | .eql | .neq | .lss | .leq | .gtr | .geq => match Nat.beq (kindN k) (kindN k') with
    | true => some (.bool false)
    | false => none
def isOne : Value → Bool
  | .int _ (.ofNat n) => Nat.beq n 1
  | _ => false
def isRem : BinOp → Bool
  | .rem => true
  | _ => false
def isEql : BinOp → Bool
  | .eql => true
  | _ => false
def symBin (b : BinOp) (x y : Value) : Option Value := match isSym x || isSym y with
  | false => none
  | true => match argTy x, argTy y with
    | some (.int k _), some (.int k' _) => match binTy b k k' y with
      | some t => match isRem b && isOne y with
        | true => some (.int k (.ofNat 0))
        | false => match isEql b && veq 30 x y with
         | true => some (.bool true)
         | false => some (.func (.yield 1) ⟨[x, y]⟩ ⟨[.int .u64 (.ofNat (binC b)), t]⟩)
      | none => none
    | _, _ => none
def symConv (k : IntKind) (x : Value) : Option Value := match isSym x, argTy x with
  | true, some (.int _ _) => some (.func (.yield 2) ⟨[x]⟩ ⟨[.int .u64 (.ofNat 0), .int k 0]⟩)
  | _, _ => none
def symNot (x : Value) : Option Value := match isSym x, argTy x with
  | true, some (.bool _) => some (.func (.yield 3) ⟨[x]⟩ ⟨[.int .u64 (.ofNat 0), .bool false]⟩)
  | _, _ => none
def isAggV : Value → Bool
  | .agg _ => true
  | _ => false
def notV (v : Value) : Option Value := match v with
  | .bool b => some (.bool (!b))
  | v => symNot v
/-- Equality of two structs, or arrays. -/
noncomputable def symEq (P : Program) (b : BinOp) (t : TypeId) (x y : Value) : Option Value := match isAggV x && isAggV y, b with
  | true, .eql => match P.eqGuardType P.depth t with
    | false => eqV P 20 t x y
    | true => none
  | true, .neq => match P.eqGuardType P.depth t with
    | false => match eqV P 20 t x y with
      | some v => notV v
      | none => none
    | true => none
  | _, _ => none
noncomputable def symQ0 (P : Program) (e : Env) (o : Oper) : Option Value := match o.op with
  | .binOp b t x y _ => match e.get x, e.get y with
    | some u, some v => match symBin b u v with
      | some r => some r
      | none => symEq P b t u v
    | _, _ => none
  | .convert s d x => match e.get x, intKindOf P s d with
    | some u, some k => symConv k u
    | _, _ => none
  | .unOp .not _ x => match e.get x with
    | some u => symNot u
    | none => none
  | _ => none
theorem symQ0_congr {e e' : Env} {o : Oper} (h : ∀ x ∈ o.op.operands, e.eval x = e'.eval x ∧ e.ok G x = e'.ok G x) : symQ0 P e o = symQ0 P e' o := by
  have hg : ∀ x ∈ o.op.operands, e.get x = e'.get x := fun x hx => Env.get_congr (h x hx)
  obtain ⟨dst, op, type, pos, after, guard⟩ := o
  unfold symQ0
  dsimp only at hg ⊢
  cases op <;> first | rfl | skip
  · rename_i b t x y u
    dsimp only
    rw [hg x (by simp [Op.operands]), hg y (by simp [Op.operands])]
  · rename_i u t x
    cases u <;> first | rfl | skip
    dsimp only
    rw [hg x (by simp [Op.operands])]
  · rename_i s d x
    dsimp only
    rw [hg x (by simp [Op.operands])]
theorem binV_still {b : BinOp} {t : TypeId} {k k' : IntKind} {x y : Int} {v : Value} (h : binV b (.int k x) (.int k' y) = some v) : still P (binOp b t (.int k x) (.int k' y)) = some v := by
  replace h : (if k = k' ∨ shiftB b = true then binI b k x y else none) = some v := h
  split at h <;> first | (cases h; done) | skip
  rename_i hk
  by_cases hs : shiftB b = true
  · cases b <;> first | (cases hs; done) | skip
    all_goals
      unfold binI at h
      dsimp only at h
      split at h <;> first | (cases h; done) | skip
      rename_i hy
      unfold binOp Op.shift
      dsimp only
      rw [if_neg hy]
      exact h
  · have hk : k = k' := by rcases hk with h | h; exact h; exact absurd h hs
    subst hk
    cases b <;> first | (exact absurd rfl hs) | skip
    all_goals
      unfold binI at h
      dsimp only at h
      first
      | (unfold binOp; dsimp only; rw [if_neg (by simp)]; exact h)
      | (split at h <;> first | (cases h; done) | skip
         rename_i hy
         unfold binOp Op.intDiv
         dsimp only
         rw [if_neg (by simp), if_neg hy]
         exact h)
theorem binTy_spec {b : BinOp} {k k' : IntKind} {x y : Int} {t : Value} {y0 : Value} (h : binTy b k k' y0 = some t) (hy : ∀ q n, y0 = .int q n → y = n) : ∃ v, binV b (.int k x) (.int k' y) = some v ∧ sameTy t v = true := by
  have hb : ∀ {p : Option Value}, (match Nat.beq (kindN k) (kindN k') with | true => p | false => none) = some t → k = k' ∧ p = some t := by
    intro p h
    split at h <;> first | (cases h; done) | skip
    rename_i e
    exact ⟨kindN_inj e, h⟩
  show ∃ v, (if k = k' ∨ shiftB b = true then binI b k x y else none) = some v ∧ _
  unfold binTy at h
  split at h
  case h_8 | h_9 =>
    split at h <;> first | (cases h; done) | skip
    rename_i q m e
    cases h
    have e := kindN_inj e
    have := hy _ _ rfl
    subst this
    rw [if_pos (.inl e)]
    have h0 : ¬ (Int.ofNat (m + 1) = 0) := by simp; omega
    unfold binI
    dsimp only
    rw [if_neg h0]
    exact ⟨_, rfl, by simp [sameTy]⟩
  case h_10 | h_11 =>
    split at h <;> first | (cases h; done) | skip
    cases h
    have := hy _ _ rfl
    subst this
    rw [if_pos (.inr rfl)]
    unfold binI
    dsimp only
    rw [if_neg (by simp)]
    exact ⟨_, rfl, by simp [sameTy]⟩
  all_goals
    obtain ⟨e, h⟩ := hb h
    cases h
    rw [if_pos (.inl e)]
    exact ⟨_, rfl, by simp [sameTy]⟩
theorem isOne_spec {y : Value} (h : isOne y = true) : ∃ q, y = .int q (.ofNat 1) := by
  unfold isOne at h
  split at h <;> first | (cases h; done) | skip
  rename_i q n
  exact ⟨q, by rw [Nat.eq_of_beq_eq_true h]⟩
theorem symBin_spec {τ : Rel} (hs : τ.s = G.s) {b : BinOp} {x y x' y' v : Value} (h : symBin b x y = some v) (hx : VR τ x x') (hy : VR τ y y') :
    ∃ k a k' c v', x' = .int k a ∧ y' = .int k' c ∧ binV b x' y' = some v' ∧ VR τ v v' := by
  unfold symBin at h
  split at h <;> first | (cases h; done) | skip
  rename_i hsy
  split at h <;> first | (cases h; done) | skip
  rename_i k n k' n' ex ey
  split at h <;> first | (cases h; done) | skip
  rename_i t ht
  obtain ⟨h1, h2⟩ := arg_spec hs hx ex
  obtain ⟨h3, h4⟩ := arg_spec hs hy ey
  obtain ⟨a, rfl⟩ := sameTy_int h1
  obtain ⟨c, rfl⟩ := sameTy_int h3
  have hyp : ∀ q n, y = .int q n → c = n := by
    rintro q n rfl
    cases hy
    rfl
  obtain ⟨v', e1, e2⟩ := binTy_spec (x := a) ht hyp
  refine ⟨k, a, k', c, v', rfl, rfl, e1, ?_⟩
  split at h
  · rename_i hr
    cases h
    rw [Bool.and_eq_true] at hr
    cases b <;> first | (cases hr.1; done) | skip
    have : c = Int.ofNat 1 := by
      obtain ⟨q, hq⟩ := isOne_spec hr.2
      exact hyp _ _ hq
    subst this
    have e1 : (if k = k' ∨ shiftB .rem = true then binI .rem k a (Int.ofNat 1) else none) = some v' := e1
    split at e1 <;> first | (cases e1; done) | skip
    unfold binI at e1
    dsimp only at e1
    rw [if_neg (by decide)] at e1
    cases e1
    have : a.tmod (Int.ofNat 1) = 0 := Int.tmod_one a
    rw [this]
    exact .int k 0
  · split at h
    · rename_i hq
      rw [Bool.and_eq_true] at hq
      cases h
      cases b <;> first | (cases hq.1; done) | skip
      have hxy := veq_eq _ _ _ hq.2
      subst hxy
      have hac : (Value.int k a) = .int k' c := by
        have hsx : isSym x = true := by simpa using hsy
        have key : ∀ {v : Value}, symArg G.s x v → G.s x v := by
          intro v h
          rcases h with ⟨rfl, hb⟩ | h
          · exfalso
            cases x <;> first | (cases hb; done) | (cases hsx; done)
          · exact h
        exact G.fn _ _ _ (key h2) (key h4)
      cases hac
      have e1 : (if k = k ∨ shiftB .eql = true then binI .eql k a a else none) = some v' := e1
      rw [if_pos (.inl rfl)] at e1
      have : v' = .bool true := by
        unfold binI at e1
        dsimp only at e1
        cases e1
        simp
      subst this
      exact .bool true
    cases h
    refine .sym 1 _ _ v' ?_ (sb_sb2 (sameTy_sb e2))
    rw [hs]
    refine G.cl 0 [x, y] [.int k a, .int k' c] (.int .u64 (.ofNat (binC b))) t v' (.cons _ _ _ _ h2 (.cons _ _ _ _ h4 .nil)) ?_ e2
    have : symApp (0 + 1) [.int k a, .int k' c] (.int .u64 (.ofNat (binC b))) t = binV (binD (binC b)) (.int k a) (.int k' c) := by cases t <;> rfl
    rw [this, binD_C]
    exact e1
theorem notV_spec {τ : Rel} (hs : τ.s = G.s) {v r : Value} {b : Bool} (h : notV v = some r) (hv : VR τ v (.bool b)) : VR τ r (.bool (!b)) := by
  unfold notV at h
  split at h
  · cases h; cases hv; exact .bool _
  · unfold symNot at h
    split at h <;> first | (cases h; done) | skip
    rename_i ex
    obtain ⟨_, h4⟩ := arg_spec hs hv ex
    cases h
    refine .sym 3 _ _ _ ?_ rfl
    rw [hs]
    exact G.cl 2 [v] [.bool b] _ _ _ (.cons _ _ _ _ h4 .nil) rfl rfl
theorem symEq_spec {τ : Rel} (hs : τ.s = G.s) {b : BinOp} {t : TypeId} {ox oy : Operand} {x y x' y' v : Value} (h : symEq P b t x y = some v) (hx : VR τ x x') (hy : VR τ y y') :
    ∃ v', (∀ w, (do eqGuard b t ox oy x' y'; binOp b t x' y' : Sem Value).run P w = .ok v' w) ∧ VR τ v v' := by
  have hg : ∀ (b : BinOp) (xs ys : Array Value) w, P.eqGuardType P.depth t = false → (eqGuard b t ox oy (.agg xs) (.agg ys)).run P w = .ok () w := by
    intro b xs ys w he
    cases b <;> first | rfl | skip
    all_goals
      unfold eqGuard
      have hp : (program).run P w = .ok P w := rfl
      simp [Sem.run_bind, hp, he]
  have hag : ∀ {x x' : Value}, isAggV x = true → VR τ x x' → ∃ xs, x' = .agg xs := by
    intro x x' ha hx
    cases hx <;> first | (cases ha; done) | skip
    exact ⟨_, rfl⟩
  unfold symEq at h
  split at h <;> first | (cases h; done) | skip
  · rename_i ha
    rw [Bool.and_eq_true] at ha
    obtain ⟨xs, rfl⟩ := hag ha.1 hx
    obtain ⟨ys, rfl⟩ := hag ha.2 hy
    split at h <;> first | (cases h; done) | skip
    rename_i he
    obtain ⟨q, r1, r2⟩ := eqV_spec hs 20 t _ _ _ _ _ h hx hy 10000 (by omega)
    refine ⟨.bool q, fun w => ?_, r2⟩
    rw [Sem.run_bind, hg _ xs ys w he, Result.andThen_ok]
    show (do pure (Value.bool (← Op.equal t (.agg xs) (.agg ys))) : Sem Value).run P w = _
    unfold Op.equal Op.maxDepth
    rw [Sem.run_bind, r1 w]
    rfl
  · rename_i ha
    rw [Bool.and_eq_true] at ha
    obtain ⟨xs, rfl⟩ := hag ha.1 hx
    obtain ⟨ys, rfl⟩ := hag ha.2 hy
    split at h <;> first | (cases h; done) | skip
    rename_i he
    split at h <;> first | (cases h; done) | skip
    rename_i u hu
    obtain ⟨q, r1, r2⟩ := eqV_spec hs 20 t _ _ _ _ _ hu hx hy 10000 (by omega)
    refine ⟨.bool (!q), fun w => ?_, notV_spec hs h r2⟩
    rw [Sem.run_bind, hg _ xs ys w he, Result.andThen_ok]
    show (do pure (Value.bool (!(← Op.equal t (.agg xs) (.agg ys)))) : Sem Value).run P w = _
    unfold Op.equal Op.maxDepth
    rw [Sem.run_bind, r1 w]
    rfl
theorem symQ0_spec {e : Env} {ρ' : Operand → Value} {o : Oper} {v : Value} {τ : Rel} {wr : World} (hs : τ.s = G.s) (hv : ∀ x ∈ o.op.operands, e.ok G x = true → VR τ (e.eval x) (ρ' x)) (h : symQ0 P e o = some v) :
    ∃ v', (execOp ρ' o).run P wr = .ok (.value v') wr ∧ VR τ v v' := by
  obtain ⟨dst, op, type, pos, after, guard⟩ := o
  unfold symQ0 at h
  dsimp only at h hv
  split at h <;> first | (cases h; done) | skip
  · rename_i b t x y u
    split at h <;> first | (cases h; done) | skip
    rename_i vx vy hx hy
    obtain ⟨h1, h2⟩ := Env.get_spec (G := G) hx
    obtain ⟨h3, h4⟩ := Env.get_spec (G := G) hy
    have hx := hv x (by simp [Op.operands]) h1
    have hy := hv y (by simp [Op.operands]) h3
    rw [h2] at hx
    rw [h4] at hy
    split at h
    case h_2 =>
      obtain ⟨v', r1, r2⟩ := symEq_spec (ox := x) (oy := y) hs h hx hy
      refine ⟨v', ?_, r2⟩
      show (do pure (Next.value (← (do eqGuard b t x y (ρ' x) (ρ' y); binOp b t (ρ' x) (ρ' y) : Sem Value)))).run P wr = _
      rw [Sem.run_bind, r1 wr]
      rfl
    rename_i r hr
    cases h
    have h := hr
    obtain ⟨k, a, k', c, v', e1, e2, e3, e4⟩ := symBin_spec hs h hx hy
    refine ⟨v', still_run _ ?_ wr, e4⟩
    show still P (do pure (Next.value (← (do eqGuard b t x y (ρ' x) (ρ' y); binOp b t (ρ' x) (ρ' y) : Sem Value)))) = _
    refine still_v ?_
    rw [e1, e2] at e3 ⊢
    have hg : still P (eqGuard b t x y (.int k a) (.int k' c)) = some () := by cases b <;> rfl
    rw [still_bind_of hg]
    exact binV_still e3
  · rename_i s d x
    split at h <;> first | (cases h; done) | skip
    rename_i vx k hx hk
    obtain ⟨h1, h2⟩ := Env.get_spec (G := G) hx
    have hx := hv x (by simp [Op.operands]) h1
    rw [h2] at hx
    unfold symConv at h
    split at h <;> first | (cases h; done) | skip
    rename_i q n _ ex
    obtain ⟨h3, h4⟩ := arg_spec hs hx ex
    obtain ⟨a, ha⟩ := sameTy_int h3
    cases h
    unfold intKindOf at hk
    split at hk <;> first | (cases hk; done) | skip
    rename_i us _ hus hud
    cases hk
    refine ⟨.int k (k.wrap a), still_run _ ?_ wr, ?_⟩
    · show still P (do pure (Next.value (← convert s d (ρ' x)))) = _
      refine still_v ?_
      rw [ha]
      unfold convert
      rw [still_bind_of (still_underlying hus), still_bind_of (still_underlying hud)]
      cases us <;> rfl
    · refine .sym 2 _ _ _ ?_ rfl
      rw [hs]
      rw [ha] at h4
      exact G.cl 1 [vx] [.int q a] _ _ _ (.cons _ _ _ _ h4 .nil) rfl (by simp [sameTy])
  · rename_i t x
    split at h <;> first | (cases h; done) | skip
    rename_i vx hx
    obtain ⟨h1, h2⟩ := Env.get_spec (G := G) hx
    have hx := hv x (by simp [Op.operands]) h1
    rw [h2] at hx
    unfold symNot at h
    split at h <;> first | (cases h; done) | skip
    rename_i q _ ex
    obtain ⟨h3, h4⟩ := arg_spec hs hx ex
    obtain ⟨a, ha⟩ := sameTy_bool h3
    cases h
    refine ⟨.bool (!a), still_run _ ?_ wr, ?_⟩
    · show still P (do pure (Next.value (← Op.unary .not (ρ' x)))) = _
      refine still_v ?_
      rw [ha]
      rfl
    · refine .sym 3 _ _ _ ?_ rfl
      rw [hs]
      rw [ha] at h4
      exact G.cl 2 [vx] [.bool a] _ _ _ (.cons _ _ _ _ h4 .nil) rfl rfl
noncomputable def quietTq (P : Program) (G : Gl) (w : TW) (e : Env) (o : Oper) : Option Value := match fastQ P w e o with
  | some v => some v
  | none => match quietT0 P G w e o with
    | some v => forceV 20 v some
    | none => none
theorem quietT_eq {w : TW} {e : Env} {o : Oper} {v : Value} (h : quietTq P G w e o = some v) : quietT0 P G w e o = some v := by
  unfold quietTq at h
  split at h
  · rename_i u hu
    cases h
    obtain ⟨h1, h2⟩ := fastQ_spec (G := G) hu
    unfold quietT0
    cases hl : isLd o with
    | true => dsimp only; rw [h1]
    | false => exact h2 hl
  · split at h <;> first | (cases h; done) | skip
    rename_i u hu
    rw [forceV_eq] at h
    cases h; exact hu
noncomputable def knownB (l : List (Value × Bool)) (v : Value) : Option Bool := List.rec (motive := fun _ => Option Bool) none (fun p _ ih => match veq 60 p.1 v with
  | true => some p.2
  | false => ih) l
theorem knownB_spec {v : Value} {b : Bool} : ∀ {l : List (Value × Bool)}, knownB l v = some b → (v, b) ∈ l
  | [], h => by cases h
  | p :: l, h => by
    have h : (match veq 60 p.1 v with | true => some p.2 | false => knownB l v) = some b := h
    split at h
    · rename_i e
      cases h
      rw [← veq_eq _ _ _ e]
      exact List.mem_cons_self
    · exact List.mem_cons_of_mem _ (knownB_spec h)
/-- A symbol whose truth is known is that truth. -/
noncomputable def decV (G : Gl) (v : Value) : Value := match v with
  | .func (.yield l) xs ys => match knownB G.dl (.func (.yield l) xs ys) with
    | some b => .bool b
    | none => .func (.yield l) xs ys
  | v => v
theorem decV_vr {G : Gl} {τ : Rel} {v v' : Value} (hs : τ.s = G.s) (hv : VR τ v v') : VR τ (decV G v) v' := by
  unfold decV
  split
  · rename_i l xs ys
    split
    · rename_i b hb
      cases hv with
      | func fn xs ys us vs hf => exact absurd rfl (hf _)
      | sym l xs ys v' hsy hsb =>
        rw [hs] at hsy
        rw [G.dec _ _ _ (knownB_spec hb) hsy]
        exact .bool b
    · exact hv
  · exact hv
noncomputable def symQ (P : Program) (G : Gl) (e : Env) (o : Oper) : Option Value := match symQ0 P e o with
  | some v => some (decV G v)
  | none => none
theorem symQ_congr {e e' : Env} {o : Oper} (h : ∀ x ∈ o.op.operands, e.eval x = e'.eval x ∧ e.ok G x = e'.ok G x) : symQ P G e o = symQ P G e' o := by
  unfold symQ
  rw [symQ0_congr h]
theorem symQ_spec {e : Env} {ρ' : Operand → Value} {o : Oper} {v : Value} {τ : Rel} {wr : World} (hs : τ.s = G.s) (hv : ∀ x ∈ o.op.operands, e.ok G x = true → VR τ (e.eval x) (ρ' x)) (h : symQ P G e o = some v) :
    ∃ v', (execOp ρ' o).run P wr = .ok (.value v') wr ∧ VR τ v v' := by
  unfold symQ at h
  split at h <;> first | (cases h; done) | skip
  rename_i u hu
  cases h
  obtain ⟨v', h1, h2⟩ := symQ0_spec hs hv hu
  exact ⟨v', h1, decV_vr hs h2⟩
noncomputable def quietT (P : Program) (G : Gl) (w : TW) (e : Env) (o : Oper) : Option Value := match fastQ P w e o with
  | some v => some v
  | none => match symQ P G e o with
    | some v => some v
    | none => match quietT0 P G w e o with
      | some v => forceV 20 v some
      | none => none
theorem quietT_split {w : TW} {e : Env} {o : Oper} {v : Value} (h : quietT P G w e o = some v) : symQ P G e o = some v ∨ quietTq P G w e o = some v := by
  unfold quietT at h
  unfold quietTq
  cases hf : fastQ P w e o with
  | some u => rw [hf] at h; exact .inr h
  | none =>
    rw [hf] at h
    dsimp only at h ⊢
    cases hq : symQ P G e o with
    | some u => rw [hq] at h; exact .inl h
    | none => rw [hq] at h; exact .inr h
theorem WT.sy {B : FM} {w0 : World} {τ : Rel} {wa : TW} {wr : World} (h : WT G B w0 τ wa wr) : τ.s = G.s := by
  obtain ⟨_, _, h⟩ := h
  exact h.sy
theorem quietT_spec {B : FM} {w0 : World} {e : Env} {ρ' : Operand → Value} {o : Oper} {v : Value} {τ : Rel} {w : TW} {wr : World} (hv : ∀ x ∈ o.op.operands, e.ok G x = true → VR τ (e.eval x) (ρ' x)) (hw : WT G B w0 τ w wr) (h : quietT P G w e o = some v) :
    ∃ τ' v' wr', τ.le τ' ∧ (execOp ρ' o).run P wr = .ok (.value v') wr' ∧ VR τ' v v' ∧ WT G B w0 τ' w wr' := by
  rcases quietT_split h with h | h
  · obtain ⟨v', e1, e2⟩ := symQ_spec hw.sy hv h
    exact ⟨τ, v', wr, Rel.le.refl _, e1, e2, hw⟩
  · exact quietT0_spec hv hw (quietT_eq h)
theorem quietT_congr {e e' : Env} {o : Oper} {w : TW} (hs : noSel o = true) (h : ∀ x ∈ o.op.operands, e.eval x = e'.eval x ∧ e.ok G x = e'.ok G x) : quietT P G w e o = quietT P G w e' o := by
  unfold quietT
  rw [fastQ_congr h, symQ_congr h, quietT0_congr hs h]

noncomputable def getK {β : Type} (e : Env) (l : List Operand) : (List Value → Option β) → Option β := List.rec (motive := fun _ => (List Value → Option β) → Option β) (fun k => k []) (fun x _ ih k => match e.get x with | some v => ih fun vs => k (v :: vs) | none => none) l
theorem getK_spec {β : Type} {e : Env} : ∀ (l : List Operand) {k : List Value → Option β} {r : β}, getK e l k = some r → (∀ x ∈ l, e.ok G x = true) ∧ k (l.map e.eval) = some r
  | [], k, r, h => ⟨fun x hx => (by cases hx), h⟩
  | x :: l, k, r, h => by
    have h : (match e.get x with | some v => getK e l fun vs => k (v :: vs) | none => none) = some r := h
    split at h <;> first | (cases h; done) | skip
    rename_i v hv
    obtain ⟨h1, h2⟩ := Env.get_spec (G := G) hv
    obtain ⟨h3, h4⟩ := getK_spec l h
    refine ⟨fun y hy => ?_, by rw [List.map_cons, h2]; exact h4⟩
    rcases List.mem_cons.1 hy with rfl | hy
    · exact h1
    · exact h3 y hy
/-- One operation, and its value. -/
noncomputable def stepV1 (P : Program) (G : Gl) (sp : SpecT) (ev : EvF) (o : Oper) (e : Env) (w : TW) : Option (Value × TW) := match fastQ P w e o with
  | some v => some (v, w)
  | none => match o.op with
    | .store t a x => match e.get a, e.get x with
      | some va, some vx => match fastSt P w t va vx with
        | some w' => some (undef, w')
        | none => stepV0 P G sp ev o e w
      | _, _ => stepV0 P G sp ev o e w
    | .call ⟨.value (.func f), args, _⟩ => match bodyOk P f with
      | true => match getK e args.toList fun vs => ev f ⟨vs⟩ w with
        | some r => some r
        | none => stepV0 P G sp ev o e w
      | false => stepV0 P G sp ev o e w
    | _ => stepV0 P G sp ev o e w
noncomputable def sStore (P : Program) (e : Env) (w : TW) (t : TypeId) (a x : Operand) : Option (Value × TW) := match e.get a with
  | some va => match e.get x with
    | some vx => match fastSt P w t va vx with
      | some w' => some (undef, w')
      | none => none
    | none => none
  | none => none
noncomputable def sCall (P : Program) (ev : EvF) (e : Env) (w : TW) (f : FuncId) (args : Array Operand) : Option (Value × TW) := match bodyOk P f with
  | true => getK e args.toList fun vs => ev f ⟨vs⟩ w
  | false => none
noncomputable def sOp (P : Program) (ev : EvF) (o : Oper) (e : Env) (w : TW) : Option (Value × TW) := match o.op with
  | .store t a x => sStore P e w t a x
  | .call ⟨.value (.func f), args, _⟩ => sCall P ev e w f args
  | _ => none
noncomputable def stepVq (P : Program) (G : Gl) (sp : SpecT) (ev : EvF) (o : Oper) (e : Env) (w : TW) : Option (Value × TW) := match fastQ P w e o with
  | some v => some (v, w)
  | none => match sOp P ev o e w with
    | some r => some r
    | none => stepV0 P G sp ev o e w
noncomputable def stepV (P : Program) (G : Gl) (sp : SpecT) (ev : EvF) (o : Oper) (e : Env) (w : TW) : Option (Value × TW) := match fastQ P w e o with
  | some v => some (v, w)
  | none => match symQ P G e o with
    | some v => some (v, w)
    | none => match sOp P ev o e w with
      | some r => some r
      | none => stepV0 P G sp ev o e w
theorem stepV_split {sp : SpecT} {ev : EvF} {o : Oper} {e : Env} {w : TW} {r : Value × TW} (h : stepV P G sp ev o e w = some r) : (symQ P G e o = some r.1 ∧ r.2 = w) ∨ stepVq P G sp ev o e w = some r := by
  unfold stepV at h
  unfold stepVq
  cases hf : fastQ P w e o with
  | some u => rw [hf] at h; exact .inr h
  | none =>
    rw [hf] at h
    dsimp only at h ⊢
    cases hq : symQ P G e o with
    | some u => rw [hq] at h; cases h; exact .inl ⟨rfl, rfl⟩
    | none => rw [hq] at h; exact .inr h
theorem stepV_eq1 (P : Program) (G : Gl) (sp : SpecT) (ev : EvF) (o : Oper) (e : Env) (w : TW) : stepVq P G sp ev o e w = stepV1 P G sp ev o e w := by
  unfold stepVq stepV1
  cases fastQ P w e o with
  | some v => rfl
  | none =>
    dsimp only
    unfold sOp
    cases o.op <;> first | rfl | skip
    · rename_i tt a x
      dsimp only
      unfold sStore
      cases e.get a with
      | none => rfl
      | some va =>
        dsimp only
        cases e.get x with
        | none => rfl
        | some vx =>
          dsimp only
          cases fastSt P w tt va vx <;> rfl
    · rename_i c
      obtain ⟨callee, args, ts⟩ := c
      cases callee <;> first | rfl | skip
      rename_i x
      cases x <;> first | rfl | skip
      dsimp only
      unfold sCall
      cases bodyOk P _ <;> rfl
theorem stepV_eq {ev : EvF} {o : Oper} {e : Env} {r : Value × TW} {w : TW} (h : stepVq P G (specT P) ev o e w = some r) : stepV0 P G (specT P) ev o e w = some r := by
  rw [stepV_eq1] at h
  unfold stepV1 at h
  split at h
  · rename_i v hv
    cases h
    obtain ⟨h1, _⟩ := fastQ_spec (G := G) hv
    unfold stepV0
    rw [h1]
    dsimp only
    rw [forceV_eq]
  · split at h
    · rename_i t a x hop
      split at h
      · rename_i va vx ha hx
        split at h
        · rename_i w' hs
          cases h
          obtain ⟨h1, h2⟩ := Env.get_spec (G := G) ha
          obtain ⟨h3, h4⟩ := Env.get_spec (G := G) hx
          have he : evalOpT P (specT P) (e.ok G) e.eval o w = some (.skip, w') := by
            obtain ⟨dst, op, type, pos, after, guard⟩ := o
            dsimp only at hop
            subst hop
            have hopr : (({ dst, op := .store t a x, type, pos, after, guard } : Oper).op.operands) = #[a, x] := rfl
            unfold evalOpT
            rw [hopr]
            have e1 : (#[a, x].toList.all (e.ok G)) = true := by simp [h1, h3]
            have e2 : evalAF P e.eval { dst, op := .store t a x, type, pos, after, guard } = none := by
              unfold evalAF
              simp only [execQ_eq]
              rw [hopr]
              have : AFb 10 (e.eval a) = false := by
                rw [h2]
                unfold fastSt at hs
                split at hs <;> first | (cases hs; done) | rfl
              rw [if_neg (by simp [this])]
            rw [if_pos e1, e2]
            show (if true && true then runF P e.eval _ w else specT P _ _ w) = _
            simp only [Bool.and_self, if_true]
            unfold runF
            simp only [execQ_eq]
            try dsimp only
            rw [h2, h4, hs]
          unfold stepV0
          rw [he]
        · exact h
      · exact h
    · rename_i f args ts hop
      split at h
      · rename_i hbk
        split at h
        · rename_i r2 hg
          cases h
          obtain ⟨h1, h2⟩ := getK_spec (G := G) _ hg
          have he : evalOpT P (specT P) (e.ok G) e.eval o w = some (.enter f ⟨args.toList.map e.eval⟩, w) := by
            obtain ⟨dst, op, type, pos, after, guard⟩ := o
            dsimp only at hop
            subst hop
            refine evalOpT_still (fun y hy => ?_) ?_ rfl ?_ ⟨by simp, by simp⟩
            · have : y = .func f ∨ y ∈ args := by simpa [Op.operands, Call.operands] using hy
              rcases this with rfl | hy
              · rfl
              · exact h1 y (by simpa using hy)
            · show bodyOk P f = true
              exact hbk
            · show still P (do let d ← resolve e.eval ⟨.value (.func f), args, ts⟩ type; invoke d.target d.args) = _
              have hr : still P (resolve e.eval ⟨.value (.func f), args, ts⟩ type) = some { target := .fn (.func f) #[], args := #[] ++ args.map e.eval } := rfl
              rw [still_bind_of hr]
              show still P (callFunc f ((#[] ++ args.map e.eval) ++ #[])) = _
              have ha : (#[] ++ args.map e.eval) ++ #[] = (⟨args.toList.map e.eval⟩ : Array Value) := by cases args; simp
              rw [ha]
              unfold callFunc
              rw [still_bind_of (a := P) rfl]
              unfold bodyOk at hbk
              split at hbk <;> first | (cases hbk; done) | skip
              rename_i fn hfn
              rw [hfn]
              simp only [Bool.and_eq_true, Bool.not_eq_true'] at hbk
              have e1 : fn.body.isNone = false := by cases hx : fn.body with | none => rw [hx] at hbk; simp at hbk | some c => rfl
              simp only [hbk.2, e1, Bool.false_eq_true, if_false]
              rfl
          unfold stepV0
          rw [he]
          dsimp only
          rw [forceArr_eq, h2]
          dsimp only
          rw [forceV_eq]
        · exact h
      · exact h
    · exact h
theorem stepV_sound {B : FM} {w0 : World} {ev : EvF} (hev : EvOkT P G ev) {o : Oper} {e : Env} {v : Value} {wa wa2 : TW} (h : stepV P G (specT P) ev o e wa = some (v, wa2)) {τ : Rel} {a' : Act} {wr : World} (hv : ∀ x ∈ o.op.operands, e.ok G x = true → VR τ (e.eval x) (a'.eval x)) (hw : WT G B w0 τ wa wr)
    {K : Act → World → Prop} {Q : Exit → Act → World → Prop} (hK : ∀ τ' v' wr', τ.le τ' → VR τ' v v' → WT G B w0 τ' wa2 wr' → K (a'.put o.dst v') wr') : o.wp P a' wr K Q := by
  rcases stepV_split h with ⟨h, e0⟩ | h
  · obtain ⟨v', e1, e2⟩ := symQ_spec hw.sy hv h
    dsimp only at e0
    subst e0
    unfold Oper.wp
    rw [e1]
    exact hK τ v' wr (Rel.le.refl _) e2 hw
  · exact stepV0_sound (specT_ok P G) hev (stepV_eq h) hv hw hK
end
end Go.Ev
namespace Go.Ev
open Go.RowKit
set_option linter.unusedVariables false
set_option linter.unusedSimpArgs false

def bindsOn (o : Oper) (k : Nat) : Bool := o.after.any fun e => Region.binds .any e && e.on == k
theorem bindsOn_spec {o : Oper} {k : Nat} (h : bindsOn o k = true) : ∃ e ∈ o.after, Region.binds .any e = true ∧ e.on = k := by
  obtain ⟨e, he, hb⟩ := Array.any_eq_true'.1 h
  simp only [Bool.and_eq_true, beq_iff_eq] at hb
  exact ⟨e, he, hb.1, hb.2⟩
theorem bindsOn_of {o : Oper} {k : Nat} {e : Edge} (he : e ∈ o.after) (hb : Region.binds .any e = true) (hk : e.on = k) : bindsOn o k = true :=
  Array.any_eq_true'.2 ⟨e, he, by simp [hb, hk]⟩
/-- No operation that o need not wait for writes what o looks at. -/
def lookConf (ops : Array Oper) (pend : List Nat) (o : Oper) : Bool := pend.all fun k => bindsOn o k || (match ops[k]? with
  | some ok => (match ok.dst with | some d => !((o.looksAt ops).contains d) | none => true)
  | none => false)
/-- o writes nothing that one of these writes or looks at. -/
def freshD (ops : Array Oper) (pend : List Nat) (o : Oper) : Bool := match o.dst with
  | none => true
  | some d => pend.all fun k => match ops[k]? with
    | some ok => ok.dst != some d && !((ok.looksAt ops).contains d)
    | none => false
def selfD (ops : Array Oper) (o : Oper) : Bool := match o.dst with | none => true | some d => !((o.looksAt ops).contains d)
def quietKind (o : Oper) : Bool := match o.op with
  | .call ⟨.builtin .len, _, _⟩ => true
  | .call ⟨.builtin .cap, _, _⟩ => true
  | .call ⟨.builtin .min, _, _⟩ => true
  | .call ⟨.builtin .max, _, _⟩ => true
  | .call _ => false
  | .store _ _ _ => false
  | .alloc _ => false
  | .box _ _ => false
  | .makeMap _ _ => false
  | .buildSlice _ _ _ => false
  | .makeSlice _ _ _ => false
  | .mapUpdate _ _ _ _ => false
  | .insert _ _ _ _ => false
  | .mapEntry _ _ _ => false
  | .entryStore _ _ _ _ => false
  | .select _ _ => false
  | _ => true
def pickP (ops : Array Oper) (pend : List Nat) : List Nat → Option Nat
  | [] => none
  | i :: rs => match ops[i]? with
    | none => pickP ops pend rs
    | some o => match quietKind o && (noSel o && (selfD ops o && (freshD ops pend o && lookConf ops pend o))) with
      | true => some i
      | false => pickP ops pend rs
theorem pickP_spec {ops : Array Oper} {pend : List Nat} : ∀ {rs : List Nat} {i : Nat}, pickP ops pend rs = some i → i ∈ rs ∧ ∃ o, ops[i]? = some o ∧ quietKind o = true ∧ noSel o = true ∧ selfD ops o = true ∧ freshD ops pend o = true ∧ lookConf ops pend o = true
  | r :: rs, i, h => by
    unfold pickP at h
    split at h
    · obtain ⟨h1, h2⟩ := pickP_spec h
      exact ⟨List.mem_cons_of_mem _ h1, h2⟩
    · rename_i o ho
      split at h
      · rename_i hc
        cases h
        simp only [Bool.and_eq_true] at hc
        exact ⟨List.mem_cons_self, o, ho, hc.1, hc.2.1, hc.2.2.1, hc.2.2.2.1, hc.2.2.2.2⟩
      · obtain ⟨h1, h2⟩ := pickP_spec h
        exact ⟨List.mem_cons_of_mem _ h1, h2⟩

/-- It looks at no memory. -/
def pureK (ops : Array Oper) (k : Nat) : Bool := match ops[k]? with
  | some o => !(isLd o) && (match o.op with | .slice _ _ _ _ _ => false | _ => true)
  | none => false
def zeroIs (P : Program) (t : TypeId) : Bool := match P.info? t with
  | some i => match i.zero with
    | some z => AFb 10 z
    | none => false
  | none => false
/-- A new block that nobody looks at ahead of whom waits for it. -/
def allocOk (P : Program) (ops : Array Oper) (a : Nat) : Bool := match ops[a]? with
  | some o => match o.op, o.dst, o.guard with
    | .alloc t, some d, none => zeroIs P t && (List.range ops.size).all fun j => Nat.beq j a || (match ops[j]? with
      | some oj => (bindsOn oj a || !((oj.looksAt ops).contains d)) && oj.dst != some d
      | none => false)
    | _, _, _ => false
  | none => false
/-- Who waits for a waits for r. -/
def afterBoth (ops : Array Oper) (a r : Nat) : Bool := (List.range ops.size).all fun j => match ops[j]? with
  | some oj => !(bindsOn oj a) || bindsOn oj r
  | none => false
/-- The effect that comes next; and a new block that may come ahead of it. -/
def effOf (P : Program) (ops : Array Oper) (l : List Nat) : Option (Nat × Option Nat) := match l with
  | [r] => some (r, none)
  | [x, y] => match Nat.beq x y with
    | true => none
    | false => match allocOk P ops x && afterBoth ops x y with
      | true => some (y, some x)
      | false => match allocOk P ops y && afterBoth ops y x with
        | true => some (x, some y)
        | false => none
  | _ => none
section ev
variable (P : Program) (G : Gl) (ev : EvF)
noncomputable def goodB (ops : Array Oper) (e : Env) (w : TW) (k : Nat) : Bool := match ops[k]? with
  | none => false
  | some o => match noSel o && (e.fits o.dst) with
    | false => false
    | true => match wantedE ops e o with
      | some true => match quietT P G w e o with
        | some v => match o.dst with | some d => optVeq (some v) (look e.l d) | none => true
        | none => false
      | some false => match o.dst with | some d => optVeq (some undef) (look e.l d) | none => true
      | none => false
noncomputable def evalP (ops : Array Oper) : Nat → Array Bool → List Nat → Env → TW → Option (Env × TW)
  | 0, listed, _, e, w => if (Region.ready .any ops listed).isEmpty then some (e, w) else none
  | n + 1, listed, pend, e, w => match Region.ready .any ops listed with
    | [] => some (e, w)
    | r :: rs => match pickP ops pend (r :: rs) with
      | some i => match ops[i]? with
        | none => none
        | some o => match e.fits o.dst, wantedE ops e o with
          | true, some true => match quietT P G w e o with
            | some v => forceV 20 v fun v => forceB (listed.setIfInBounds i true) fun l' => putK e o.dst v fun e' => evalP ops n l' (i :: pend) e' w
            | none => none
          | true, some false => forceB (listed.setIfInBounds i true) fun l' => putK e o.dst undef fun e' => evalP ops n l' (i :: pend) e' w
          | _, _ => none
      | none => match effOf P ops (r :: rs) with
        | some (r, _) => match ops[r]? with
          | none => none
          | some o => match lookConf ops pend o && (freshD ops (pend.filter fun k => !(bindsOn o k)) o && e.fits o.dst) with
            | false => none
            | true => match (match wantedE ops e o with | some true => stepV P G (specT P) ev o e w | some false => some (undef, w) | none => none) with
              | some (v, w') => forceB (listed.setIfInBounds r true) fun l' => putK e o.dst v fun e' => spine (pend.filter fun k => !(bindsOn o k)) fun pend' => match (pend'.filter fun k => !(pureK ops k)).all (goodB P G ops e' w') with
                | true => evalP ops n l' pend' e' w'
                | false => none
              | none => none
        | none => match (r :: rs).all (fun j => match ops[j]? with | some oj => !(allocOk P ops j) && pend.all (bindsOn oj) | none => false) with
          | true => evalAnyT P G (specT P) ev ops (n + 1) listed e w
          | false => none
/-- In which order, and what is asked behind each effect: it hangs on the region alone. -/
inductive Pl where
  | done
  | bad
  | q (o : Oper) (k : Pl)
  | eff (o : Oper) (chk : List Nat) (k : Pl)
  | any (n : Nat) (listed : Array Bool)
def planP (P : Program) (ops : Array Oper) : Nat → Array Bool → List Nat → Pl
  | 0, listed, _ => if (Region.ready .any ops listed).isEmpty then .done else .bad
  | n + 1, listed, pend => match Region.ready .any ops listed with
    | [] => .done
    | r :: rs => match pickP ops pend (r :: rs) with
      | some i => match ops[i]? with
        | none => .bad
        | some o => forceB (listed.setIfInBounds i true) fun l' => .q o (planP P ops n l' (i :: pend))
      | none => match effOf P ops (r :: rs) with
        | some (r, _) => match ops[r]? with
          | none => .bad
          | some o => match lookConf ops pend o && freshD ops (pend.filter fun k => !(bindsOn o k)) o with
            | false => .bad
            | true => forceB (listed.setIfInBounds r true) fun l' => spine (pend.filter fun k => !(bindsOn o k)) fun pend' => spine (pend'.filter fun k => !(pureK ops k)) fun chk => .eff o chk (planP P ops n l' pend')
        | none => match (r :: rs).all (fun j => match ops[j]? with | some oj => !(allocOk P ops j) && pend.all (bindsOn oj) | none => false) with
          | true => .any (n + 1) listed
          | false => .bad
noncomputable def runP (ops : Array Oper) (p : Pl) : Env → TW → Option (Env × TW) :=
  Pl.rec (motive := fun _ => Env → TW → Option (Env × TW)) (fun e w => some (e, w)) (fun _ _ => none)
    (fun o _ ih e w => match e.fits o.dst, wantedE ops e o with
      | true, some true => match quietT P G w e o with
        | some v => putK e o.dst v fun e' => ih e' w
        | none => none
      | true, some false => putK e o.dst undef fun e' => ih e' w
      | _, _ => none)
    (fun o chk _ ih e w => match e.fits o.dst with
      | false => none
      | true => match (match wantedE ops e o with | some true => stepV P G (specT P) ev o e w | some false => some (undef, w) | none => none) with
        | some (v, w') => putK e o.dst v fun e' => match chk.all (goodB P G ops e' w') with
          | true => ih e' w'
          | false => none
        | none => none)
    (fun n listed e w => evalAnyT P G (specT P) ev ops n listed e w) p
theorem runP_eq (ops : Array Oper) : ∀ (n : Nat) (listed : Array Bool) (pend : List Nat) (e : Env) (w : TW), runP P G ev ops (planP P ops n listed pend) e w = evalP P G ev ops n listed pend e w
  | 0, listed, pend, e, w => by
    unfold planP evalP
    split <;> rfl
  | n + 1, listed, pend, e, w => by
    unfold planP evalP
    cases Region.ready .any ops listed with
    | nil => rfl
    | cons r rs =>
      dsimp only
      cases pickP ops pend (r :: rs) with
      | some i =>
        dsimp only
        cases ops[i]? with
        | none => rfl
        | some o =>
          dsimp only
          rw [forceB_eq]
          show (match e.fits o.dst, wantedE ops e o with
            | true, some true => match quietT P G w e o with
              | some v => putK e o.dst v fun e' => runP P G ev ops (planP P ops n (listed.setIfInBounds i true) (i :: pend)) e' w
              | none => none
            | true, some false => putK e o.dst undef fun e' => runP P G ev ops (planP P ops n (listed.setIfInBounds i true) (i :: pend)) e' w
            | _, _ => none) = _
          simp only [runP_eq ops n, forceB_eq, forceV_eq]
      | none =>
        dsimp only
        cases effOf P ops (r :: rs) with
        | some x =>
          obtain ⟨r, al⟩ := x
          dsimp only
          cases ops[r]? with
          | none => rfl
          | some o =>
            dsimp only
            cases h1 : lookConf ops pend o with
            | false => rfl
            | true =>
            cases h2 : freshD ops (pend.filter fun k => !(bindsOn o k)) o with
            | false => rfl
            | true =>
            simp only [Bool.true_and, forceB_eq, spine_eq]
            show (match e.fits o.dst with
              | false => none
              | true => match (match wantedE ops e o with | some true => stepV P G (specT P) ev o e w | some false => some (undef, w) | none => none) with
                | some (v, w') => putK e o.dst v fun e' => match ((pend.filter fun k => !(bindsOn o k)).filter fun k => !(pureK ops k)).all (goodB P G ops e' w') with
                  | true => runP P G ev ops (planP P ops n (listed.setIfInBounds r true) (pend.filter fun k => !(bindsOn o k))) e' w'
                  | false => none
                | none => none) = _
            simp only [runP_eq ops n]
        | none =>
          dsimp only
          split <;> rfl
noncomputable def evalDrawnP : DrawnT := fun ops e w => if Region.noSelect ops then match runP P G ev ops (planP P ops ops.size (Array.replicate ops.size false) []) e w with
  | some r => some r
  | none => evalAnyT P G (specT P) ev ops ops.size (Array.replicate ops.size false) e w else none
end ev
end Go.Ev
namespace Go.Ev
open Go.RowKit
set_option linter.unusedVariables false
set_option linter.unusedSimpArgs false

def dstsOf (ops : Array Oper) (rem : List Nat) : List Nat := rem.filterMap fun k => (ops[k]?).bind (·.dst)
theorem mem_dsts {ops : Array Oper} {rem : List Nat} {t : Nat} : t ∈ dstsOf ops rem ↔ ∃ k ∈ rem, ∃ o, ops[k]? = some o ∧ o.dst = some t := by
  unfold dstsOf
  rw [List.mem_filterMap]
  constructor
  · rintro ⟨k, hk, h⟩
    cases ho : ops[k]? with
    | none => rw [ho] at h; cases h
    | some o => rw [ho] at h; exact ⟨k, hk, o, ho, h⟩
  · rintro ⟨k, hk, o, ho, h⟩
    exact ⟨k, hk, by rw [ho]; exact h⟩

/-- The temporaries agree, but for some. -/
structure EnvD (τ : Rel) (e : Env) (a' : Act) (D : List Nat) : Prop where
  tmps : ∀ t v, look e.l t = some v → t ∉ D → VR τ v (a'.tmps.getD t undef)
  size : a'.tmps.size = e.n
  d' : a'.defers = []
theorem EnvD.of {τ : Rel} {e : Env} {a' : Act} (h : EnvR τ e a') (D : List Nat) : EnvD τ e a' D := ⟨fun t v hv _ => h.tmps t v hv, h.size, h.d'⟩
theorem EnvD.all {τ : Rel} {e : Env} {a' : Act} (h : EnvD τ e a' []) : EnvR τ e a' := ⟨fun t v hv => h.tmps t v hv (by simp), h.size, h.d'⟩
theorem EnvD.mono {τ τ' : Rel} (hl : τ.le τ') {e : Env} {a' : Act} {D : List Nat} (h : EnvD τ e a' D) : EnvD τ' e a' D := ⟨fun t v hv hd => (h.tmps t v hv hd).mono hl, h.size, h.d'⟩
theorem look_put {e : Env} {d : Nat} {v : Value} (t : Nat) : look (e.put (some d) v).l t = if d = t then some v else look e.l t := by
  show (match Nat.beq d t with | true => some v | false => look e.l t) = _
  by_cases h : d = t
  · subst h; rw [Nat.beq_refl, if_pos rfl]
  · have hb : Nat.beq d t = false := by
      cases hq : Nat.beq d t with
      | false => rfl
      | true => exact absurd (Nat.eq_of_beq_eq_true hq) h
    rw [hb, if_neg h]
theorem act_put {a' : Act} {d : Nat} {v : Value} (t : Nat) (hd : d < a'.tmps.size) : (a'.put (some d) v).tmps.getD t undef = if d = t then v else a'.tmps.getD t undef := by
  simp only [Act.put, Array.getD_eq_getD_getElem?]
  by_cases h : d = t
  · subst h; rw [Array.getElem?_setIfInBounds_self, if_pos hd, if_pos rfl]; rfl
  · rw [Array.getElem?_setIfInBounds_ne h, if_neg h]
theorem fits_lt {e : Env} {d : Nat} (h : e.fits (some d) = true) : d < e.n := by simpa [Env.fits, Nat.blt_eq] using h
/-- Both go on. -/
theorem EnvD.put {τ : Rel} {e : Env} {a' : Act} {D : List Nat} (x : EnvD τ e a' D) (d : Option Tmp) (hd : e.fits d = true) {v v' : Value} (hv : VR τ v v') : EnvD τ (e.put d v) (a'.put d v') D := by
  cases d with
  | none => exact x
  | some d =>
    have hlt := fits_lt hd
    refine ⟨fun t u hu ht => ?_, by simp [Act.put, Env.put, x.size], x.d'⟩
    rw [look_put] at hu
    rw [act_put t (by rw [x.size]; exact hlt)]
    by_cases e1 : d = t
    · rw [if_pos e1] at hu; cases hu; rw [if_pos e1]; exact hv
    · rw [if_neg e1] at hu; rw [if_neg e1]; exact x.tmps t u hu ht
/-- The great one catches up. -/
theorem EnvD.catch {τ : Rel} {e : Env} {a' : Act} {D D' : List Nat} (x : EnvD τ e a' D) (d : Option Tmp) (hd : e.fits d = true) {v v' : Value} (hv : VR τ v v') (hl : ∀ t, d = some t → look e.l t = some v) (hD : ∀ t, t ∈ D → t ∉ D' → d = some t) : EnvD τ e (a'.put d v') D' := by
  cases d with
  | none => exact ⟨fun t u hu ht => x.tmps t u hu (fun h => by cases hD t h ht), x.size, x.d'⟩
  | some d =>
    have hlt := fits_lt hd
    refine ⟨fun t u hu ht => ?_, by simp [Act.put, x.size], x.d'⟩
    rw [act_put t (by rw [x.size]; exact hlt)]
    by_cases e1 : d = t
    · subst e1
      rw [hl d rfl] at hu; cases hu
      rw [if_pos rfl]; exact hv
    · rw [if_neg e1]
      exact x.tmps t u hu (fun h => e1 (Option.some.inj (hD t h ht)))
/-- The small one runs ahead. -/
theorem EnvD.ahead {τ : Rel} {e : Env} {a' : Act} {D D' : List Nat} (x : EnvD τ e a' D) (d : Option Tmp) (v : Value) (h1 : ∀ t, d = some t → t ∈ D') (h2 : ∀ t, t ∈ D → t ∈ D') : EnvD τ (e.put d v) a' D' := by
  cases d with
  | none => exact ⟨fun t u hu ht => x.tmps t u hu (fun h => ht (h2 t h)), x.size, x.d'⟩
  | some d =>
    refine ⟨fun t u hu ht => ?_, x.size, x.d'⟩
    rw [look_put] at hu
    by_cases e1 : d = t
    · subst e1; exact absurd (h1 d rfl) ht
    · rw [if_neg e1] at hu; exact x.tmps t u hu (fun h => ht (h2 t h))
theorem EnvD.eval {G : Gl} {τ : Rel} {e : Env} {a' : Act} {D : List Nat} {ops : Array Oper} {o : Oper} (x : EnvD τ e a' D) (hg : ∀ g : Nat, g < G.n → τ g g none) (hD : ∀ t ∈ o.looksAt ops, t ∉ D) : ∀ y ∈ o.op.operands, e.ok G y = true → VR τ (e.eval y) (a'.eval y) := by
  intro y hm hy
  cases y with
  | tmp t =>
    simp only [Env.ok] at hy
    show VR τ (match look e.l t with | some v => v | none => undef) (a'.tmps.getD t undef)
    cases h : look e.l t with
    | none => rw [h] at hy; cases hy
    | some v => exact x.tmps t v h (hD t (List.mem_append_left _ (List.mem_filterMap.2 ⟨.tmp t, by simpa using hm, rfl⟩)))
  | const v => exact AFb.vr _ _ hy
  | global g => exact .ptr g g 0 none (hg g (by simpa [Env.ok] using hy))
  | func f => exact .func _ _ _ _ _ (fun l h => by cases h) rfl rfl (fun i v v' h => by simp at h) (fun i v v' h => by simp at h)
theorem wantedE_spec2 {τ : Rel} {ops : Array Oper} {e : Env} {a' : Act} {D : List Nat} {o : Oper} {q : Bool} (h : wantedE ops e o = some q) (ha : EnvD τ e a' D) (hD : ∀ t ∈ o.looksAt ops, t ∉ D) : Region.wanted o (yielded ops a'.tmps) = q := by
  unfold wantedE at h
  unfold Region.wanted
  cases hg : o.guard with
  | none => rw [hg] at h; cases h; rfl
  | some x =>
    obtain ⟨j, want⟩ := x
    rw [hg] at h
    dsimp only at h ⊢
    unfold yielded
    cases hd : ((ops[j]?).bind (·.dst)) with
    | none => rw [hd] at h; cases h; rfl
    | some d =>
      rw [hd] at h
      simp only [Option.bind_some]
      dsimp only at h
      have hdl : d ∈ o.looksAt ops := by
        unfold Oper.looksAt
        rw [hg]
        dsimp only
        rw [hd]
        simp
      cases hl : look e.l d with
      | none => rw [hl] at h; cases h
      | some v =>
        rw [hl] at h
        have hv := ha.tmps d v hl (hD d hdl)
        rw [Array.getD_eq_getD_getElem?] at hv
        cases hx : a'.tmps[d]? with
        | none =>
          rw [hx] at hv
          simp only [Option.getD_none] at hv
          cases v <;> first | (cases h; done) | (cases h; rfl) | (cases hv)
        | some u =>
          rw [hx] at hv
          simp only [Option.getD_some] at hv
          cases hv <;> first | (cases h; done) | (cases h; rfl) | (cases h; cases want <;> rename_i b <;> cases b <;> rfl)
theorem wantedE_congr {ops : Array Oper} {e : Env} {d : Option Tmp} {v : Value} {o : Oper} (h : ∀ t, d = some t → t ∉ o.looksAt ops) : wantedE ops (e.put d v) o = wantedE ops e o := by
  cases d with
  | none => rfl
  | some d =>
    unfold wantedE
    cases hg : o.guard with
    | none => rfl
    | some x =>
      obtain ⟨j, want⟩ := x
      dsimp only
      cases hd : ((ops[j]?).bind (·.dst)) with
      | none => rfl
      | some t =>
        dsimp only
        have ht : t ∈ o.looksAt ops := by
          unfold Oper.looksAt
          rw [hg]
          dsimp only
          rw [hd]
          simp
        have hne : d ≠ t := fun x => h d rfl (x ▸ ht)
        rw [look_put, if_neg hne]
theorem eval_put {G : Gl} {ops : Array Oper} {e : Env} {d : Option Tmp} {v : Value} {o : Oper} (h : ∀ t, d = some t → t ∉ o.looksAt ops) : ∀ x ∈ o.op.operands, (e.put d v).eval x = e.eval x ∧ (e.put d v).ok G x = e.ok G x := by
  intro x hx
  cases d with
  | none => exact ⟨rfl, rfl⟩
  | some d =>
    cases x with
    | tmp t =>
      have ht : t ∈ o.looksAt ops := List.mem_append_left _ (List.mem_filterMap.2 ⟨.tmp t, by simpa using hx, rfl⟩)
      have hne : d ≠ t := fun e => h d rfl (e ▸ ht)
      constructor
      · show (match look (e.put (some d) v).l t with | some v => v | none => undef) = (match look e.l t with | some v => v | none => undef)
        rw [look_put, if_neg hne]
      · show (look (e.put (some d) v).l t).isSome = (look e.l t).isSome
        rw [look_put, if_neg hne]
    | _ => exact ⟨rfl, rfl⟩

section sound
variable {P : Program} {G : Gl}
def Good (P : Program) (G : Gl) (ops : Array Oper) (e : Env) (w : TW) (k : Nat) : Prop := ∃ o v, ops[k]? = some o ∧ noSel o = true ∧ e.fits o.dst = true ∧ ((wantedE ops e o = some true ∧ quietT P G w e o = some v) ∨ (wantedE ops e o = some false ∧ v = undef)) ∧ (∀ d, o.dst = some d → look e.l d = some v)
theorem optVeq_look {v : Value} {x : Option Value} (h : optVeq (some v) x = true) : x = some v := by
  cases x with
  | none => cases h
  | some u => rw [veq_eq _ _ _ h]
theorem goodB_spec {ops : Array Oper} {e : Env} {w : TW} {k : Nat} (h : goodB P G ops e w k = true) : Good P G ops e w k := by
  unfold goodB at h
  split at h <;> first | (cases h; done) | skip
  rename_i o ho
  split at h <;> first | (cases h; done) | skip
  rename_i hc
  rw [Bool.and_eq_true] at hc
  split at h
  · rename_i hw
    split at h <;> first | (cases h; done) | skip
    rename_i v hq
    refine ⟨o, v, ho, hc.1, hc.2, .inl ⟨hw, hq⟩, fun d hd => ?_⟩
    rw [hd] at h
    exact optVeq_look h
  · rename_i hw
    refine ⟨o, undef, ho, hc.1, hc.2, .inr ⟨hw, rfl⟩, fun d hd => ?_⟩
    rw [hd] at h
    exact optVeq_look h
  · cases h
theorem Good.put {ops : Array Oper} {e : Env} {w : TW} {k : Nat} (h : Good P G ops e w k) {d : Option Tmp} {v : Value} (hd : ∀ o, ops[k]? = some o → ∀ t, d = some t → t ∉ o.looksAt ops ∧ o.dst ≠ some t) : Good P G ops (e.put d v) w k := by
  obtain ⟨o, u, ho, hs, hf, hq, hl⟩ := h
  have h1 : ∀ t, d = some t → t ∉ o.looksAt ops := fun t ht => (hd o ho t ht).1
  refine ⟨o, u, ho, hs, ?_, ?_, fun t ht => ?_⟩
  · cases d <;> exact hf
  · rw [wantedE_congr h1, quietT_congr hs (eval_put h1)]; exact hq
  · cases d with
    | none => exact hl t ht
    | some d =>
      have hne : d ≠ t := fun x => (hd o ho d rfl).2 (x ▸ ht)
      rw [look_put, if_neg hne]
      exact hl t ht

/-- Newest first: none is waited for by an older one; each waits for what is listed. -/
def Ord (ops : Array Oper) (listed : Array Bool) : List Nat → Prop
  | [] => True
  | x :: p => (∀ o, ops[x]? = some o → ∀ ed ∈ o.after, Region.binds .any ed = true → listed.getD ed.on false = true ∧ ed.on ≠ x) ∧ (∀ y ∈ p, ∀ o, ops[y]? = some o → bindsOn o x = false) ∧ Ord ops listed p
structure PI (P : Program) (G : Gl) (ops : Array Oper) (listed : Array Bool) (pend : List Nat) (e : Env) (w : TW) : Prop where
  good : ∀ k ∈ pend, Good P G ops e w k
  lk : ∀ k ∈ pend, listed.getD k false = true
  ord : Ord ops listed pend
  conf : ∀ k ∈ pend, ∀ m ∈ pend, ∀ ok om, ops[k]? = some ok → ops[m]? = some om → bindsOn ok m = true ∨ ∀ d, om.dst = some d → d ∉ ok.looksAt ops
  dis : ∀ k ∈ pend, ∀ m ∈ pend, k ≠ m → ∀ ok om, ops[k]? = some ok → ops[m]? = some om → ∀ d, om.dst = some d → ok.dst ≠ some d
structure Rl (listed : Array Bool) (rem : List Nat) (listed' : Array Bool) : Prop where
  size : listed'.size = listed.size
  get : ∀ j d, listed'.getD j d = if j ∈ rem then false else listed.getD j d

theorem lt_of_getD {a : Array Bool} {k : Nat} (h : a.getD k false = true) : k < a.size := by
  rcases Nat.lt_or_ge k a.size with h' | h'
  · exact h'
  · simp [Array.getElem?_eq_none h'] at h
theorem lt_of_getD' {a : Array Bool} {k : Nat} (h : a.getD k true = false) : k < a.size := by
  rcases Nat.lt_or_ge k a.size with h' | h'
  · exact h'
  · simp [Array.getElem?_eq_none h'] at h
theorem getD_in {a : Array Bool} {k : Nat} (h : k < a.size) (d d' : Bool) : a.getD k d = a.getD k d' := by simp [h]
theorem getD_set {a : Array Bool} {k : Nat} (h : k < a.size) (j : Nat) (d : Bool) : (a.setIfInBounds k true).getD j d = if j = k then true else a.getD j d := by
  by_cases e : j = k
  · subst e; simp [h]
  · rw [if_neg e, getD_set_ne d (fun x => e x.symm)]
theorem Rl.nil {listed listed' : Array Bool} (h : Rl listed [] listed') : listed' = listed := by
  refine Array.ext h.size fun i h1 h2 => ?_
  have := h.get i false
  simpa [h1, h2] using this
theorem Rl.catch {listed listed' : Array Bool} {rem : List Nat} (h : Rl listed rem listed') (hnd : rem.Nodup) {j : Nat} (hj : listed.getD j false = true) : Rl listed (rem.erase j) (listed'.setIfInBounds j true) := by
  have hlt : j < listed'.size := by rw [h.size]; exact lt_of_getD hj
  refine ⟨by simpa using h.size, fun i d => ?_⟩
  rw [getD_set hlt]
  by_cases e : i = j
  · subst e
    rw [if_pos rfl, if_neg (fun x => by rw [List.Nodup.mem_erase_iff hnd] at x; exact x.1 rfl)]
    rw [getD_in (lt_of_getD hj) d false, hj]
  · rw [if_neg e, h.get i d]
    have : i ∈ rem.erase j ↔ i ∈ rem := List.mem_erase_of_ne e
    simp only [this]
theorem Rl.ahead {listed listed' : Array Bool} {rem : List Nat} (h : Rl listed rem listed') {i : Nat} (hi : listed.getD i true = false) : Rl (listed.setIfInBounds i true) (i :: rem) listed' := by
  have hlt := lt_of_getD' hi
  refine ⟨by simpa using h.size, fun j d => ?_⟩
  rw [h.get j d, getD_set hlt]
  by_cases e : j = i
  · subst e
    rw [if_pos (List.mem_cons_self)]
    by_cases hr : j ∈ rem
    · rw [if_pos hr]
    · rw [if_neg hr, getD_in hlt d true, hi]
  · have : j ∈ i :: rem ↔ j ∈ rem := by simp [e]
    simp only [this, if_neg e]
theorem Rl.both {listed listed' : Array Bool} {rem : List Nat} (h : Rl listed rem listed') {i : Nat} (hi : listed.getD i true = false) (hr : i ∉ rem) : Rl (listed.setIfInBounds i true) rem (listed'.setIfInBounds i true) := by
  have hlt := lt_of_getD' hi
  refine ⟨by simpa using h.size, fun j d => ?_⟩
  rw [getD_set hlt, getD_set (by rw [h.size]; exact hlt), h.get j d]
  by_cases e : j = i
  · subst e; rw [if_pos rfl, if_pos rfl, if_neg hr]
  · rw [if_neg e, if_neg e]

theorem ready_sub {ops : Array Oper} {listed listed' : Array Bool} {rem : List Nat} (h : Rl listed rem listed') {j : Nat} (hj : j ∈ Region.ready .any ops listed') (hr : j ∉ rem) : j ∈ Region.ready .any ops listed := by
  rw [mem_ready] at *
  obtain ⟨h0, o, ho, hall⟩ := hj
  refine ⟨by rw [h.get, if_neg hr] at h0; exact h0, o, ho, fun ed hed hb => ?_⟩
  have := hall ed hed hb
  rw [h.get] at this
  split at this
  · cases this
  · exact this
theorem no_rem {ops : Array Oper} {listed listed' : Array Bool} {rem : List Nat} (h : Rl listed rem listed') {j : Nat} {o : Oper} (ho : ops[j]? = some o) (hj : j ∈ Region.ready .any ops listed') {k : Nat} (hk : k ∈ rem) : bindsOn o k = false := by
  cases hb : bindsOn o k with
  | false => rfl
  | true =>
    obtain ⟨ed, h1, h2, h3⟩ := bindsOn_spec hb
    obtain ⟨_, o2, ho2, hall⟩ := mem_ready.1 hj
    rw [ho] at ho2; cases ho2
    have := hall ed h1 h2
    rw [h3, h.get, if_pos hk] at this
    cases this

theorem oldest {ops : Array Oper} {listed : Array Bool} {rem : List Nat} : ∀ (pend : List Nat), Ord ops listed pend → (∃ x ∈ pend, x ∈ rem) →
    ∃ x ∈ pend, x ∈ rem ∧ ∀ o, ops[x]? = some o → ∀ ed ∈ o.after, Region.binds .any ed = true → listed.getD ed.on false = true ∧ (ed.on ∈ pend → ed.on ∉ rem)
  | [], _, h => by obtain ⟨x, hx, _⟩ := h; cases hx
  | x :: p, ⟨h1, h2, h3⟩, h => by
    by_cases hp : ∃ y ∈ p, y ∈ rem
    · obtain ⟨y, hy, hyr, hyo⟩ := oldest p h3 hp
      refine ⟨y, List.mem_cons_of_mem _ hy, hyr, fun o ho ed hed hb => ⟨(hyo o ho ed hed hb).1, fun hm => ?_⟩⟩
      rcases List.mem_cons.1 hm with e | hm
      · have := h2 y hy o ho
        rw [bindsOn_of hed hb e] at this
        cases this
      · exact (hyo o ho ed hed hb).2 hm
    · have hx : x ∈ rem := by
        obtain ⟨y, hy, hyr⟩ := h
        rcases List.mem_cons.1 hy with rfl | hy
        · exact hyr
        · exact absurd ⟨y, hy, hyr⟩ hp
      refine ⟨x, List.mem_cons_self, hx, fun o ho ed hed hb => ⟨(h1 o ho ed hed hb).1, fun hm hr => ?_⟩⟩
      rcases List.mem_cons.1 hm with e | hm
      · exact (h1 o ho ed hed hb).2 e
      · exact hp ⟨_, hm, hr⟩
/-- While something is behind, something is ready. -/
theorem ready_ne {ops : Array Oper} {listed listed' : Array Bool} {pend rem : List Nat} {e : Env} {w : TW} (hI : PI P G ops listed pend e w) (hsub : ∀ k ∈ rem, k ∈ pend) (h : Rl listed rem listed') (hne : rem ≠ []) : Region.ready .any ops listed' ≠ [] := by
  obtain ⟨k, hk⟩ := List.exists_mem_of_ne_nil rem hne
  obtain ⟨x, hx, hxr, hxo⟩ := oldest (rem := rem) pend hI.ord ⟨k, hsub k hk, hk⟩
  obtain ⟨o, v, ho, _⟩ := hI.good x hx
  intro h0
  have : x ∈ Region.ready .any ops listed' := by
    rw [mem_ready]
    refine ⟨by rw [h.get, if_pos hxr], o, ho, fun ed hed hb => ?_⟩
    obtain ⟨q1, q2⟩ := hxo o ho ed hed hb
    rw [h.get, if_neg (fun hr => q2 (hsub _ hr) hr)]
    exact q1
  rw [h0] at this
  cases this

/-- The great run catches up by one; what it has done ahead it leaves. -/
theorem catchOne {ops : Array Oper} {listed listed' : Array Bool} {pend rem : List Nat} {e : Env} {w : TW} {B : FM} {w0 : World} {τ : Rel} {a' : Act} {wr : World} {Q : Exit → Act → World → Prop} {D0 : List Nat} (hI : PI P G ops listed pend e w) (hsub : ∀ k ∈ rem, k ∈ pend) (hnd : rem.Nodup) (h : Rl listed rem listed')
    (hD0 : ∀ k ∈ pend, ∀ o, ops[k]? = some o → ∀ d ∈ D0, d ∉ o.looksAt ops ∧ o.dst ≠ some d)
    (ha : EnvD τ e a' (D0 ++ dstsOf ops rem)) (hw : WT G B w0 τ w wr) {j : Nat} (hj : j ∈ Region.ready .any ops listed') (hjr : j ∈ rem) {K : Act → World → Prop}
    (hK : ∀ τ1 a1 wr1, τ.le τ1 → (∀ d ∈ D0, a1.tmps.getD d undef = a'.tmps.getD d undef) → EnvD τ1 e a1 (D0 ++ dstsOf ops (rem.erase j)) → WT G B w0 τ1 w wr1 → K a1 wr1) : wpOp P ops Q j K a' wr := by
  obtain ⟨o, v, ho, hs, hf, hq, hl⟩ := hI.good j (hsub j hjr)
  have hD : ∀ t ∈ o.looksAt ops, t ∉ D0 ++ dstsOf ops rem := by
    intro t ht hd
    rcases List.mem_append.1 hd with hd | hd
    · exact (hD0 j (hsub j hjr) o ho t hd).1 ht
    · obtain ⟨m, hm, om, hom, hdm⟩ := mem_dsts.1 hd
      rcases hI.conf j (hsub j hjr) m (hsub m hm) o om ho hom with hb | hb
      · rw [no_rem h ho hj hm] at hb; cases hb
      · exact hb t hdm ht
  have hDD : ∀ t, t ∈ D0 ++ dstsOf ops rem → t ∉ D0 ++ dstsOf ops (rem.erase j) → o.dst = some t := by
    intro t h1 h2
    rcases List.mem_append.1 h1 with h1 | h1
    · exact absurd (List.mem_append_left _ h1) h2
    · obtain ⟨m, hm, om, hom, hdm⟩ := mem_dsts.1 h1
      by_cases e : m = j
      · subst e; rw [ho] at hom; cases hom; exact hdm
      · exact absurd (List.mem_append_right _ (mem_dsts.2 ⟨m, (List.mem_erase_of_ne e).2 hm, om, hom, hdm⟩)) h2
  have hkeep : ∀ v', ∀ d ∈ D0, (a'.put o.dst v').tmps.getD d undef = a'.tmps.getD d undef := by
    intro v' d hd
    have hne := (hD0 j (hsub j hjr) o ho d hd).2
    cases ho2 : o.dst with
    | none => rfl
    | some x =>
      have : x ≠ d := fun e => hne (by rw [ho2, e])
      simp only [Act.put, Array.getD_eq_getD_getElem?]
      rw [Array.getElem?_setIfInBounds_ne this]
  unfold wpOp
  rw [ho]
  dsimp only
  rcases hq with ⟨hwt, hqq⟩ | ⟨hwt, rfl⟩
  · rw [if_pos (wantedE_spec2 hwt ha hD)]
    refine .inl ?_
    unfold Oper.wp
    obtain ⟨τ1, v', wr1, l1, r1, r2, r3⟩ := quietT_spec (ρ' := a'.eval) (ha.eval hw.glob hD) hw hqq
    rw [r1]
    exact hK τ1 _ _ l1 (hkeep v') ((ha.mono l1).catch o.dst hf r2 hl hDD) r3
  · rw [if_neg (by rw [wantedE_spec2 hwt ha hD]; simp)]
    exact hK τ _ _ (Rel.le.refl _) (hkeep _) (ha.catch o.dst hf (undef_vr _) hl hDD) hw
end sound
end Go.Ev
namespace Go.Ev
open Go.RowKit
set_option linter.unusedVariables false
set_option linter.unusedSimpArgs false

section sound
variable {P : Program} {G : Gl} {ev : EvF}

theorem Ord.mono {ops : Array Oper} {l l2 : Array Bool} (h : ∀ j, l.getD j false = true → l2.getD j false = true) : ∀ {p : List Nat}, Ord ops l p → Ord ops l2 p
  | [], _ => trivial
  | x :: p, ⟨h1, h2, h3⟩ => ⟨fun o ho ed hed hb => ⟨h _ (h1 o ho ed hed hb).1, (h1 o ho ed hed hb).2⟩, h2, Ord.mono h h3⟩
theorem Ord.filter {ops : Array Oper} {l : Array Bool} (q : Nat → Bool) : ∀ {p : List Nat}, Ord ops l p → Ord ops l (p.filter q)
  | [], _ => trivial
  | x :: p, ⟨h1, h2, h3⟩ => by
    rw [List.filter_cons]
    split
    · exact ⟨h1, fun y hy => h2 y (List.mem_filter.1 hy).1, Ord.filter q h3⟩
    · exact Ord.filter q h3
theorem Ord.after {ops : Array Oper} {l : Array Bool} : ∀ {p : List Nat}, Ord ops l p → ∀ y ∈ p, ∀ o, ops[y]? = some o → ∀ ed ∈ o.after, Region.binds .any ed = true → l.getD ed.on false = true
  | x :: p, ⟨h1, h2, h3⟩, y, hy, o, ho, ed, hed, hb => by
    rcases List.mem_cons.1 hy with rfl | hy
    · exact (h1 o ho ed hed hb).1
    · exact Ord.after h3 y hy o ho ed hed hb

/-- What the temporaries hold that the great run has written ahead. -/
def Kept (D0 : List Nat) (f : Nat → Value) (a' : Act) : Prop := ∀ d ∈ D0, a'.tmps.getD d undef = f d
theorem catchAll {ops : Array Oper} {listed : Array Bool} {pend : List Nat} {e : Env} {w : TW} {B : FM} {w0 : World} {τ0 : Rel} {Q : Exit → Act → World → Prop} {D0 : List Nat} {f : Nat → Value} (hI : PI P G ops listed pend e w)
    (hD0 : ∀ k ∈ pend, ∀ o, ops[k]? = some o → ∀ d ∈ D0, d ∉ o.looksAt ops ∧ o.dst ≠ some d) (F : Nat) {R0 : List Nat}
    (h0 : ∀ τ a' wr, τ0.le τ → Kept D0 f a' → EnvD τ e a' D0 → WT G B w0 τ w wr → wpAny P .any ops Q F listed a' wr)
    (h1 : ∀ rem listed' τ a' wr, rem ≠ [] → (∀ k ∈ rem, k ∈ R0) → (∀ k ∈ rem, k ∈ pend) → rem.Nodup → Rl listed rem listed' → τ0.le τ → Kept D0 f a' → EnvD τ e a' (D0 ++ dstsOf ops rem) → WT G B w0 τ w wr → ∀ j ∈ Region.ready .any ops listed', j ∉ rem →
      wpOp P ops Q j (wpAny P .any ops Q (F + rem.length - 1) (listed'.setIfInBounds j true)) a' wr) :
    ∀ (m : Nat) (rem : List Nat) (listed' : Array Bool) (τ : Rel) (a' : Act) (wr : World), rem.length = m → (∀ k ∈ rem, k ∈ R0) → (∀ k ∈ rem, k ∈ pend) → rem.Nodup → Rl listed rem listed' → τ0.le τ → Kept D0 f a' → EnvD τ e a' (D0 ++ dstsOf ops rem) → WT G B w0 τ w wr → wpAny P .any ops Q (F + m) listed' a' wr := by
  intro m
  induction m with
  | zero =>
    intro rem listed' τ a' wr hm h00 hsub hnd hR hl hk ha hw
    have e0 := List.eq_nil_of_length_eq_zero hm
    subst e0
    rw [hR.nil]
    refine h0 τ a' wr hl hk ?_ hw
    have : D0 ++ dstsOf ops [] = D0 := by simp [dstsOf]
    rw [this] at ha; exact ha
  | succ m ih =>
    intro rem listed' τ a' wr hm h00 hsub hnd hR hl hk ha hw
    have hne : rem ≠ [] := by rintro rfl; simp at hm
    refine ⟨fun h => absurd h (ready_ne hI hsub hR hne), fun j hj => ?_⟩
    by_cases hjr : j ∈ rem
    · refine catchOne hI hsub hnd hR hD0 ha hw hj hjr ?_
      intro τ1 a1 wr1 l1 hk1 ha1 hw1
      refine ih (rem.erase j) _ τ1 a1 wr1 ?_ (fun k hk => h00 k (List.mem_of_mem_erase hk)) (fun k hk => hsub k (List.mem_of_mem_erase hk)) (hnd.erase j) (hR.catch hnd (hI.lk j (hsub j hjr))) (hl.trans l1) (fun d hd => (hk1 d hd).trans (hk d hd)) ha1 hw1
      rw [List.length_erase_of_mem hjr, hm]; rfl
    · have := h1 rem listed' τ a' wr hne h00 hsub hnd hR hl hk ha hw j hj hjr
      rw [hm] at this
      exact this

theorem freshD_spec {ops : Array Oper} {pend : List Nat} {o : Oper} (h : freshD ops pend o = true) {k : Nat} (hk : k ∈ pend) {ok : Oper} (hok : ops[k]? = some ok) {d : Nat} (hd : o.dst = some d) : ok.dst ≠ some d ∧ d ∉ ok.looksAt ops := by
  unfold freshD at h
  rw [hd] at h
  have := List.all_eq_true.1 h k hk
  rw [hok] at this
  dsimp only at this
  simp only [Bool.and_eq_true, bne_iff_ne, ne_eq, Bool.not_eq_true', List.contains_eq_mem, decide_eq_false_iff_not] at this
  exact this
theorem lookConf_spec {ops : Array Oper} {pend : List Nat} {o : Oper} (h : lookConf ops pend o = true) {k : Nat} (hk : k ∈ pend) {ok : Oper} (hok : ops[k]? = some ok) : bindsOn o k = true ∨ ∀ d, ok.dst = some d → d ∉ o.looksAt ops := by
  have := List.all_eq_true.1 h k hk
  rw [Bool.or_eq_true] at this
  rcases this with h1 | h1
  · exact .inl h1
  · refine .inr fun d hd => ?_
    rw [hok] at h1
    dsimp only at h1
    rw [hd] at h1
    simpa using h1
theorem selfD_spec {ops : Array Oper} {o : Oper} (h : selfD ops o = true) {d : Nat} (hd : o.dst = some d) : d ∉ o.looksAt ops := by
  unfold selfD at h
  rw [hd] at h
  simpa using h

theorem Good.world {ops : Array Oper} {e : Env} {w : TW} {k : Nat} (h : Good P G ops e w k) (hp : pureK ops k = true) (w' : TW) : Good P G ops e w' k := by
  obtain ⟨o, u, ho, hs, hf, hq, hl⟩ := h
  refine ⟨o, u, ho, hs, hf, ?_, hl⟩
  unfold pureK at hp
  rw [ho] at hp
  simp only [Bool.and_eq_true, Bool.not_eq_true'] at hp
  have e1 : quietT P G w' e o = quietT P G w e o := by
    unfold quietT
    rw [fastQ_world (by rw [hp.1]) w' w]
    unfold quietT0
    rw [hp.1]
    dsimp only
    unfold stillOpT
    simp only [execQ_eq]
    have : ∀ x : TW, cutT x e.eval o = true := by
      intro x
      unfold cutT
      split
      · rename_i hop
        rw [hop] at hp
        cases hp.2
      · rfl
    simp only [this]
  rw [e1]; exact hq
/-- One more that the small run has done. -/
theorem PI.more {ops : Array Oper} {listed : Array Bool} {pend : List Nat} {e : Env} {w : TW} {i : Nat} {o : Oper} {v : Value} (hI : PI P G ops listed pend e w) (hi : i ∈ Region.ready .any ops listed) (ho : ops[i]? = some o) (hs : noSel o = true) (hself : selfD ops o = true) (hfr : freshD ops pend o = true) (hlc : lookConf ops pend o = true)
    (hf : e.fits o.dst = true) (hq : (wantedE ops e o = some true ∧ quietT P G w e o = some v) ∨ (wantedE ops e o = some false ∧ v = undef)) : PI P G ops (listed.setIfInBounds i true) (i :: pend) (e.put o.dst v) w := by
  obtain ⟨hun, o2, ho2, hall⟩ := mem_ready.1 hi
  rw [ho] at ho2; cases ho2
  have hlt := lt_of_getD' hun
  have hmono : ∀ j, listed.getD j false = true → (listed.setIfInBounds i true).getD j false = true := fun j hj => getD_set_true hj
  have hni : ∀ j, listed.getD j false = true → j ≠ i := fun j hj e => by
    subst e; rw [getD_in hlt false true, hun] at hj; cases hj
  have hself' : ∀ t, o.dst = some t → t ∉ o.looksAt ops := fun t ht => selfD_spec hself ht
  refine ⟨fun k hk => ?_, fun k hk => ?_, ?_, fun k hk m hm ok om hok hom => ?_, fun k hk m hm hne ok om hok hom d hd => ?_⟩
  · rcases List.mem_cons.1 hk with rfl | hk
    · refine ⟨o, v, ho, hs, ?_, ?_, fun d hd => ?_⟩
      · cases hd : o.dst with
        | none => rfl
        | some d => rw [hd] at hf; exact hf
      · rw [wantedE_congr hself', quietT_congr hs (eval_put hself')]; exact hq
      · rw [hd, look_put, if_pos rfl]
    · exact (hI.good k hk).put fun ok hok t ht => ⟨(freshD_spec hfr hk hok ht).2, (freshD_spec hfr hk hok ht).1⟩
  · rcases List.mem_cons.1 hk with rfl | hk
    · rw [getD_set hlt, if_pos rfl]
    · exact hmono k (hI.lk k hk)
  · refine ⟨fun o2 ho2 ed hed hb => ?_, fun y hy oy hoy => ?_, hI.ord.mono hmono⟩
    · rw [ho] at ho2; cases ho2
      exact ⟨hmono _ (hall ed hed hb), hni _ (hall ed hed hb)⟩
    · cases hb : bindsOn oy i with
      | false => rfl
      | true =>
        obtain ⟨ed, q1, q2, q3⟩ := bindsOn_spec hb
        exact absurd q3 (hni _ (hI.ord.after y hy oy hoy ed q1 q2))
  · rcases List.mem_cons.1 hk with rfl | hk2
    · rw [ho] at hok; cases hok
      rcases List.mem_cons.1 hm with rfl | hm2
      · rw [ho] at hom; cases hom
        exact .inr hself'
      · exact lookConf_spec hlc hm2 hom
    · rcases List.mem_cons.1 hm with rfl | hm2
      · rw [ho] at hom; cases hom
        exact .inr fun d hd => (freshD_spec hfr hk2 hok hd).2
      · exact hI.conf k hk2 m hm2 ok om hok hom
  · rcases List.mem_cons.1 hk with rfl | hk2
    · rw [ho] at hok; cases hok
      rcases List.mem_cons.1 hm with rfl | hm2
      · exact absurd rfl hne
      · intro h
        exact (freshD_spec hfr hm2 hom h).1 hd
    · rcases List.mem_cons.1 hm with rfl | hm2
      · rw [ho] at hom; cases hom
        exact (freshD_spec hfr hk2 hok hd).1
      · exact hI.dis k hk2 m hm2 hne ok om hok hom d hd
theorem PI.less {ops : Array Oper} {listed : Array Bool} {pend : List Nat} {e e2 : Env} {w w2 : TW} {r : Nat} (hI : PI P G ops listed pend e w) (q : Nat → Bool) (hg : ∀ k ∈ pend.filter q, Good P G ops e2 w2 k) : PI P G ops (listed.setIfInBounds r true) (pend.filter q) e2 w2 := by
  have hs : ∀ k ∈ pend.filter q, k ∈ pend := fun k hk => (List.mem_filter.1 hk).1
  exact ⟨hg, fun k hk => getD_set_true (hI.lk k (hs k hk)), (hI.ord.filter q).mono (fun j hj => getD_set_true hj), fun k hk m hm => hI.conf k (hs k hk) m (hs m hm), fun k hk m hm => hI.dis k (hs k hk) m (hs m hm)⟩

theorem set_comm (a : Array Bool) (i j : Nat) : (a.setIfInBounds i true).setIfInBounds j true = (a.setIfInBounds j true).setIfInBounds i true := by
  apply Array.ext_getElem?
  intro k
  simp only [Array.getElem?_setIfInBounds, Array.size_setIfInBounds]
  by_cases h1 : j = k <;> by_cases h2 : i = k <;> simp [h1, h2]
/-- A new block that may be made ahead. -/
structure IsAl (P : Program) (ops : Array Oper) (a d : Nat) (t : TypeId) (z : Value) : Prop where
  op : ∃ o, ops[a]? = some o ∧ o.op = .alloc t ∧ o.dst = some d ∧ o.guard = none
  zero : ∃ i, P.info? t = some i ∧ i.zero = some z ∧ AFb 10 z = true
  off : ∀ j o, ops[j]? = some o → j ≠ a → (bindsOn o a = true ∨ d ∉ o.looksAt ops) ∧ o.dst ≠ some d
theorem allocOk_spec {ops : Array Oper} {a : Nat} (h : allocOk P ops a = true) : ∃ d t z, IsAl P ops a d t z := by
  unfold allocOk at h
  split at h <;> first | (cases h; done) | skip
  rename_i o ho
  split at h <;> first | (cases h; done) | skip
  rename_i t d hop hd hg
  rw [Bool.and_eq_true] at h
  obtain ⟨h1, h2⟩ := h
  have hz : ∃ i z, P.info? t = some i ∧ i.zero = some z ∧ AFb 10 z = true := by
    unfold zeroIs at h1
    split at h1 <;> first | (cases h1; done) | skip
    rename_i i hi
    split at h1 <;> first | (cases h1; done) | skip
    rename_i z hz
    exact ⟨i, z, hi, hz, h1⟩
  obtain ⟨i, z, q1, q2, q3⟩ := hz
  refine ⟨d, t, z, ⟨o, ho, hop, hd, hg⟩, ⟨i, q1, q2, q3⟩, fun j oj hoj hne => ?_⟩
  have hlt := (Array.getElem?_eq_some_iff.1 hoj).1
  have := List.all_eq_true.1 h2 j (List.mem_range.2 hlt)
  rw [Bool.or_eq_true] at this
  rcases this with e | e
  · exact absurd (Nat.eq_of_beq_eq_true e) hne
  · rw [hoj] at e
    simp only [Bool.and_eq_true, Bool.or_eq_true, bne_iff_ne, ne_eq, Bool.not_eq_true', List.contains_eq_mem, decide_eq_false_iff_not] at e
    exact e
theorem effOf_spec {ops : Array Oper} {l : List Nat} {r : Nat} {x : Option Nat} (h : effOf P ops l = some (r, x)) : r ∈ l ∧ (∀ j ∈ l, j = r ∨ x = some j) ∧ ∀ a, x = some a → a ∈ l ∧ a ≠ r ∧ allocOk P ops a = true ∧ afterBoth ops a r = true := by
  unfold effOf at h
  split at h <;> first | (cases h; done) | skip
  · cases h
    exact ⟨by simp, fun j hj => .inl (by simpa using hj), fun a ha => by cases ha⟩
  · rename_i u v
    split at h <;> first | (cases h; done) | skip
    rename_i hne
    have hne : u ≠ v := fun e => by rw [e, Nat.beq_refl] at hne; cases hne
    split at h
    · rename_i hc
      rw [Bool.and_eq_true] at hc
      cases h
      refine ⟨by simp, fun j hj => ?_, fun a ha => ?_⟩
      · rcases List.mem_cons.1 hj with rfl | hj
        · exact .inr rfl
        · exact .inl (by simpa using hj)
      · cases ha; exact ⟨by simp, hne, hc⟩
    · split at h <;> first | (cases h; done) | skip
      rename_i hc
      rw [Bool.and_eq_true] at hc
      cases h
      refine ⟨by simp, fun j hj => ?_, fun a ha => ?_⟩
      · rcases List.mem_cons.1 hj with rfl | hj
        · exact .inl rfl
        · have hjv : j = v := by simpa using hj
          exact .inr (by rw [hjv])
      · cases ha; exact ⟨by simp, fun e => hne e.symm, hc⟩
theorem afterBoth_spec {ops : Array Oper} {a r : Nat} (h : afterBoth ops a r = true) {j : Nat} {o : Oper} (ho : ops[j]? = some o) (hb : bindsOn o a = true) : bindsOn o r = true := by
  have hlt := (Array.getElem?_eq_some_iff.1 ho).1
  have := List.all_eq_true.1 h j (List.mem_range.2 hlt)
  rw [ho] at this
  dsimp only at this
  rw [hb] at this
  simpa using this
theorem run_alloc {t : TypeId} {i : TypeInfo} {z : Value} (hi : P.info? t = some i) (hz : i.zero = some z) (w : World) : (Instr.alloc t true (.tuple #[])).run P w = .ok (.pointer (some ⟨w.heap.size, 0, none⟩)) (w.alloc (.cells z.cells t)) := by
  simp only [Instr.alloc, Sem.run_bind, run_zero hi hz, Result.andThen_ok, newVar, newRow, newObj, Sem.run]
  rfl
/-- The step that makes a new block. -/
theorem stepV_alloc {ev : EvF} {o : Oper} {t : TypeId} {e : Env} {w w' : TW} {v z : Value} {i : TypeInfo} (hop : o.op = .alloc t) (hi : P.info? t = some i) (hz : i.zero = some z) (h : stepV P G (specT P) ev o e w = some (v, w')) :
    v = .pointer (some ⟨w.n, 0, none⟩) ∧ w.n < 65536 ∧ w' = ⟨T.set (.cells z.cells t (0, 0)) 16 w.t w.n, w.n + 1⟩ := by
  have h := stepV_eq (show stepVq P G (specT P) ev o e w = some (v, w') from by
    rcases stepV_split h with ⟨h1, _⟩ | h
    · unfold symQ symQ0 at h1
      rw [hop] at h1
      cases h1
    · exact h)
  obtain ⟨dst, op, type, pos, after, guard⟩ := o
  dsimp only at hop
  subst hop
  have hopr : (({ dst, op := .alloc t, type, pos, after, guard } : Oper).op.operands) = #[] := rfl
  have hz1 : still P (zeroValue t) = some z := by
    have h1 : still P (typeInfo t) = some i := by
      unfold typeInfo
      rw [still_bind_of (a := P) rfl, hi]; try rfl
    unfold zeroValue
    rw [still_bind_of h1, hz]; try rfl
  have hexec : execOp e.eval { dst, op := .alloc t, type, pos, after, guard } = (do pure (Next.value (← Instr.alloc t true (.tuple #[])))) := rfl
  have hrun : ∀ w : TW, runW P (execOp e.eval { dst, op := .alloc t, type, pos, after, guard }) w = (match Nat.blt w.n 65536 with
      | true => w.pushK (.cells z.cells t (0, 0)) fun w' => some (.value (.pointer (some ⟨w.n, 0, none⟩)), w')
      | false => none) := by
    intro w
    rw [hexec]
    have hal : Instr.alloc t true (.tuple #[]) = (zeroValue t >>= fun zero => newVar t zero >>= fun a => pure (.pointer (some a))) := rfl
    rw [hal]
    have hb : ∀ {α β : Type} {s : Sem α} {f : α → Sem β} {a : α}, still P s = some a → runW P (s >>= f) w = runW P (f a) w := by
      intro α β s f a
      induction s with
      | pure b => intro h; simp only [still, Option.some.injEq] at h; rw [← h]; rfl
      | program k ih => intro h; exact ih P h
      | mark m k ih => intro h; exact ih h
      | _ => intro h; simp [still] at h
    have e1 : (do pure (Next.value (← (zeroValue t >>= fun zero => newVar t zero >>= fun a => pure (.pointer (some a)))))) = (zeroValue t >>= fun zero => ((newVar t zero >>= fun a => pure (.pointer (some a))) >>= fun v => pure (Next.value v)) : Sem Next) := by
      simp only [bind_assoc]
    rw [e1, hb hz1]
    rfl
  unfold stepV0 evalOpT at h
  rw [hopr] at h
  have e2 : evalAF P e.eval { dst, op := .alloc t, type, pos, after, guard } = none := by
    unfold evalAF
    simp only [execQ_eq]
    rw [hopr]
    split
    · have : still P (execOp e.eval { dst, op := .alloc t, type, pos, after, guard }) = none := by
        rw [hexec]
        have hal : Instr.alloc t true (.tuple #[]) = (zeroValue t >>= fun zero => newVar t zero >>= fun a => pure (.pointer (some a))) := rfl
        rw [hal]
        have e1 : (do pure (Next.value (← (zeroValue t >>= fun zero => newVar t zero >>= fun a => pure (.pointer (some a)))))) = (zeroValue t >>= fun zero => ((newVar t zero >>= fun a => pure (.pointer (some a))) >>= fun v => pure (Next.value v)) : Sem Next) := by
          simp only [bind_assoc]
        rw [e1, still_bind_of hz1]
        rfl
      have hx : execC (Op.alloc t) type e.eval = execOp e.eval { dst, op := .alloc t, type, pos, after, guard } := execQ_eq e.eval { dst, op := .alloc t, type, pos, after, guard }
      rw [hx, this]
    · rfl
  have e0 : (#[] : Array Operand).toList.all (e.ok G) = true := rfl
  rw [if_pos e0, e2] at h
  dsimp only at h
  split at h
  · rename_i v1 w1 hs
    rw [forceV_eq] at h
    cases h
    split at hs
    · have hs : runW P (execOp e.eval { dst, op := .alloc t, type, pos, after, guard }) w = _ := hs
      rw [hrun] at hs
      split at hs <;> first | (cases hs; done) | skip
      rename_i hlt
      simp only [TW.pushK, forceObj_eq, T.setK_eq, forceNat_eq, Option.some.injEq, Prod.mk.injEq, Next.value.injEq] at hs
      obtain ⟨rfl, rfl⟩ := hs
      exact ⟨rfl, by simpa [Nat.blt_eq] using hlt, rfl⟩
    · have hs : specT P e.eval { dst, op := .alloc t, type, pos, after, guard } w = _ := hs
      unfold specT specA at hs
      cases hs
  · rename_i w1 hs
    exfalso
    split at hs
    · have hs : runW P (execOp e.eval { dst, op := .alloc t, type, pos, after, guard }) w = _ := hs
      rw [hrun] at hs
      split at hs <;> first | (cases hs; done) | skip
      simp only [TW.pushK, forceObj_eq, T.setK_eq, forceNat_eq, Option.some.injEq, Prod.mk.injEq] at hs
      cases hs.1
    · have hs : specT P e.eval { dst, op := .alloc t, type, pos, after, guard } w = _ := hs
      unfold specT specA at hs
      cases hs
  · rename_i f args w1 hs
    exfalso
    split at hs
    · have hs : runW P (execOp e.eval { dst, op := .alloc t, type, pos, after, guard }) w = _ := hs
      rw [hrun] at hs
      split at hs <;> first | (cases hs; done) | skip
      simp only [TW.pushK, forceObj_eq, T.setK_eq, forceNat_eq, Option.some.injEq, Prod.mk.injEq] at hs
      cases hs.1
    · have hs : specT P e.eval { dst, op := .alloc t, type, pos, after, guard } w = _ := hs
      unfold specT specA at hs
      cases hs
  · cases h
theorem EnvD.over {τ : Rel} {e : Env} {a' : Act} {D : List Nat} (x : EnvD τ e a' D) (d : Nat) (v : Value) : EnvD τ e (a'.put (some d) v) (d :: D) := by
  refine ⟨fun t u hu ht => ?_, by simp [Act.put, x.size], x.d'⟩
  have hne : d ≠ t := fun e => ht (by rw [e]; exact List.mem_cons_self)
  simp only [Act.put, Array.getD_eq_getD_getElem?]
  rw [Array.getElem?_setIfInBounds_ne hne, ← Array.getD_eq_getD_getElem?]
  exact x.tmps t u hu (fun h => ht (List.mem_cons_of_mem _ h))
/-- The great run has made a's block ahead, at r0. -/
structure AOk (P : Program) (G : Gl) (ops : Array Oper) (listed : Array Bool) (B : FM) (w0 : World) (a d r0 : Nat) (t : TypeId) (z : Value) (rem : List Nat) (listed' : Array Bool) (τ : Rel) (e : Env) (w : TW) (a' : Act) (wr : World) : Prop where
  al : IsAl P ops a d t z
  ready : a ∈ Region.ready .any ops listed
  ok : allocOk P ops a = true
  fr : B r0 = none
  nw : w0.heap.size ≤ r0
  tm : d < e.n → a'.tmps.getD d undef = .pointer (some ⟨r0, 0, none⟩)
  nb : ∀ k ∈ rem, ∀ o, ops[a]? = some o → bindsOn o k = false
  rl : Rl (listed.setIfInBounds a true) rem listed'
  ev : EnvD τ e a' (d :: dstsOf ops rem)
  wt : WT G (upd B r0 (some (.cells z.cells t (0, 0)))) w0 τ w wr
theorem PI.listed {ops : Array Oper} {listed : Array Bool} {pend : List Nat} {e : Env} {w : TW} (hI : PI P G ops listed pend e w) (a : Nat) : PI P G ops (listed.setIfInBounds a true) pend e w :=
  ⟨hI.good, fun k hk => getD_set_true (hI.lk k hk), hI.ord.mono (fun j hj => getD_set_true hj), hI.conf, hI.dis⟩
theorem IsAl.d0 {ops : Array Oper} {listed : Array Bool} {pend : List Nat} {e : Env} {w : TW} {a d : Nat} {t : TypeId} {z : Value} (h : IsAl P ops a d t z) (hI : PI P G ops listed pend e w) (hun : listed.getD a true = false) : ∀ k ∈ pend, ∀ o, ops[k]? = some o → ∀ x ∈ [d], x ∉ o.looksAt ops ∧ o.dst ≠ some x := by
  intro k hk o ho x hx
  have hx : x = d := by simpa using hx
  subst hx
  have hne : k ≠ a := fun e => by
    have := hI.lk k hk
    rw [e, getD_in (lt_of_getD' hun) false true, hun] at this; cases this
  obtain ⟨h1, h2⟩ := h.off k o ho hne
  refine ⟨?_, h2⟩
  rcases h1 with h1 | h1
  · obtain ⟨ed, q1, q2, q3⟩ := bindsOn_spec h1
    have := hI.ord.after k hk o ho ed q1 q2
    rw [q3, getD_in (lt_of_getD' hun) false true, hun] at this; cases this
  · exact h1

theorem evalP_sound (hev : EvOkT P G ev) {ops : Array Oper} (hns : Region.noSelect ops = true) : ∀ (n : Nat) {listed : Array Bool} {pend : List Nat} {e e2 : Env} {w w2 : TW}, evalP P G ev ops n listed pend e w = some (e2, w2) → PI P G ops listed pend e w →
    ∀ {B : FM} {w0 : World} {τ0 : Rel} {Q : Exit → Act → World → Prop}, (∀ τ' a2' wr', τ0.le τ' → EnvR τ' e2 a2' → WT G B w0 τ' w2 wr' → Q .normal a2' wr') →
    (∀ (rem : List Nat) (listed' : Array Bool) (τ : Rel) (a' : Act) (wr : World), (∀ k ∈ rem, k ∈ pend) → rem.Nodup → Rl listed rem listed' → τ0.le τ → EnvD τ e a' (dstsOf ops rem) → WT G B w0 τ w wr → wpAny P .any ops (QN Q) (n + rem.length) listed' a' wr) ∧
    (∀ (a d r0 : Nat) (t : TypeId) (z : Value) (rem : List Nat) (listed' : Array Bool) (τ : Rel) (a' : Act) (wr : World), (∀ k ∈ rem, k ∈ pend) → rem.Nodup → τ0.le τ → AOk P G ops listed B w0 a d r0 t z rem listed' τ e w a' wr → wpAny P .any ops (QN Q) (n + rem.length - 1) listed' a' wr) := by
  intro n
  induction n with
  | zero =>
    intro listed pend e e2 w w2 h hI B w0 τ0 Q hQ
    unfold evalP at h
    split at h <;> first | (cases h; done) | skip
    rename_i he
    cases h
    have he : Region.ready .any ops listed = [] := by simpa using he
    refine ⟨fun rem listed' τ a' wr hsub hnd hR hl ha hw => ?_, fun a d r0 t z rem listed' τ a' wr hsub hnd hl hA => ?_⟩
    · refine catchAll (D0 := []) (f := fun _ => undef) (R0 := rem) hI (fun k hk o ho d hd => by cases hd) 0 (fun τ a' wr hl _ ha hw => wpAny_done (Q := QN Q) he (hQ τ _ _ hl ha.all hw) 0) ?_ _ rem listed' τ a' wr rfl (fun k hk => hk) hsub hnd hR hl (fun d hd => by cases hd) ha hw
      intro rem listed' τ a' wr hne _ hsub hnd hR hl _ ha hw j hj hjr
      have := ready_sub hR hj hjr
      rw [he] at this; cases this
    · have := hA.ready
      rw [he] at this; cases this
  | succ n ih =>
    intro listed pend e e2 w w2 h hI B w0 τ0 Q hQ
    unfold evalP at h
    split at h
    · rename_i he
      cases h
      refine ⟨fun rem listed' τ a' wr hsub hnd hR hl ha hw => ?_, fun a d r0 t z rem listed' τ a' wr hsub hnd hl hA => ?_⟩
      · refine catchAll (D0 := []) (f := fun _ => undef) (R0 := rem) hI (fun k hk o ho d hd => by cases hd) (n + 1) (fun τ a' wr hl _ ha hw => wpAny_done (Q := QN Q) he (hQ τ _ _ hl ha.all hw) (n + 1)) ?_ _ rem listed' τ a' wr rfl (fun k hk => hk) hsub hnd hR hl (fun d hd => by cases hd) ha hw
        intro rem listed' τ a' wr hne _ hsub hnd hR hl _ ha hw j hj hjr
        have := ready_sub hR hj hjr
        rw [he] at this; cases this
      · have := hA.ready
        rw [he] at this; cases this
    · rename_i r rs he
      split at h
      · rename_i i hp
        obtain ⟨hmem, o, ho, hqk, hs, hself, hfr, hlc⟩ := pickP_spec hp
        have hi : i ∈ Region.ready .any ops listed := by rw [he]; exact hmem
        have hun := (mem_ready.1 hi).1
        rw [ho] at h
        dsimp only at h
        have go : ∀ v, e.fits o.dst = true → ((wantedE ops e o = some true ∧ quietT P G w e o = some v) ∨ (wantedE ops e o = some false ∧ v = undef)) → evalP P G ev ops n (listed.setIfInBounds i true) (i :: pend) (e.put o.dst v) w = some (e2, w2) →
            (∀ (rem : List Nat) (listed' : Array Bool) (τ : Rel) (a' : Act) (wr : World), (∀ k ∈ rem, k ∈ pend) → rem.Nodup → Rl listed rem listed' → τ0.le τ → EnvD τ e a' (dstsOf ops rem) → WT G B w0 τ w wr → wpAny P .any ops (QN Q) (n + 1 + rem.length) listed' a' wr) ∧
            (∀ (a d r0 : Nat) (t : TypeId) (z : Value) (rem : List Nat) (listed' : Array Bool) (τ : Rel) (a' : Act) (wr : World), (∀ k ∈ rem, k ∈ pend) → rem.Nodup → τ0.le τ → AOk P G ops listed B w0 a d r0 t z rem listed' τ e w a' wr → wpAny P .any ops (QN Q) (n + 1 + rem.length - 1) listed' a' wr) := by
          intro v hf hq h
          obtain ⟨ih1, ih2⟩ := ih h (hI.more hi ho hs hself hfr hlc hf hq) hQ
          have hir : ∀ rem : List Nat, (∀ k ∈ rem, k ∈ pend) → i ∉ rem := fun rem hsub hr => by
            have := hI.lk i (hsub i hr)
            rw [getD_in (lt_of_getD' hun) false true, hun] at this; cases this
          have hsub' : ∀ rem : List Nat, (∀ k ∈ rem, k ∈ pend) → ∀ k ∈ i :: rem, k ∈ i :: pend := by
            intro rem hsub k hk
            rcases List.mem_cons.1 hk with rfl | hk
            · exact List.mem_cons_self
            · exact List.mem_cons_of_mem _ (hsub k hk)
          refine ⟨fun rem listed' τ a' wr hsub hnd hR hl ha hw => ?_, fun a d r0 t z rem listed' τ a' wr hsub hnd hl hA => ?_⟩
          · have := ih1 (i :: rem) listed' τ a' wr (hsub' rem hsub) (List.nodup_cons.2 ⟨hir rem hsub, hnd⟩) (hR.ahead hun) hl (ha.ahead o.dst v ?_ ?_) hw
            · rw [List.length_cons] at this
              rw [show n + 1 + rem.length = n + (rem.length + 1) by omega]
              exact this
            · intro t ht
              exact mem_dsts.2 ⟨i, List.mem_cons_self, o, ho, ht⟩
            · intro t ht
              obtain ⟨m, hm, om, h1, h2⟩ := mem_dsts.1 ht
              exact mem_dsts.2 ⟨m, List.mem_cons_of_mem _ hm, om, h1, h2⟩
          · have hia : i ≠ a := by
              rintro rfl
              obtain ⟨oa, q1, q2, _⟩ := hA.al.op
              rw [ho] at q1; cases q1
              unfold quietKind at hqk
              rw [q2] at hqk; cases hqk
            obtain ⟨una, oa, hoa, halla⟩ := mem_ready.1 hA.ready
            have hiA : (listed.setIfInBounds a true).getD i true = false := by
              rw [getD_set_ne true (fun e => hia e.symm)]; exact hun
            have := ih2 a d r0 t z (i :: rem) listed' τ a' wr (hsub' rem hsub) (List.nodup_cons.2 ⟨hir rem hsub, hnd⟩) hl
              { al := hA.al, ok := hA.ok, fr := hA.fr, nw := hA.nw, wt := hA.wt
                ready := mem_ready.2 ⟨by rw [getD_set_ne true hia]; exact una, oa, hoa, fun ed q1 q2 => getD_set_true (halla ed q1 q2)⟩
                tm := by
                  intro hd
                  refine hA.tm ?_
                  cases hdst : o.dst with
                  | none => rw [hdst] at hd; exact hd
                  | some x => rw [hdst] at hd; exact hd
                nb := by
                  intro k hk o2 ho2
                  rcases List.mem_cons.1 hk with rfl | hk
                  · cases hb : bindsOn o2 k with
                    | false => rfl
                    | true =>
                      rw [hoa] at ho2; cases ho2
                      obtain ⟨ed, q1, q2, q3⟩ := bindsOn_spec hb
                      have := halla ed q1 q2
                      rw [q3, getD_in (lt_of_getD' hun) false true, hun] at this; cases this
                  · exact hA.nb k hk o2 ho2
                rl := by rw [set_comm]; exact hA.rl.ahead hiA
                ev := hA.ev.ahead o.dst v (fun t ht => List.mem_cons_of_mem _ (mem_dsts.2 ⟨i, List.mem_cons_self, o, ho, ht⟩)) (fun t ht => by
                  rcases List.mem_cons.1 ht with rfl | ht
                  · exact List.mem_cons_self
                  · obtain ⟨m, hm, om, h1, h2⟩ := mem_dsts.1 ht
                    exact List.mem_cons_of_mem _ (mem_dsts.2 ⟨m, List.mem_cons_of_mem _ hm, om, h1, h2⟩)) }
            rw [List.length_cons] at this
            rw [show n + 1 + rem.length - 1 = n + (rem.length + 1) - 1 by omega]
            exact this
        split at h
        · rename_i hf hwt
          split at h <;> first | (cases h; done) | skip
          rename_i v hq
          simp only [forceV_eq, forceB_eq, putK_eq] at h
          exact go v hf (.inl ⟨hwt, hq⟩) h
        · rename_i hf hwt
          simp only [forceB_eq, putK_eq] at h
          exact go undef hf (.inr ⟨hwt, rfl⟩) h
        · cases h
      · split at h
        · rename_i r x hef
          obtain ⟨hrm, hrl, hal⟩ := effOf_spec hef
          rw [← he] at hrm hrl hal
          split at h <;> first | (cases h; done) | skip
          rename_i o ho
          split at h <;> first | (cases h; done) | skip
          rename_i hc
          rw [Bool.and_eq_true, Bool.and_eq_true] at hc
          obtain ⟨hlc, hfr0, hf⟩ := hc
          split at h <;> first | (cases h; done) | skip
          rename_i v w' hstep
          simp only [forceB_eq, putK_eq, spine_eq] at h
          split at h <;> first | (cases h; done) | skip
          rename_i hgood
          have hun := (mem_ready.1 hrm).1
          have hI' : PI P G ops (listed.setIfInBounds r true) (pend.filter fun k => !(bindsOn o k)) (e.put o.dst v) w' := hI.less _ (fun k hk => by
            by_cases hp : pureK ops k = true
            · obtain ⟨hkp, _⟩ := List.mem_filter.1 hk
              exact ((hI.good k hkp).put fun ok hok t ht => ⟨(freshD_spec hfr0 hk hok ht).2, (freshD_spec hfr0 hk hok ht).1⟩).world hp w'
            · exact goodB_spec (List.all_eq_true.1 hgood k (List.mem_filter.2 ⟨hk, by simpa using hp⟩)))
          obtain ⟨ih1, ih2⟩ := ih h hI' hQ
          have hsubf : ∀ (rem : List Nat) (listed' listedX : Array Bool), (∀ k ∈ rem, k ∈ pend) → Rl listedX rem listed' → r ∈ Region.ready .any ops listed' → ∀ k ∈ rem, k ∈ pend.filter fun k => !(bindsOn o k) := fun rem listed' listedX hsub hR hj k hk => List.mem_filter.2 ⟨hsub k hk, by rw [no_rem hR ho hj hk]; rfl⟩
          have hrr : ∀ rem : List Nat, (∀ k ∈ rem, k ∈ pend) → r ∉ rem := fun rem hsub hr => by
            have := hI.lk r (hsub r hr)
            rw [getD_in (lt_of_getD' hun) false true, hun] at this; cases this
          have hDr : ∀ (rem : List Nat) (listed' listedX : Array Bool), (∀ k ∈ rem, k ∈ pend) → Rl listedX rem listed' → r ∈ Region.ready .any ops listed' → ∀ t ∈ o.looksAt ops, t ∉ dstsOf ops rem := by
            intro rem listed' listedX hsub hR hj t ht hd
            obtain ⟨m, hm, om, hom, hdm⟩ := mem_dsts.1 hd
            rcases lookConf_spec hlc (hsub m hm) hom with hb | hb
            · rw [no_rem hR ho hj hm] at hb; cases hb
            · exact hb t hdm ht
          have stageA : ∀ (a d r0 : Nat) (t : TypeId) (z : Value) (rem : List Nat) (listed' : Array Bool) (τ : Rel) (a' : Act) (wr : World), (∀ k ∈ rem, k ∈ pend) → rem.Nodup → τ0.le τ → AOk P G ops listed B w0 a d r0 t z rem listed' τ e w a' wr → wpAny P .any ops (QN Q) (n + 1 + rem.length - 1) listed' a' wr := by
            intro a d r0 t z rem listed' τ a' wr hsub hnd hl hA
            obtain ⟨una, oa, hoa, halla⟩ := mem_ready.1 hA.ready
            by_cases hra : r = a
            · subst hra
              obtain ⟨o2, q1, q2, q3, q4⟩ := hA.al.op
              rw [ho] at q1; cases q1
              obtain ⟨inf, z1, z2, z3⟩ := hA.al.zero
              have hwant : wantedE ops e o = some true := by unfold wantedE; rw [q4]
              rw [hwant] at hstep
              obtain ⟨rfl, hn, rfl⟩ := stepV_alloc q2 z1 z2 hstep
              obtain ⟨τ', l1, t1, hw1⟩ := hA.wt.take hA.fr hA.nw (fun τ => (AFb.vr 10 z z3).cells) hn
              have hdn : d < e.n := by rw [q3] at hf; exact fits_lt hf
              have := ih1 rem listed' τ' a' wr (fun k hk => List.mem_filter.2 ⟨hsub k hk, by rw [hA.nb k hk o ho]; rfl⟩) hnd hA.rl (hl.trans l1) ?_ hw1
              · rw [show n + 1 + rem.length - 1 = n + rem.length by omega]
                exact this
              · rw [q3]
                refine ⟨fun s u hu hs => ?_, hA.ev.size, hA.ev.d'⟩
                rw [look_put] at hu
                by_cases e1 : d = s
                · subst e1
                  rw [if_pos rfl] at hu
                  cases hu
                  rw [hA.tm hdn]
                  exact .ptr _ _ 0 none t1
                · rw [if_neg e1] at hu
                  exact (hA.ev.tmps s u hu (fun h => by
                    rcases List.mem_cons.1 h with h | h
                    · exact e1 h.symm
                    · exact hs h)).mono l1
            · have hxa : x = some a := by
                rcases hrl a hA.ready with h1 | h1
                · exact absurd h1.symm hra
                · exact h1
              obtain ⟨_, _, _, haf⟩ := hal a hxa
              have hD0 := hA.al.d0 hI una
              have unr : (listed.setIfInBounds a true).getD r true = false := by rw [getD_set_ne true (fun e => hra e.symm)]; exact hun
              have honly : ∀ (rem : List Nat) (listed' : Array Bool), Rl (listed.setIfInBounds a true) rem listed' → ∀ j ∈ Region.ready .any ops listed', j ∉ rem → j = r := by
                intro rem listed' hR j hj hjr
                obtain ⟨j1, oj, hoj, hjall⟩ := mem_ready.1 (ready_sub hR hj hjr)
                have hja : j ≠ a := by
                  rintro rfl
                  rw [getD_set (lt_of_getD' una), if_pos rfl] at j1; cases j1
                have hnb : bindsOn oj a = false := by
                  cases hb : bindsOn oj a with
                  | false => rfl
                  | true =>
                    obtain ⟨ed, q1, q2, q3⟩ := bindsOn_spec (afterBoth_spec haf hoj hb)
                    have := hjall ed q1 q2
                    rw [q3, getD_in (lt_of_getD' unr) false true, unr] at this; cases this
                have : j ∈ Region.ready .any ops listed := by
                  refine mem_ready.2 ⟨by rw [getD_set_ne true (fun e => hja e.symm)] at j1; exact j1, oj, hoj, fun ed q1 q2 => ?_⟩
                  have h3 := hjall ed q1 q2
                  have hne : a ≠ ed.on := fun e => by
                    rw [bindsOn_of q1 q2 e.symm] at hnb; cases hnb
                  rw [getD_set_ne false hne] at h3; exact h3
                rcases hrl j this with h1 | h1
                · exact h1
                · rw [hxa] at h1; cases h1; exact absurd rfl hja
              cases n with
              | zero =>
                exfalso
                unfold evalP at h
                split at h <;> first | (cases h; done) | skip
                rename_i he0
                have he0 : Region.ready .any ops (listed.setIfInBounds r true) = [] := by simpa using he0
                have : a ∈ Region.ready .any ops (listed.setIfInBounds r true) := mem_ready.2 ⟨by rw [getD_set_ne true hra]; exact una, oa, hoa, fun ed q1 q2 => getD_set_true (halla ed q1 q2)⟩
                rw [he0] at this; cases this
              | succ n =>
              have main : ∀ (rem2 : List Nat) (listed' : Array Bool) (τ : Rel) (a' : Act) (wr : World), (∀ k ∈ rem2, k ∈ rem) → (∀ k ∈ rem2, k ∈ pend) → rem2.Nodup → Rl (listed.setIfInBounds a true) rem2 listed' → τ0.le τ → Kept [d] (fun _ => if d < e.n then .pointer (some ⟨r0, 0, none⟩) else a'.tmps.getD d undef) a' → EnvD τ e a' ([d] ++ dstsOf ops rem2) → WT G (upd B r0 (some (.cells z.cells t (0, 0)))) w0 τ w wr → ∀ j ∈ Region.ready .any ops listed', j ∉ rem2 →
                  wpOp P ops (QN Q) j (wpAny P .any ops (QN Q) (n + 1 + rem2.length - 1) (listed'.setIfInBounds j true)) a' wr := by
                intro rem2 listed' τ a' wr h00 hsub hnd hR hl hk ha hw j hj hjr
                obtain rfl := honly rem2 listed' hR j hj hjr
                have hD : ∀ s ∈ o.looksAt ops, s ∉ [d] ++ dstsOf ops rem2 := by
                  intro s hs hd
                  rcases List.mem_append.1 hd with hd | hd
                  · have hsd : s = d := by simpa using hd
                    subst hsd
                    rcases (hA.al.off j o ho hra).1 with h1 | h1
                    · obtain ⟨ed, q1, q2, q3⟩ := bindsOn_spec h1
                      obtain ⟨_, o3, ho3, hall3⟩ := mem_ready.1 hrm
                      rw [ho] at ho3; cases ho3
                      have := hall3 ed q1 q2
                      rw [q3, getD_in (lt_of_getD' una) false true, una] at this; cases this
                    · exact h1 hs
                  · exact hDr rem2 listed' _ hsub hR hj s hs hd
                have hdd : o.dst ≠ some d := (hA.al.off j o ho hra).2
                have hnext : ∀ τ' v' wr', τ.le τ' → VR τ' v v' → WT G (upd B r0 (some (.cells z.cells t (0, 0)))) w0 τ' w' wr' → wpAny P .any ops (QN Q) (n + 1 + rem2.length - 1) (listed'.setIfInBounds j true) (a'.put o.dst v') wr' := by
                  intro τ' v' wr' l1 hv hw'
                  refine ih2 a d r0 t z rem2 _ τ' _ wr' (hsubf rem2 listed' _ hsub hR hj) hnd (hl.trans l1) ?_
                  exact { al := hA.al, ok := hA.ok, fr := hA.fr, nw := hA.nw, wt := hw'
                          ready := mem_ready.2 ⟨by rw [getD_set_ne true hra]; exact una, oa, hoa, fun ed q1 q2 => getD_set_true (halla ed q1 q2)⟩
                          tm := by
                            intro hd
                            have hd : d < e.n := by
                              cases hdst : o.dst with
                              | none => rw [hdst] at hd; exact hd
                              | some x => rw [hdst] at hd; exact hd
                            have h1 := hk d (by simp)
                            rw [if_pos hd] at h1
                            cases hdst : o.dst with
                            | none => exact h1
                            | some x =>
                              have hne : x ≠ d := fun e => hdd (by rw [hdst, e])
                              simp only [Act.put, Array.getD_eq_getD_getElem?]
                              rw [Array.getElem?_setIfInBounds_ne hne, ← Array.getD_eq_getD_getElem?]
                              exact h1
                          nb := fun k hk => hA.nb k (h00 k hk)
                          rl := by rw [set_comm]; exact hR.both unr (hrr rem2 hsub)
                          ev := (ha.mono l1).put o.dst hf hv }
                unfold wpOp
                rw [ho]
                dsimp only
                split at hstep
                · rename_i hwt
                  rw [if_pos (wantedE_spec2 hwt ha hD)]
                  exact .inl (stepV_sound hev hstep (ha.eval hw.glob hD) hw hnext)
                · rename_i hwt
                  simp only [Option.some.injEq, Prod.mk.injEq] at hstep
                  obtain ⟨rfl, rfl⟩ := hstep
                  rw [if_neg (by rw [wantedE_spec2 hwt ha hD]; simp)]
                  exact hnext τ _ _ (Rel.le.refl _) (undef_vr _) hw
                · cases hstep
              have hfuel : n + 1 + 1 + rem.length - 1 = (n + 1) + rem.length := by omega
              rw [hfuel]
              refine catchAll (D0 := [d]) (f := fun _ => if d < e.n then .pointer (some ⟨r0, 0, none⟩) else a'.tmps.getD d undef) (R0 := rem) (hI.listed a) hD0 (n + 1) ?_ ?_ _ rem listed' τ a' wr rfl (fun k hk => hk) hsub hnd hA.rl hl ?_ hA.ev hA.wt
              · intro τ a2 wr2 hl2 hk2 ha2 hw2
                have hR0 : Rl (listed.setIfInBounds a true) [] (listed.setIfInBounds a true) := ⟨rfl, fun j d => by simp⟩
                have hkk : Kept [d] (fun _ => if d < e.n then .pointer (some ⟨r0, 0, none⟩) else a2.tmps.getD d undef) a2 := by
                  intro y hy
                  have hy' : y = d := by simpa using hy
                  subst hy'
                  split
                  · rename_i hlt
                    have := hk2 y (by simp)
                    rw [if_pos hlt] at this; exact this
                  · rfl
                refine ⟨fun h0 => ?_, fun j hj => ?_⟩
                · exfalso
                  have : r ∈ Region.ready .any ops (listed.setIfInBounds a true) := by
                    obtain ⟨_, o3, ho3, hall3⟩ := mem_ready.1 hrm
                    exact mem_ready.2 ⟨unr, o3, ho3, fun ed q1 q2 => getD_set_true (hall3 ed q1 q2)⟩
                  rw [h0] at this; cases this
                · exact main [] _ τ a2 wr2 (fun k hk => by cases hk) (fun k hk => by cases hk) List.nodup_nil hR0 hl2 hkk (by simpa [dstsOf] using ha2) hw2 j hj (by simp)
              · intro rem2 listed2 τ a2 wr2 hne h00 hsub2 hnd2 hR2 hl2 hk2 ha2 hw2 j hj hjr
                have hkk : Kept [d] (fun _ => if d < e.n then .pointer (some ⟨r0, 0, none⟩) else a2.tmps.getD d undef) a2 := by
                  intro y hy
                  have hy' : y = d := by simpa using hy
                  subst hy'
                  split
                  · rename_i hlt
                    have := hk2 y (by simp)
                    rw [if_pos hlt] at this; exact this
                  · rfl
                exact main rem2 listed2 τ a2 wr2 h00 hsub2 hnd2 hR2 hl2 hkk ha2 hw2 j hj hjr
              · intro y hy
                have hy' : y = d := by simpa using hy
                subst hy'
                split
                · rename_i hlt; exact hA.tm hlt
                · rfl
          refine ⟨fun rem listed' τ a' wr hsub hnd hR hl ha hw => ?_, stageA⟩
          have main : ∀ (rem : List Nat) (listed' : Array Bool) (τ : Rel) (a' : Act) (wr : World), (∀ k ∈ rem, k ∈ pend) → rem.Nodup → Rl listed rem listed' → τ0.le τ → EnvD τ e a' (dstsOf ops rem) → WT G B w0 τ w wr → ∀ j ∈ Region.ready .any ops listed', j ∉ rem →
              wpOp P ops (QN Q) j (wpAny P .any ops (QN Q) (n + rem.length) (listed'.setIfInBounds j true)) a' wr := by
            intro rem listed' τ a' wr hsub hnd hR hl ha hw j hj hjr
            have hjl := ready_sub hR hj hjr
            rcases hrl j hjl with hjr2 | hja
            · subst hjr2
              have hD := hDr rem listed' _ hsub hR hj
              have hsub' := hsubf rem listed' _ hsub hR hj
              unfold wpOp
              rw [ho]
              dsimp only
              split at hstep
              · rename_i hwt
                rw [if_pos (wantedE_spec2 hwt ha hD)]
                refine .inl (stepV_sound hev hstep (ha.eval hw.glob hD) hw ?_)
                intro τ' v' wr' l1 hv hw'
                exact ih1 rem _ τ' _ wr' hsub' hnd (hR.both hun hjr) (hl.trans l1) ((ha.mono l1).put o.dst hf hv) hw'
              · rename_i hwt
                simp only [Option.some.injEq, Prod.mk.injEq] at hstep
                obtain ⟨rfl, rfl⟩ := hstep
                rw [if_neg (by rw [wantedE_spec2 hwt ha hD]; simp)]
                exact ih1 rem _ τ _ wr hsub' hnd (hR.both hun hjr) hl (ha.put o.dst hf (undef_vr _)) hw
              · cases hstep
            · obtain ⟨ham, har, hok, haf⟩ := hal j hja
              obtain ⟨d, t, z, hAl⟩ := allocOk_spec hok
              obtain ⟨oa, q1, q2, q3, q4⟩ := hAl.op
              obtain ⟨inf, z1, z2, z3⟩ := hAl.zero
              obtain ⟨una, _, _, _⟩ := mem_ready.1 ham
              unfold wpOp
              rw [q1]
              dsimp only
              have hwant : Region.wanted oa (yielded ops a'.tmps) = true := by unfold Region.wanted; rw [q4]
              rw [if_pos hwant]
              refine .inl ?_
              have hrun : (execOp a'.eval oa).run P wr = .ok (.value (.pointer (some ⟨wr.heap.size, 0, none⟩))) (wr.alloc (.cells z.cells t)) := by
                unfold execOp
                rw [q2]
                show ((do pure (Next.value (← Instr.alloc t true (.tuple #[])))) : Sem Next).run P wr = _
                rw [Sem.run_bind, run_alloc z1 z2]; rfl
              unfold Oper.wp
              rw [hrun]
              show wpAny P .any ops (QN Q) (n + rem.length) (listed'.setIfInBounds j true) (a'.put oa.dst (.pointer (some ⟨wr.heap.size, 0, none⟩))) (wr.alloc (.cells z.cells t))
              rw [q3]
              have hBn : B wr.heap.size = none := by
                cases e1 : B wr.heap.size with
                | none => rfl
                | some o => have := hw.lt (j := wr.heap.size) (by rw [e1]; simp); omega
              have hnw : w0.heap.size ≤ wr.heap.size := by obtain ⟨H, _, hh⟩ := hw; exact hh.kp.size
              have := stageA j d wr.heap.size t z rem (listed'.setIfInBounds j true) τ _ _ hsub hnd hl
                { al := hAl, ready := ham, ok := hok, fr := hBn, nw := hnw
                  tm := fun hd => by rw [act_put d (by rw [ha.size]; exact hd), if_pos rfl]
                  nb := fun k hk o2 ho2 => by rw [q1] at ho2; cases ho2; exact no_rem hR q1 hj hk
                  rl := hR.both una hjr
                  ev := ha.over d _
                  wt := hw.lay _ }
              rw [show n + 1 + rem.length - 1 = n + rem.length by omega] at this
              exact this
          refine catchAll (D0 := []) (f := fun _ => undef) (R0 := rem) hI (fun k hk o ho d hd => by cases hd) (n + 1) (fun τ a' wr hl _ ha hw => ?_) (fun rem listed' τ a' wr hne _ hsub hnd hR hl _ ha hw j hj hjr => ?_) _ rem listed' τ a' wr rfl (fun k hk => hk) hsub hnd hR hl (fun d hd => by cases hd) ha hw
          · refine ⟨fun h0 => (by rw [h0] at hrm; cases hrm), fun j hj => ?_⟩
            exact main [] listed τ a' wr (fun k hk => by cases hk) List.nodup_nil ⟨rfl, fun j d => by simp⟩ hl ha hw j hj (by simp)
          · rw [show n + 1 + rem.length - 1 = n + rem.length by omega]
            exact main rem listed' τ a' wr hsub hnd hR hl ha hw j hj hjr
        · split at h <;> first | (cases h; done) | skip
          rename_i hall
          refine ⟨fun rem listed' τ a' wr hsub hnd hR hl ha hw => ?_, fun a d r0 t z rem listed' τ a' wr hsub hnd hl hA => ?_⟩
          · refine catchAll (D0 := []) (f := fun _ => undef) (R0 := rem) hI (fun k hk o ho d hd => by cases hd) (n + 1) (fun τ a' wr hl _ ha hw => ?_) (fun rem listed' τ a' wr hne _ hsub hnd hR hl _ ha hw j hj hjr => ?_) _ rem listed' τ a' wr rfl (fun k hk => hk) hsub hnd hR hl (fun d hd => by cases hd) ha hw
            · exact evalAnyT_sound (specT_ok P G) hev hns (n + 1) h ha.all hw (fun τ' a2' wr' l1 h2 h3 => hQ τ' a2' wr' (hl.trans l1) h2 h3)
            · exfalso
              have hjl := ready_sub hR hj hjr
              rw [he] at hjl
              have hb := List.all_eq_true.1 hall j hjl
              split at hb <;> first | (cases hb; done) | skip
              rename_i oj hoj
              rw [Bool.and_eq_true] at hb
              obtain ⟨k, hk⟩ := List.exists_mem_of_ne_nil rem hne
              have := List.all_eq_true.1 hb.2 k (hsub k hk)
              rw [no_rem hR hoj hj hk] at this
              cases this
          · exfalso
            have hjl := hA.ready
            rw [he] at hjl
            have hb := List.all_eq_true.1 hall a hjl
            split at hb <;> first | (cases hb; done) | skip
            rw [hA.ok] at hb
            cases hb

theorem evalDrawnP_ok (hm : P.follows .mixedOrders = true) (ev : EvF) (hev : EvOkT P G ev) : DrOkT P G (evalDrawnP P G ev) := by
  intro id ops a a2 wa wa2 h B w0 τ a' wr ha hw Q hQ
  unfold evalDrawnP at h
  split at h
  · rename_i hns
    refine Code.wp_mono (Q := QN Q) QN.imp ?_
    refine wp_region_any hm ?_
    split at h
    · rename_i r hr
      rw [runP_eq] at hr
      cases h
      exact (evalP_sound hev hns ops.size hr ⟨fun k hk => (by cases hk), fun k hk => (by cases hk), trivial, fun k hk => (by cases hk), fun k hk => (by cases hk)⟩ hQ).1 [] _ τ a' _ (fun k hk => by cases hk) List.nodup_nil ⟨rfl, fun j d => by simp⟩ (Rel.le.refl _) (EnvD.of ha _) hw.drewn
    · exact evalAnyT_sound (specT_ok P G) hev hns _ h ha hw.drewn hQ
  · cases h
end sound
end Go.Ev
