/- The model's operations agree on worlds that agree: cuts, lengths, copies, calls. The model's operations agree on worlds that agree: an operation as a whole. The model's operations agree on worlds that agree: whatever the operation. Conditions: those that each statement shows. -/
import Derived.Test.YtkndlfdpmpdihaaGreatDoorA01
namespace Go.Ev
open Go.RowKit
set_option linter.unusedVariables false
set_option linter.unusedSimpArgs false
section ops
variable {P : Program} {τ : Rel}
/-- A slice of a block that is as large as there, or cut at its begin. -/
def cutOk (τ : Rel) (x : Value) (lo : Option Value) : Prop :=
  match x with
  | .slice (some a) _ _ => (∀ r i, τ a.block r i → i = none) ∨ lo = none ∨ ∃ k, lo = some (.int k 0)
  | .pointer (some a) => ∀ r i, τ a.block r i → i = none
  | _ => True
theorem capOk.cut {c c' o l s : Nat} (h : capOk c c' o none) : capOk (c - l) (c' - l) (o + l * s) none := by
  have h : c = c' := h
  subst h
  exact (rfl : c - l = c - l)
/-- A cut of an array. -/
def arrTail (n : Nat) (elem : TypeId) (lo hi : Option Value) (a : Addr) : Sem Value := do
  let (l, h, m) ← Instr.sliceBounds false n n lo hi none
  let size ← sizeOf elem
  pure (.slice (some (if m = l then a else a.add (l * size))) (h - l) (m - l))
theorem sim_arrTail (n : Nat) (elem : TypeId) {lo lo' hi hi' : Option Value} (hl : OV τ lo lo') (hh : OV τ hi hi') {k r o : Nat} (ht : τ k r none) : Sim P RV τ (arrTail n elem lo hi ⟨k, o, none⟩) (arrTail n elem lo' hi' ⟨r, o, none⟩) := by
  refine Sim.andThen (sim_sliceBounds false n n n (Nat.le_refl _) hl hh) ?_
  rintro τ4 ⟨l, h, m⟩ ⟨l', h', m'⟩ h4 ⟨e1, e2, e3, e4, e5⟩
  cases e1; cases e2; dsimp only at e3 e4
  refine Sim.andThen (sim_sizeOf elem) ?_
  rintro τ5 z _ h5 ⟨rfl, _⟩
  refine Sim.pure _ _ _ ?_
  rw [e3, e4]
  have t := h5 _ _ _ (h4 _ _ _ ht)
  by_cases hl0 : n = l
  · rw [if_pos hl0, if_pos hl0]
    exact .sl _ _ _ _ _ _ none t rfl
  · rw [if_neg hl0, if_neg hl0]
    simp only [add_eq]
    exact .sl _ _ _ _ _ _ none t rfl
theorem sim_slice (t : TypeId) {x x' : Value} (hx : VR τ x x') {lo lo' hi hi' : Option Value} (hl : OV τ lo lo') (hh : OV τ hi hi') (hc : cutOk τ x lo) :
    Sim P RV τ (Instr.slice t x lo hi none) (Instr.slice t x' lo' hi' none) := by
  refine Sim.andThen (sim_underlying t) ?_
  rintro τ1 d _ h1 ⟨rfl, hu⟩
  have hl1 := hl.mono h1
  have hh1 := hh.mono h1
  cases d with
  | string =>
    cases hx with
    | string s =>
      refine Sim.andThen (sim_sliceBounds false s.size s.size s.size (Nat.le_refl _) hl1 hh1) ?_
      rintro τ2 ⟨l, h, m⟩ ⟨l', h', m'⟩ h2 ⟨e1, e2, _, _, _⟩
      cases e1; cases e2
      exact Sim.pure _ _ _ (.string _)
    | _ => exact Sim.halt _ _ _
  | slice elem =>
    cases hx with
    | sl0 ln c =>
      refine Sim.andThen (sim_sliceBounds true ln c c (Nat.le_refl _) hl1 hh1) ?_
      rintro τ2 ⟨l, h, m⟩ ⟨l', h', m'⟩ h2 ⟨e1, e2, e3, e4, e5⟩
      cases e1; cases e2; dsimp only at e3 e4
      refine Sim.andThen (sim_sizeOf elem) ?_
      rintro τ3 n _ h3 ⟨rfl, _⟩
      refine Sim.pure _ _ _ ?_
      rw [e3, e4]
      simp only [Option.map_none, ite_self]
      exact .sl0 _ _
    | sl k r o ln c c' i ht hcap =>
      have hcc : c ≤ c' := by
        cases i with
        | none => exact Nat.le_of_eq hcap
        | some q => exact hcap.1
      refine Sim.andThen (sim_sliceBounds true ln c c' hcc hl1 hh1) ?_
      rintro τ2 ⟨l, h, m⟩ ⟨l', h', m'⟩ h2 ⟨e1, e2, e3, e4, e5⟩
      cases e1; cases e2; dsimp only at e3 e4
      refine Sim.andThen (sim_sizeOf elem) ?_
      rintro τ3 n _ h3 ⟨rfl, _⟩
      refine Sim.pure _ _ _ ?_
      rw [e3, e4]
      have ht3 := h3 _ _ _ (h2 _ _ _ (h1 _ _ _ ht))
      have hk : i = none ∨ l = 0 := by
        rcases hc with h | h
        · exact .inl (h _ _ ht)
        · exact .inr (e5 h)
      rcases hk with rfl | rfl
      · have hcap : c = c' := hcap
        subst hcap
        by_cases hl0 : c = l
        · rw [if_pos hl0, if_pos hl0]
          exact .sl _ _ _ _ _ _ none ht3 rfl
        · rw [if_neg hl0, if_neg hl0]
          simp only [Option.map_some, add_eq]
          exact .sl _ _ _ _ _ _ none ht3 rfl
      · simp only [Option.map_some, add_eq, Nat.zero_mul, Nat.add_zero, ite_self, Nat.sub_zero]
        exact .sl _ _ _ _ _ _ i ht3 hcap
    | _ => exact Sim.halt _ _ _
  | pointer arr =>
    cases hx with
    | ptr k r o i t =>
      have hi : i = none := hc _ _ t
      subst hi
      refine Sim.andThen (R := fun τ' a b => a = ⟨k, o, none⟩ ∧ b = ⟨r, o, none⟩) (Sim.pure _ _ _ ⟨rfl, rfl⟩) ?_
      rintro τ2 _ _ h2 ⟨rfl, rfl⟩
      refine Sim.andThen (sim_underlying arr) ?_
      rintro τ3 d _ h3 ⟨rfl, _⟩
      cases d with
      | array n elem => exact sim_arrTail n elem (hl1.mono (h2.trans h3)) (hh1.mono (h2.trans h3)) (h3 _ _ _ (h2 _ _ _ (h1 _ _ _ t)))
      | _ => exact Sim.halt _ _ _
    | ptr0 => exact Sim.never _ _ _ (Never.bind (by unfold asAddr; exact never_runtime _) _)
    | _ => exact Sim.halt _ _ _
  | _ => cases hx <;> exact Sim.halt _ _ _
theorem sim_underlying_then {α β : Type} {R : Rel → α → β → Prop} (t : TypeId) {f : TypeDesc → Sem α} {g : TypeDesc → Sem β} (h : ∀ d, P.underlying t = some d → Sim P R τ (f d) (g d)) : Sim P R τ (underlying t >>= f) (underlying t >>= g) := by
  refine Sim.program _ _ _ ?_
  show Sim P R τ ((match P.underlying t with | some d => (Sem.pure d : Sem TypeDesc) | none => stuck "no such type").bind f) ((match P.underlying t with | some d => (Sem.pure d : Sem TypeDesc) | none => stuck "no such type").bind g)
  cases hd : P.underlying t with
  | none => exact Sim.halt _ _ _
  | some d => exact h d hd
theorem sim_sliceAt (t : TypeId) {x x' : Value} (hx : VR τ x x') {lo lo' hi hi' : Option Value} (hl : OV τ lo lo') (hh : OV τ hi hi') (hc : cutOk τ x lo) :
    Sim P RV τ (Instr.sliceAt t x lo hi none) (Instr.sliceAt t x' lo' hi' none) := by
  refine sim_underlying_then t (fun d hd => ?_)
  have other : Sim P RV τ (Instr.slice t x lo hi none) (Instr.slice t x' lo' hi' none) := sim_slice t hx hl hh hc
  cases d with
  | array n elem =>
    cases hx with
    | ptr k r o i t =>
      have hi : i = none := hc _ _ t
      subst hi
      exact sim_arrTail n elem hl hh t
    | _ => exact Sim.halt _ _ _
  | _ => exact other
/-- The bounds of a cut that tells its room. -/
theorem sim_sliceBounds3 (b : Bool) (len cap cap' : Nat) (hcap : cap ≤ cap') {lo lo' : Option Value} {hi hi' mx mx' : Value} (hl : OV τ lo lo') (hh : VR τ hi hi') (hm : VR τ mx mx') :
    Sim P (fun τ (u v : Nat × Nat × Nat) => u = v ∧ u.2.2 ≤ cap ∧ ((lo = none ∨ ∃ k, lo = some (.int k 0)) → u.1 = 0)) τ (Instr.sliceBounds b len cap lo (some hi) (some mx)) (Instr.sliceBounds b len cap' lo' (some hi') (some mx')) := by
  have bd : ∀ (τ : Rel) {x x' : Value} (hx : VR τ x x') (y y' : Nat) (hy : y ≤ y') (c : BoundsCode), Sim P (fun _ a b => a = b ∧ a ≤ y) τ (Instr.sliceBound x y c) (Instr.sliceBound x' y' c) := by
    intro τ x x' hx y y' hy c
    refine Sim.andThen (sim_asIntOf hx) ?_
    rintro τ1 ⟨k, n⟩ _ h1 rfl
    dsimp only
    by_cases h : 0 ≤ n ∧ n ≤ y
    · rw [if_pos h, if_pos ⟨h.1, by have := h.2; omega⟩]
      exact Sim.pure _ _ _ ⟨rfl, by have := h.2; omega⟩
    · rw [if_neg h]
      exact Sim.never _ _ _ (never_bounds _ _ _ _)
  have tail : ∀ (τ1 : Rel) (h m : Nat), τ.le τ1 → m ≤ cap → Sim P (fun τ (u v : Nat × Nat × Nat) => u = v ∧ u.2.2 ≤ cap ∧ ((lo = none ∨ ∃ k, lo = some (.int k 0)) → u.1 = 0)) τ1
      (do let l ← (match lo with | some v => Instr.sliceBound v h .slice3C | none => pure 0); pure (l, h, m)) (do let l ← (match lo' with | some v => Instr.sliceBound v h .slice3C | none => pure 0); pure (l, h, m)) := by
    intro τ1 h m h1 hmc
    have hl1 := hl.mono h1
    cases lo with
    | none =>
      cases lo' with
      | none => exact Sim.pure _ _ _ ⟨rfl, hmc, fun _ => rfl⟩
      | some v => exact hl1.elim
    | some u =>
      cases lo' with
      | none => exact hl1.elim
      | some v =>
        refine Sim.andThen (sim_sliceBound hl1 h .slice3C (Nat.le_refl _)) ?_
        rintro τ2 a _ h2 ⟨rfl, hn⟩
        exact Sim.pure _ _ _ ⟨rfl, hmc, fun h => by
          rcases h with h | ⟨k, h⟩
          · cases h
          · cases h; exact hn k 0 rfl⟩
  have : Sim P (fun τ (u v : Nat × Nat × Nat) => u = v ∧ u.2.2 ≤ cap ∧ ((lo = none ∨ ∃ k, lo = some (.int k 0)) → u.1 = 0)) τ
      (do let m ← Instr.sliceBound mx cap (if b then .slice3Acap else .slice3Alen); let h ← Instr.sliceBound hi m .slice3B; let l ← (match lo with | some v => Instr.sliceBound v h .slice3C | none => pure 0); pure (l, h, m))
      (do let m ← Instr.sliceBound mx' cap' (if b then .slice3Acap else .slice3Alen); let h ← Instr.sliceBound hi' m .slice3B; let l ← (match lo' with | some v => Instr.sliceBound v h .slice3C | none => pure 0); pure (l, h, m)) := by
    refine Sim.andThen (bd τ hm cap cap' hcap _) ?_
    rintro τ1 m _ h1 ⟨rfl, hmc⟩
    refine Sim.andThen (bd τ1 (hh.mono h1) m m (Nat.le_refl _) _) ?_
    rintro τ2 h _ h2 ⟨rfl, _⟩
    exact tail τ2 h m (h1.trans h2) hmc
  cases lo <;> cases lo' <;> exact this
theorem sim_slice3 (t : TypeId) {x x' : Value} (hx : VR τ x x') {lo lo' : Option Value} {hi hi' mx mx' : Value} (hl : OV τ lo lo') (hh : VR τ hi hi') (hm : VR τ mx mx') (hc : cutOk τ x lo) (hs : ∃ e, P.underlying t = some (.slice e)) :
    Sim P RV τ (Instr.sliceAt t x lo (some hi) (some mx)) (Instr.sliceAt t x' lo' (some hi') (some mx')) := by
  obtain ⟨e, hs⟩ := hs
  refine sim_underlying_then t (fun d hd => ?_)
  rw [hs] at hd
  cases hd
  refine Sim.andThen (sim_underlying t) ?_
  rintro τ1 d _ h1 ⟨rfl, hu⟩
  rw [hs] at hu
  cases hu
  have hl1 := hl.mono h1
  have hh1 := hh.mono h1
  have hm1 := hm.mono h1
  cases hx with
  | sl0 ln c =>
    refine Sim.andThen (sim_sliceBounds3 true ln c c (Nat.le_refl _) hl1 hh1 hm1) ?_
    rintro τ2 ⟨l, h, m⟩ _ h2 ⟨rfl, e3, e5⟩
    refine Sim.andThen (sim_sizeOf e) ?_
    rintro τ3 n _ h3 ⟨rfl, _⟩
    refine Sim.pure _ _ _ ?_
    simp only [Option.map_none, ite_self]
    exact .sl0 _ _
  | sl k r o ln c c' i ht hcap =>
    have hcc : c ≤ c' := by
      cases i with
      | none => exact Nat.le_of_eq hcap
      | some q => exact hcap.1
    refine Sim.andThen (sim_sliceBounds3 true ln c c' hcc hl1 hh1 hm1) ?_
    rintro τ2 ⟨l, h, m⟩ _ h2 ⟨rfl, e3, e5⟩
    dsimp only at e3 e5
    refine Sim.andThen (sim_sizeOf e) ?_
    rintro τ3 n _ h3 ⟨rfl, _⟩
    refine Sim.pure _ _ _ ?_
    have ht3 := h3 _ _ _ (h2 _ _ _ (h1 _ _ _ ht))
    have hk : i = none ∨ l = 0 := by
      rcases hc with h | h
      · exact .inl (h _ _ ht)
      · exact .inr (e5 h)
    rcases hk with rfl | rfl
    · by_cases hl0 : m = l
      · rw [if_pos hl0, if_pos hl0]
        exact .sl _ _ _ _ _ _ none ht3 rfl
      · rw [if_neg hl0, if_neg hl0]
        simp only [Option.map_some, add_eq]
        exact .sl _ _ _ _ _ _ none ht3 rfl
    · simp only [Option.map_some, add_eq, Nat.zero_mul, Nat.add_zero, ite_self, Nat.sub_zero]
      refine .sl _ _ _ _ _ _ i ht3 ?_
      cases i with
      | none => exact rfl
      | some q =>
        obtain ⟨mm, z⟩ := q
        refine ⟨Nat.le_refl _, ?_⟩
        have h1 : m * z ≤ c' * z := Nat.mul_le_mul_right _ (Nat.le_trans e3 hcc)
        have := hcap.2
        omega
  | _ => exact Sim.halt _ _ _
theorem sim_lenB (ts : Array TypeId) (t : TypeId) {xs ys : Array Value} (h : AR τ xs ys) : Sim P RV τ (Builtin.len_ ts t xs) (Builtin.len_ ts t ys) := by
  unfold Builtin.len_
  cases hx : xs[0]? with
  | none =>
    cases ts[0]? <;> exact Sim.halt _ _ _
  | some v =>
    obtain ⟨v', e, hv⟩ := h.get hx
    rw [e]
    cases ht : ts[0]? with
    | none => exact Sim.halt _ _ _
    | some u =>
      refine Sim.andThen (sim_underlying u) ?_
      rintro τ1 d _ h1 ⟨rfl, hu⟩
      have hv1 := hv.mono h1
      have arr : ∀ a, Sim P RV τ1 (do
          let .array n _ ← underlying a | stuck "len: pointer to array expected"
          pure (goInt n)) (do
          let .array n _ ← underlying a | stuck "len: pointer to array expected"
          pure (goInt n)) := by
        intro a
        refine Sim.andThen (sim_underlying a) ?_
        rintro τ2 d _ h2 ⟨rfl, _⟩
        split
        · exact Sim.pure _ _ _ (.int _ _)
        · exact Sim.halt _ _ _
      cases d with
      | array n e => exact Sim.pure _ _ _ (.int _ _)
      | pointer a => exact arr a
      | string => cases hv1 <;> first | exact Sim.pure _ _ _ (.int _ _) | exact Sim.halt _ _ _
      | slice a => cases hv1 <;> first | exact Sim.pure _ _ _ (.int _ _) | exact Sim.halt _ _ _
      | map a b =>
        cases hv1 with
        | map0 => exact Sim.pure _ _ _ (.int _ _)
        | map k r i ht =>
          refine Sim.getObj _ _ _ _ _ _ ht ?_
          intro o o' ho
          cases ho with
          | map es fs c he =>
            refine Sim.pure _ _ _ ?_
            rw [show es.size = fs.size from he.1]
            exact .int _ _
          | _ => exact Sim.halt _ _ _
        | _ => exact Sim.halt _ _ _
      | chan a b => cases hv1 <;> first | exact Sim.pure _ _ _ (.int _ _) | exact Sim.halt _ _ _
      | _ => cases hv1 <;> exact Sim.halt _ _ _
end ops
end Go.Ev
namespace Go.Ev
open Go.RowKit
set_option linter.unusedVariables false
set_option linter.unusedSimpArgs false
/-- What an operation answers. -/
inductive NR (τ : Rel) : Next → Next → Prop
  | value (v v' : Value) : VR τ v v' → NR τ (.value v) (.value v')
  | skip : NR τ .skip .skip
  | enter (f : FuncId) (xs ys : Array Value) : AR τ xs ys → NR τ (.enter f xs) (.enter f ys)
def bodyOk (P : Program) (f : FuncId) : Bool := match P.funcs[f]? with
  | some fn => fn.body.isSome && !(fn.name == "runtime.NumGoroutine")
  | none => false
def methodOk (P : Program) (t : TypeId) (name : String) : Option FuncId := match P.info? t with
  | some i => match i.methods.find? (·.name == name) with
    | some m => if m.path.toList.isEmpty then match m.func with
        | some (f, true) => match P.underlying t with | some (.pointer _) => some f | _ => none
        | _ => none
      else none
    | none => none
  | none => none
def nilCmp : Value → Value → Bool
  | .pointer (some _), .pointer none => true
  | .slice (some _) _ _, .slice none _ _ => true
  | .map (some _), .map none => true
  | .func (.yield _) .., .nilFunc => false
  | .func .., .nilFunc => true
  | .iface .., .nilIface => true
  | .pointer none, .pointer (some _) => true
  | _, _ => false
section ops
variable {P : Program} {τ : Rel}
theorem sim_prog2 {α β : Type} {R : Rel → α → β → Prop} {f : Program → Sem α} {g : Program → Sem β} (h : Sim P R τ (f P) (g P)) : Sim P R τ (program >>= f) (program >>= g) := Sim.program _ _ _ h
theorem sim_v {s s' : Sem Value} (h : Sim P RV τ s s') : Sim P NR τ (do pure (.value (← s))) (do pure (.value (← s'))) := by
  refine Sim.andThen h ?_
  intro τ1 a b h1 hv
  exact Sim.pure _ _ _ (.value _ _ hv)
theorem sim_u {s s' : Sem Unit} (h : Sim P RU τ s s') : Sim P NR τ (do s; pure .skip) (do s'; pure .skip) := by
  refine Sim.andThen h ?_
  intro τ1 a b h1 hv
  exact Sim.pure _ _ _ .skip
theorem sim_callFunc (f : FuncId) (hb : bodyOk P f = true) {xs ys : Array Value} (h : AR τ xs ys) : Sim P NR τ (callFunc f xs) (callFunc f ys) := by
  unfold callFunc
  refine sim_prog2 ?_
  unfold bodyOk at hb
  cases hf : P.funcs[f]? with
  | none => rw [hf] at hb; cases hb
  | some fn =>
    rw [hf] at hb
    simp only [Bool.and_eq_true, Bool.not_eq_true'] at hb
    have e1 : fn.body.isNone = false := by cases hx : fn.body with | none => rw [hx] at hb; simp at hb | some c => rfl
    simp only [hb.2, e1, Bool.false_eq_true, if_false]
    exact Sim.pure _ _ _ (.enter _ _ _ h)
theorem sim_method (fuel : Nat) (t : TypeId) (name : String) {f : FuncId} (hm : methodOk P t name = some f) {v v' : Value} (hv : VR τ v v') :
    Sim P (fun τ a b => a.1 = f ∧ b.1 = f ∧ VR τ a.2 b.2) τ (method (fuel + 1) t v name) (method (fuel + 1) t v' name) := by
  unfold method
  refine Sim.andThen (sim_typeInfo t) ?_
  rintro τ1 i _ h1 ⟨rfl, hi⟩
  unfold methodOk at hm
  rw [hi] at hm
  dsimp only at hm
  cases hf : i.methods.find? (·.name == name) with
  | none => rw [hf] at hm; cases hm
  | some m =>
    rw [hf] at hm
    dsimp only at hm
    split at hm
    · rename_i hp
      have hp0 : m.path.toList = [] := by simpa using hp
      split at hm
      · rename_i _ f2 hfn
        split at hm
        · rename_i _ e hu
          cases hm
          simp only [hp0, follow, pure_bind, hfn]
          refine Sim.andThen (R := RV) ?_ ?_
          · unfold receiverAt
            refine Sim.andThen (sim_underlying t) ?_
            rintro τ2 d _ h2 ⟨rfl, hd⟩
            rw [hu] at hd
            cases hd
            exact Sim.pure _ _ _ (hv.mono (h1.trans h2))
          · intro τ2 a b h2 hab
            exact Sim.pure _ _ _ ⟨rfl, rfl, hab⟩
        · cases hm
      · cases hm
    · cases hm
theorem sim_callMethod (t : TypeId) (name : String) {f : FuncId} (hm : methodOk P t name = some f) (hb : bodyOk P f = true) {v v' : Value} (hv : VR τ v v') {xs ys : Array Value} (h : AR τ xs ys) :
    Sim P NR τ (callMethod (.iface t v) name xs) (callMethod (.iface t v') name ys) := by
  unfold callMethod
  dsimp only
  refine sim_prog2 ?_
  refine Sim.andThen (sim_method (P.types.size + 99) t name hm hv) ?_
  rintro τ1 ⟨a, x⟩ ⟨b, y⟩ h1 ⟨rfl, hb2, hx⟩
  cases hb2
  exact sim_callFunc _ hb ((AR.one hx).append (h.mono h1))
theorem sim_eqNil (t : TypeId) {x x' y y' : Value} (hx : VR τ x x') (hy : VR τ y y') (hn : nilCmp x y = true) : Sim P RE τ (Op.equal t x y) (Op.equal t x' y') := by
  unfold Op.equal Op.maxDepth
  show Sim P RE τ (Op.equalIn (9999 + 1) t x y) (Op.equalIn (9999 + 1) t x' y')
  unfold Op.equalIn
  refine Sim.andThen (sim_underlying t) ?_
  rintro τ1 d _ h1 ⟨rfl, hu⟩
  cases hx <;> first | (simp [nilCmp] at hn; done) | skip
  all_goals (cases hy <;> first | (simp [nilCmp] at hn; done) | skip)
  all_goals (cases d <;> first | exact Sim.halt _ _ _ | exact Sim.pure _ _ _ rfl)
end ops
end Go.Ev
namespace Go.Ev
open Go.RowKit
set_option linter.unusedVariables false
set_option linter.unusedSimpArgs false
def elemZero (P : Program) (t : TypeId) : Bool := match P.underlying t with
  | some (.slice e) => zeroOk P e
  | _ => true
/-- What the laws here speak of. -/
def kindOk (P : Program) (ρ : Operand → Value) (o : Oper) : Bool := match o.op with
  | .move _ | .assign _ | .pick _ _ _ | .box _ _ | .load _ _ | .store _ _ _ | .extract _ _ | .field _ _ _ | .makeInterface _ _ | .indexAddr _ _ _ | .index _ _ _ | .makeMap _ _ => true
  | .slice _ _ _ _ none => true
  | .slice t _ _ (some _) (some _) => match P.underlying t with | some (.slice _) => true | _ => false
  | .alloc t => zeroOk P t
  | .build t _ => zeroOk P t
  | .buildSlice t _ _ => elemZero P t
  | .makeSlice t _ _ => elemZero P t
  | .fieldAddr s _ f => fieldOk P s f
  | .typeAssert _ _ u _ => zeroOk P u
  | .makeFunc (.func _) _ _ => true
  | .nilCheck x => match ρ x with | .func (.method _) _ _ => false | _ => true
  | .binOp .eql _ x y _ => nilCmp (ρ x) (ρ y)
  | .binOp .neq _ x y _ => nilCmp (ρ x) (ρ y)
  | .call c => match c.callee with
    | .builtin .len => true
    | .value f => match ρ f with | .func (.func g) _ _ => bodyOk P g | _ => false
    | .invoke r name => match ρ r with | .iface t _ => (methodOk P t name).any (bodyOk P) | _ => false
    | _ => false
  | _ => false
section ops
variable {P : Program} {τ : Rel}
theorem map_ar {ρ ρ' : Operand → Value} (xs : Array Operand) (h : ∀ x ∈ xs, VR τ (ρ x) (ρ' x)) : AR τ (xs.map ρ) (xs.map ρ') := by
  refine ⟨by simp, fun i v v' h1 h2 => ?_⟩
  rw [Array.getElem?_map] at h1 h2
  cases hx : xs[i]? with
  | none => rw [hx] at h1; cases h1
  | some x =>
    rw [hx] at h1 h2
    cases h1; cases h2
    exact h x (Array.mem_of_getElem? hx)
theorem map_pr {ρ ρ' : Operand → Value} : ∀ (l : List (Nat × Operand)), (∀ x ∈ l, VR τ (ρ x.2) (ρ' x.2)) → PR τ (l.map fun x => (x.1, ρ x.2)) (l.map fun x => (x.1, ρ' x.2))
  | [], _ => trivial
  | x :: l, h => ⟨rfl, h x (by simp), map_pr l (fun y hy => h y (by simp [hy]))⟩
theorem map_ov {ρ ρ' : Operand → Value} (x : Option Operand) (h : ∀ y, x = some y → VR τ (ρ y) (ρ' y)) : OV τ (x.map ρ) (x.map ρ') := by
  cases x with
  | none => trivial
  | some y => exact h y rfl
theorem sim_exec (ρ ρ' : Operand → Value) (o : Oper) (h : ∀ x ∈ o.op.operands, VR τ (ρ x) (ρ' x)) (hk : kindOk P ρ o = true)
    (hcut : ∀ t x lo hi mx, o.op = .slice t x lo hi mx → cutOk τ (ρ x) (lo.map ρ)) : Sim P NR τ (execOp ρ o) (execOp ρ' o) := by
  obtain ⟨dst, op, type, pos, after, guard⟩ := o
  dsimp only at h hcut
  unfold kindOk at hk
  unfold execOp
  cases op with
  | move x => exact Sim.pure _ _ _ (.value _ _ (h x (by simp [Op.operands])))
  | assign x => exact Sim.pure _ _ _ (.value _ _ (h x (by simp [Op.operands])))
  | pick c a b =>
    refine Sim.andThen (sim_asBool (h c (by simp [Op.operands]))) ?_
    rintro τ1 q _ h1 rfl
    refine Sim.pure _ _ _ (.value _ _ ?_)
    cases q
    · exact (h b (by simp [Op.operands])).mono h1
    · exact (h a (by simp [Op.operands])).mono h1
  | box t x => exact sim_v (sim_box t (h x (by simp [Op.operands])))
  | load t x => exact sim_v (sim_loadAt t (h x (by simp [Op.operands])))
  | store t x y => exact sim_u (sim_storeAt t (h x (by simp [Op.operands])) (h y (by simp [Op.operands])))
  | extract x n => exact sim_v (sim_extract (h x (by simp [Op.operands])) n)
  | field t x n => exact sim_v (sim_field t (h x (by simp [Op.operands])) n)
  | makeInterface t x => exact sim_v (sim_makeInterface t (h x (by simp [Op.operands])))
  | indexAddr t x i => exact sim_v (sim_indexAt t (h x (by simp [Op.operands])) (h i (by simp [Op.operands])))
  | index t x i => exact sim_v (sim_index t (h x (by simp [Op.operands])) (h i (by simp [Op.operands])))
  | makeMap t r =>
    refine sim_v (sim_makeMap t (r := r.map ρ) (r' := r.map ρ') ?_ ?_)
    · intro v hv
      cases r with
      | none => cases hv
      | some x => cases hv; exact ⟨_, rfl, h x (by simp [Op.operands])⟩
    · intro hv
      cases r with
      | none => rfl
      | some x => cases hv
  | alloc t => exact sim_v (sim_alloc t hk)
  | build t ps =>
    refine sim_v (sim_build t hk ?_)
    rw [Array.toList_map, Array.toList_map]
    exact map_pr ps.toList (fun x hx => h x.2 (by simp [Op.operands]; exact ⟨x.1, by simpa using hx⟩))
  | buildSlice t n ps =>
    refine sim_v (sim_buildSlice t n (fun e he => ?_) ?_)
    · have hk : elemZero P t = true := hk
      unfold elemZero at hk; rw [he] at hk; exact hk
    rw [Array.toList_map, Array.toList_map]
    exact map_pr ps.toList (fun x hx => h x.2 (by simp [Op.operands]; exact ⟨x.1, by simpa using hx⟩))
  | makeSlice t l c =>
    refine sim_v (sim_makeSlice t (fun e he => ?_) (h l (by simp [Op.operands])) (h c (by simp [Op.operands])))
    have hk : elemZero P t = true := hk
    unfold elemZero at hk; rw [he] at hk; exact hk
  | slice t x lo hi mx =>
    cases mx with
    | some m =>
      cases hi with
      | none => cases hk
      | some hi =>
        have hk : (match P.underlying t with | some (.slice _) => true | _ => false) = true := hk
        refine sim_v (sim_slice3 t (h x (by simp [Op.operands])) (map_ov lo (fun y hy => h y (by simp [Op.operands, hy]))) (h hi (by simp [Op.operands])) (h m (by simp [Op.operands])) (hcut t x lo (some hi) (some m) rfl) ?_)
        split at hk
        · rename_i e he; exact ⟨e, he⟩
        · cases hk
    | none =>
      exact sim_v (sim_sliceAt t (h x (by simp [Op.operands])) (map_ov lo (fun y hy => h y (by simp [Op.operands, hy]))) (map_ov hi (fun y hy => h y (by simp [Op.operands, hy]))) (hcut t x lo hi none rfl))
  | fieldAddr s x n => exact sim_v (sim_fieldAt s (h x (by simp [Op.operands])) n hk)
  | typeAssert x a b c => exact sim_v (sim_typeAssert a b c hk (h x (by simp [Op.operands])))
  | makeFunc fn xs ys =>
    cases fn with
    | func f =>
      refine sim_v (Sim.pure _ _ _ ?_)
      have a1 := map_ar xs (fun x hx => h x (by simp [Op.operands, hx]))
      have a2 := map_ar ys (fun x hx => h x (by simp [Op.operands, hx]))
      exact .func _ _ _ _ _ (fun l h => by cases h) a1.1 a2.1 a1.2 a2.2
    | _ => cases hk
  | nilCheck x =>
    have hx := h x (by simp [Op.operands])
    have hk : (match ρ x with | .func (.method _) _ _ => false | _ => true) = true := hk
    dsimp only
    generalize ρ x = a at hx hk
    generalize ρ' x = b at hx
    cases hx with
    | ptr0 => exact Sim.never _ _ _ (never_runtime _)
    | nilIface => exact Sim.never _ _ _ (never_runtime _)
    | nilFunc => exact Sim.never _ _ _ (never_runtime _)
    | func fn xs ys us vs hf h1 h2 i1 i2 =>
      cases fn with
      | method n => cases hk
      | _ => exact Sim.pure _ _ _ (.value _ _ (.func _ _ _ _ _ hf h1 h2 i1 i2))
    | sym l xs ys v' h hb => cases b <;> first | (cases hb; done) | exact Sim.pure _ _ _ (.value _ _ (.sym l xs ys _ h hb))
    | bool b => exact Sim.pure _ _ _ (.value _ _ (.bool b))
    | int k n => exact Sim.pure _ _ _ (.value _ _ (.int k n))
    | float k b => exact Sim.pure _ _ _ (.value _ _ (.float k b))
    | complex k a b => exact Sim.pure _ _ _ (.value _ _ (.complex k a b))
    | string s => exact Sim.pure _ _ _ (.value _ _ (.string s))
    | ptr k r o i h => exact Sim.pure _ _ _ (.value _ _ (.ptr k r o i h))
    | sl0 l c => exact Sim.pure _ _ _ (.value _ _ (.sl0 l c))
    | sl k r o l c c' i h hc => exact Sim.pure _ _ _ (.value _ _ (.sl k r o l c c' i h hc))
    | map0 => exact Sim.pure _ _ _ (.value _ _ .map0)
    | map k r i h => exact Sim.pure _ _ _ (.value _ _ (.map k r i h))
    | chan0 => exact Sim.pure _ _ _ (.value _ _ .chan0)
    | iface t v v' hv => exact Sim.pure _ _ _ (.value _ _ (.iface t v v' hv))
    | agg xs ys h hv => exact Sim.pure _ _ _ (.value _ _ (.agg xs ys h hv))
    | tuple xs ys h hv => exact Sim.pure _ _ _ (.value _ _ (.tuple xs ys h hv))
  | binOp op t x y u =>
    have hx := h x (by simp [Op.operands])
    have hy := h y (by simp [Op.operands])
    have key : nilCmp (ρ x) (ρ y) = true → ∀ (neg : Bool), (op = if neg then .neq else .eql) → Sim P NR τ (do pure (.value (← (do eqGuard op t x y (ρ x) (ρ y); binOp op t (ρ x) (ρ y))))) (do pure (.value (← (do eqGuard op t x y (ρ' x) (ρ' y); binOp op t (ρ' x) (ρ' y))))) := by
      intro hn neg hop
      generalize ρ x = a at hx hn
      generalize ρ' x = b at hx
      generalize ρ y = c at hy hn
      generalize ρ' y = d at hy
      have he := sim_eqNil (P := P) t hx hy hn
      refine sim_v ?_
      refine Sim.andThen (R := RU) ?_ ?_
      · cases neg <;> (subst hop; cases hx <;> cases hy <;> first | (simp [nilCmp] at hn; done) | exact Sim.pure _ _ _ trivial)
      · intro τ1 _ _ h1 _
        have he1 := sim_eqNil (P := P) t (hx.mono h1) (hy.mono h1) hn
        have fin : ∀ (neg : Bool), Sim P RV τ1 (do pure (.bool (xor neg (← Op.equal t a c)))) (do pure (.bool (xor neg (← Op.equal t b d)))) := by
          intro neg
          refine Sim.andThen he1 ?_
          rintro τ2 q _ h2 rfl
          exact Sim.pure _ _ _ (.bool _)
        cases neg
        · subst hop
          have := fin false
          simp only [Bool.false_xor] at this
          cases hx <;> cases hy <;> first | (simp [nilCmp] at hn; done) | exact this
        · subst hop
          have := fin true
          simp only [Bool.true_xor] at this
          cases hx <;> cases hy <;> first | (simp [nilCmp] at hn; done) | exact this
    cases op <;> first | (cases hk; done) | skip
    · exact key hk false rfl
    · exact key hk true rfl
  | call c =>
    obtain ⟨callee, args, ats⟩ := c
    cases callee with
    | builtin b =>
      cases b <;> first | (cases hk; done) | skip
      refine Sim.andThen (R := fun τ u v => AR τ u.args v.args ∧ u.target = .builtin .len ats type (args.map fun | .const _ => true | _ => false) ∧ v.target = .builtin .len ats type (args.map fun | .const _ => true | _ => false)) (Sim.pure _ _ _ ⟨map_ar args (fun x hx => h x (by simp [Op.operands, Call.operands, hx])), rfl, rfl⟩) ?_
      rintro τ1 ⟨_, us⟩ ⟨_, vs⟩ h1 ⟨ha, e1, e2⟩
      dsimp only at e1 e2 ha
      subst e1 e2
      exact sim_v (sim_lenB _ _ ha)
    | value f =>
      have hf := h f (by simp [Op.operands, Call.operands])
      have ha := map_ar (τ := τ) (ρ := ρ) (ρ' := ρ') args (fun x hx => h x (by simp [Op.operands, Call.operands, hx]))
      have hk : (match ρ f with | .func (.func g) _ _ => bodyOk P g | _ => false) = true := hk
      dsimp only [resolve]
      generalize ρ f = a at hf hk
      generalize ρ' f = b at hf
      cases hf <;> first | (cases hk; done) | skip
      rename_i fn xs ys us vs hfn h1 h2 i1 i2
      cases fn <;> first | (cases hk; done) | skip
      rename_i g
      exact sim_callFunc g hk ((AR.append ⟨h1, i1⟩ ha).append ⟨h2, i2⟩)
    | invoke r name =>
      have hf := h r (by simp [Op.operands, Call.operands])
      have ha := map_ar (τ := τ) (ρ := ρ) (ρ' := ρ') args (fun x hx => h x (by simp [Op.operands, Call.operands, hx]))
      have hk : (match ρ r with | .iface t _ => (methodOk P t name).any (bodyOk P) | _ => false) = true := hk
      dsimp only [resolve]
      generalize ρ r = a at hf hk
      generalize ρ' r = b at hf
      cases hf <;> first | (cases hk; done) | skip
      rename_i t v v' hv
      cases hm : methodOk P t name with
      | none => simp [hm] at hk
      | some g =>
        simp only [hm, Option.any_some] at hk
        have e0 : ∀ (x : Value) (xs : Array Value), (#[x] ++ xs)[0]? = some x := fun x xs => by simp [Array.getElem?_append]
        have e1 : ∀ (x : Value) (xs : Array Value), (#[x] ++ xs).extract 1 (#[x] ++ xs).size = xs := fun x xs => by
          apply Array.ext_getElem?
          intro i
          rw [Array.getElem?_extract]
          by_cases hi : i < xs.size
          · rw [if_pos (by simp; omega), Array.getElem?_append_right (by simp)]
            simp
          · rw [if_neg (by simp; omega)]
            simp; omega
        simp only [pure_bind, invoke, e0, e1]
        exact sim_callMethod t name hm hk hv ha
  | _ => cases hk
end ops
end Go.Ev
