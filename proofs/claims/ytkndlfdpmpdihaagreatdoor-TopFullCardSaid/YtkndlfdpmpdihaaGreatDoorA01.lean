/- The model's operations agree on worlds that agree. The model's operations agree on worlds that agree: one by one. The model's operations agree on worlds that agree: those that make and cut. The model's operations agree on worlds that agree: places, parts, texts of types. Conditions: those that each statement shows. -/
import Derived.Test.YtkndlfdpmpdihaaGreatDoorA00
namespace Go.Ev
open Go.RowKit
set_option linter.unusedVariables false
set_option linter.unusedSimpArgs false
/-- No address in it. -/
def AFb : Nat → Value → Bool
  | 0, _ => false
  | n + 1, v => match v with
    | .bool _ => true
    | .int _ _ => true
    | .float _ _ => true
    | .complex _ _ _ => true
    | .string _ => true
    | .pointer none => true
    | .slice none _ _ => true
    | .map none => true
    | .chan none => true
    | .nilFunc => true
    | .nilIface => true
    | .iface _ x => AFb n x
    | .agg xs => xs.toList.all (AFb n)
    | .tuple xs => xs.toList.all (AFb n)
    | .func (.func _) xs ys => xs.toList.all (AFb n) && ys.toList.all (AFb n)
    | _ => false
theorem AFb.vr {τ : Rel} : ∀ (n : Nat) (v : Value), AFb n v = true → VR τ v v := by
  intro n
  induction n with
  | zero => intro v h; cases h
  | succ n ih =>
    have hall : ∀ xs : Array Value, xs.toList.all (AFb n) = true → ∀ (i : Nat) (v v' : Value), xs[i]? = some v → xs[i]? = some v' → VR τ v v' := by
      intro xs h i v v' h1 h2
      rw [h1] at h2; cases h2
      refine ih v (List.all_eq_true.1 h v ?_)
      rw [← Array.getElem?_toList] at h1
      exact List.mem_of_getElem? h1
    intro v h
    unfold AFb at h
    split at h
    · exact .bool _
    · exact .int _ _
    · exact .float _ _
    · exact .complex _ _ _
    · exact .string _
    · exact .ptr0
    · exact .sl0 _ _
    · exact .map0
    · exact .chan0
    · exact .nilFunc
    · exact .nilIface
    · exact .iface _ _ _ (ih _ h)
    · exact .agg _ _ rfl (hall _ h)
    · exact .tuple _ _ rfl (hall _ h)
    · rw [Bool.and_eq_true] at h
      exact .func _ _ _ _ _ (fun l h => by cases h) rfl rfl (hall _ h.1) (hall _ h.2)
    · cases h
theorem arr_eq {xs ys : Array Value} (h : xs.size = ys.size) (hv : ∀ (i : Nat) (v v' : Value), xs[i]? = some v → ys[i]? = some v' → v = v') : xs = ys := by
  apply Array.ext h
  intro i h1 h2
  exact hv i _ _ (Array.getElem?_eq_getElem h1) (Array.getElem?_eq_getElem h2)
theorem AFb.eq {τ : Rel} : ∀ (n : Nat) (v v' : Value), AFb n v = true → VR τ v v' → v = v' := by
  intro n
  induction n with
  | zero => intro v v' h; cases h
  | succ n ih =>
    have hall : ∀ xs ys : Array Value, xs.toList.all (AFb n) = true → xs.size = ys.size → (∀ (i : Nat) (v v' : Value), xs[i]? = some v → ys[i]? = some v' → VR τ v v') → xs = ys := by
      intro xs ys h hs hv
      refine arr_eq hs (fun i v v' h1 h2 => ih v v' (List.all_eq_true.1 h v ?_) (hv i v v' h1 h2))
      rw [← Array.getElem?_toList] at h1
      exact List.mem_of_getElem? h1
    intro v v' h hv
    cases hv with
    | bool => rfl
    | int => rfl
    | float => rfl
    | complex => rfl
    | string => rfl
    | ptr0 => rfl
    | ptr => simp [AFb] at h
    | sl0 => rfl
    | sl => simp [AFb] at h
    | map0 => rfl
    | map => simp [AFb] at h
    | chan0 => rfl
    | func fn xs ys us vs hf h1 h2 i1 i2 =>
      unfold AFb at h
      split at h <;> first | (cases h; done) | skip
      all_goals (rename_i heq; cases heq)
      all_goals first | (cases h; done) | skip
      rw [Bool.and_eq_true] at h
      rw [hall _ _ h.1 h1 i1, hall _ _ h.2 h2 i2]
    | sym l us vs v' h1 h2 => simp [AFb] at h
    | nilFunc => rfl
    | iface t a b hab =>
      simp only [AFb] at h
      rw [ih _ _ h hab]
    | nilIface => rfl
    | agg xs ys hs hx =>
      simp only [AFb] at h
      rw [hall _ _ h hs hx]
    | tuple xs ys hs hx =>
      simp only [AFb] at h
      rw [hall _ _ h hs hx]
/-- A computation that asks nothing of the world. -/
def still (P : Program) {α : Type} : Sem α → Option α
  | .pure a => some a
  | .program k => still P (k P)
  | .mark _ k => still P k
  | _ => none
theorem still_run {P : Program} {α : Type} (s : Sem α) : ∀ {a : α}, still P s = some a → ∀ w, s.run P w = .ok a w := by
  induction s with
  | pure a => intro b h w; simp only [still, Option.some.injEq] at h; rw [h]; rfl
  | program k ih => intro b h w; simp only [still] at h; simp only [Sem.run]; exact ih P h w
  | mark m k ih => intro b h w; simp only [still] at h; simp only [Sem.run]; exact ih h w
  | load => intro b h; simp [still] at h
  | store => intro b h; simp [still] at h
  | new => intro b h; simp [still] at h
  | shape => intro b h; simp [still] at h
  | freeze => intro b h; simp [still] at h
  | frozen => intro b h; simp [still] at h
  | getObj => intro b h; simp [still] at h
  | setObj => intro b h; simp [still] at h
  | choose => intro b h; simp [still] at h
  | sys => intro b h; simp [still] at h
  | halt => intro b h; simp [still] at h
section ops
variable {P : Program} {τ : Rel}
abbrev RE {α : Type} : Rel → α → α → Prop := fun _ a b => a = b
abbrev RV : Rel → Value → Value → Prop := fun τ a b => VR τ a b
abbrev RU : Rel → Unit → Unit → Prop := fun _ _ _ => True
/-- Addresses. -/
def RA (τ : Rel) (a b : Addr) : Prop := ∃ k r o i, a = ⟨k, o, none⟩ ∧ b = ⟨r, o, none⟩ ∧ τ k r i
theorem RA.mono {τ τ' : Rel} (h : τ.le τ') {a b : Addr} (x : RA τ a b) : RA τ' a b := by
  obtain ⟨k, r, o, i, e1, e2, t⟩ := x
  exact ⟨k, r, o, i, e1, e2, h _ _ _ t⟩
theorem add_eq (k o i : Nat) : (⟨k, o, none⟩ : Addr).add i = ⟨k, o + i, none⟩ := by
  unfold Addr.add; split <;> simp_all
theorem RA.add {a b : Addr} (x : RA τ a b) (i : Nat) : RA τ (a.add i) (b.add i) := by
  obtain ⟨k, r, o, j, rfl, rfl, t⟩ := x
  exact ⟨k, r, o + i, j, add_eq _ _ _, add_eq _ _ _, t⟩
theorem RA.vr {a b : Addr} (x : RA τ a b) : VR τ (.pointer (some a)) (.pointer (some b)) := by
  obtain ⟨k, r, o, i, rfl, rfl, t⟩ := x
  exact .ptr _ _ _ _ t
theorem sim_prog {α : Type} {R : Rel → α → α → Prop} {f : Program → Sem α} (h : Sim P R τ (f P) (f P)) : Sim P R τ (program >>= f) (program >>= f) := Sim.program _ _ _ h
theorem sim_typeInfo (t : TypeId) : Sim P (fun _ a b => a = b ∧ P.info? t = some a) τ (typeInfo t) (typeInfo t) := by
  refine sim_prog ?_
  cases h : P.info? t with
  | none => exact Sim.halt _ _ _
  | some i => exact Sim.pure τ i i ⟨rfl, rfl⟩
theorem sim_underlying (t : TypeId) : Sim P (fun _ a b => a = b ∧ P.underlying t = some a) τ (underlying t) (underlying t) := by
  refine sim_prog ?_
  cases h : P.underlying t with
  | none => exact Sim.halt _ _ _
  | some i => exact Sim.pure τ i i ⟨rfl, rfl⟩
theorem sim_sizeOf (t : TypeId) : Sim P (fun _ a b => a = b ∧ (P.info? t).map (·.size) = some a) τ (sizeOf t) (sizeOf t) := by
  refine Sim.andThen (sim_typeInfo t) ?_
  rintro τ' a b hl ⟨rfl, h⟩
  exact Sim.pure _ _ _ ⟨rfl, by rw [h]; rfl⟩
theorem sim_isAgg (t : TypeId) : Sim P RE τ (isAgg t) (isAgg t) := by
  refine Sim.andThen (sim_underlying t) ?_
  rintro τ' a b hl ⟨rfl, h⟩
  split <;> exact Sim.pure _ _ _ rfl
theorem sim_load {a b : Addr} (h : RA τ a b) : Sim P RV τ (load a) (load b) := by
  obtain ⟨k, r, o, i, rfl, rfl, t⟩ := h
  exact Sim.load _ _ _ _ _ _ _ _ t (fun v v' hv => Sim.pure _ _ _ hv)
theorem sim_loadCellsFrom : ∀ (n : Nat) {τ : Rel} {a b : Addr} (i : Nat) {xs ys : Array Value}, RA τ a b → AR τ xs ys → Sim P (fun τ' u v => AR τ' u v) τ (loadCellsFrom a i n xs) (loadCellsFrom b i n ys) := by
  intro n
  induction n with
  | zero => intro τ a b i xs ys ha hx; exact Sim.pure _ _ _ hx
  | succ n ih =>
    intro τ a b i xs ys ha hx
    refine Sim.andThen (sim_load (ha.add i)) ?_
    intro τ' v v' hl hv
    exact ih (i + 1) (ha.mono hl) ((hx.mono hl).push hv)
theorem sim_loadVar (t : TypeId) {a b : Addr} (h : RA τ a b) : Sim P RV τ (loadVar t a) (loadVar t b) := by
  refine Sim.andThen (sim_isAgg t) ?_
  rintro τ' x y hl rfl
  split
  · refine Sim.andThen (sim_sizeOf t) ?_
    rintro τ2 n m hl2 ⟨rfl, _⟩
    refine Sim.andThen (sim_loadCellsFrom n 0 (h.mono (hl.trans hl2)) (AR.nil _)) ?_
    intro τ3 u v hl3 hx
    exact Sim.pure _ _ _ (VR.agg_ hx)
  · exact sim_load (h.mono hl)
theorem sim_storeCells : ∀ (xs ys : List Value) {τ : Rel} {a b : Addr} (i : Nat), RA τ a b → xs.length = ys.length → (∀ (j : Nat) (v v' : Value), xs[j]? = some v → ys[j]? = some v' → VR τ v v') → Sim P RU τ (storeCells a xs i) (storeCells b ys i) := by
  intro xs
  induction xs with
  | nil =>
    intro ys τ a b i ha hl hv
    cases ys with
    | nil => exact Sim.pure _ _ _ trivial
    | cons => simp at hl
  | cons x xs ih =>
    intro ys τ a b i ha hl hv
    cases ys with
    | nil => simp at hl
    | cons y ys =>
      obtain ⟨k, r, o, j, e1, e2, t⟩ := ha.add i
      show Sim P RU τ (Sem.bind (store (a.add i) x) fun _ => storeCells a xs (i + 1)) (Sem.bind (store (b.add i) y) fun _ => storeCells b ys (i + 1))
      rw [e1, e2]
      refine Sim.store _ _ _ _ _ j _ _ _ _ t (hv 0 x y rfl rfl) ?_
      exact ih ys (i + 1) ha (by simpa using hl) (fun j v v' h1 h2 => hv (j + 1) v v' h1 h2)
theorem AR.list {xs ys : Array Value} (h : AR τ xs ys) : xs.toList.length = ys.toList.length ∧ ∀ (j : Nat) (v v' : Value), xs.toList[j]? = some v → ys.toList[j]? = some v' → VR τ v v' :=
  ⟨by simpa using h.1, fun j v v' h1 h2 => h.2 j v v' (by rw [← Array.getElem?_toList]; exact h1) (by rw [← Array.getElem?_toList]; exact h2)⟩
theorem sim_storeVar (t : TypeId) {a b : Addr} (h : RA τ a b) {v v' : Value} (hv : VR τ v v') : Sim P RU τ (storeVar t a v) (storeVar t b v') := by
  refine Sim.andThen (sim_sizeOf t) ?_
  rintro τ' n m hl ⟨rfl, _⟩
  have hc := (hv.mono hl).cells
  rw [hc.1]
  split
  · exact Sim.halt _ _ _
  · exact sim_storeCells _ _ 0 (h.mono hl) hc.list.1 hc.list.2
theorem sim_newRow (e : TypeId) {xs ys : Array Value} (h : AR τ xs ys) : Sim P RA τ (newRow e xs) (newRow e ys) := by
  refine Sim.new _ _ _ _ _ (.cells _ _ e h) ?_
  intro τ' k r hl ht
  exact Sim.pure _ _ _ ⟨k, r, 0, none, rfl, rfl, ht⟩
theorem sim_newVar (t : TypeId) {v v' : Value} (h : VR τ v v') : Sim P RA τ (newVar t v) (newVar t v') := sim_newRow t h.cells
/-- A type's zero has no address. -/
def zeroOk (P : Program) (t : TypeId) : Bool := match P.info? t with
  | some i => match i.zero with | some z => AFb 10 z | none => true
  | none => true
theorem sim_zero (t : TypeId) (h : zeroOk P t = true) : Sim P (fun τ' a b => a = b ∧ AFb 10 a = true) τ (zeroValue t) (zeroValue t) := by
  refine Sim.andThen (sim_typeInfo t) ?_
  rintro τ' i j hl ⟨rfl, hi⟩
  unfold zeroOk at h
  rw [hi] at h
  dsimp only at h
  cases hz : i.zero with
  | none => exact Sim.halt _ _ _
  | some z => rw [hz] at h; exact Sim.pure _ _ _ ⟨rfl, h⟩
end ops
end Go.Ev
namespace Go.Ev
open Go.RowKit
set_option linter.unusedVariables false
set_option linter.unusedSimpArgs false
section ops
variable {P : Program} {τ : Rel}
theorem sim_sureAddr {v v' : Value} (h : VR τ v v') : Sim P RA τ (Instr.sureAddr v) (Instr.sureAddr v') := by
  cases h with
  | ptr k r o i t => exact Sim.pure _ _ _ ⟨k, r, o, i, rfl, rfl, t⟩
  | _ => exact Sim.halt _ _ _
theorem sim_asInt {v v' : Value} (h : VR τ v v') : Sim P RE τ (asInt v) (asInt v') := by
  cases h <;> first | exact Sim.pure _ _ _ rfl | exact Sim.halt _ _ _
theorem sim_asIntOf {v v' : Value} (h : VR τ v v') : Sim P RE τ (asIntOf v) (asIntOf v') := by
  cases h <;> first | exact Sim.pure _ _ _ rfl | exact Sim.halt _ _ _
theorem sim_asBool {v v' : Value} (h : VR τ v v') : Sim P RE τ (asBool v) (asBool v') := by
  cases h <;> first | exact Sim.pure _ _ _ rfl | exact Sim.halt _ _ _
theorem sim_loadAt (t : TypeId) {v v' : Value} (h : VR τ v v') : Sim P RV τ (Instr.loadAt t v) (Instr.loadAt t v') := by
  refine Sim.andThen (sim_sureAddr h) ?_
  intro τ' a b hl ha
  exact sim_loadVar t ha
theorem sim_storeAt (t : TypeId) {v v' x x' : Value} (h : VR τ v v') (hx : VR τ x x') : Sim P RU τ (Instr.storeAt t v x) (Instr.storeAt t v' x') := by
  refine Sim.andThen (sim_sureAddr h) ?_
  intro τ' a b hl ha
  exact sim_storeVar t ha (hx.mono hl)
theorem sim_alloc (t : TypeId) (h : zeroOk P t = true) : Sim P RV τ (Instr.alloc t true (.tuple #[])) (Instr.alloc t true (.tuple #[])) := by
  refine Sim.andThen (sim_zero t h) ?_
  rintro τ' a b hl ⟨rfl, hz⟩
  refine Sim.andThen (sim_newVar t (AFb.vr _ _ hz)) ?_
  intro τ2 x y hl2 hx
  exact Sim.pure _ _ _ hx.vr
theorem sim_box (t : TypeId) {v v' : Value} (h : VR τ v v') : Sim P RV τ (Instr.box t v) (Instr.box t v') := by
  refine Sim.andThen (sim_newVar t h) ?_
  intro τ2 x y hl2 hx
  exact Sim.pure _ _ _ hx.vr
theorem sim_part (t : TypeId) {xs ys : Array Value} (h : AR τ xs ys) (off : Nat) : Sim P RV τ (part t xs off) (part t ys off) := by
  refine Sim.andThen (sim_isAgg t) ?_
  rintro τ' a b hl rfl
  split
  · refine Sim.andThen (sim_sizeOf t) ?_
    rintro τ2 n m hl2 ⟨rfl, _⟩
    refine Sim.pure _ _ _ (VR.agg_ ⟨by simp [h.1], fun i v v' h1 h2 => ?_⟩)
    rw [Array.getElem?_extract] at h1 h2
    rw [h.1] at h1
    split at h1
    · rename_i hi; rw [if_pos hi] at h2; exact (h.2 _ v v' h1 h2).mono (hl.trans hl2)
    · cases h1
  · cases hx : xs[off]? with
    | none => exact Sim.halt _ _ _
    | some v =>
      obtain ⟨v', e, hv⟩ := h.get hx
      rw [e]
      exact Sim.pure _ _ _ (hv.mono hl)
theorem sim_asAgg {v v' : Value} (h : VR τ v v') : Sim P (fun τ' a b => AR τ' a b) τ (asAgg v) (asAgg v') := by
  cases h with
  | agg xs ys h hv => exact Sim.pure _ _ _ ⟨h, hv⟩
  | _ => exact Sim.halt _ _ _
theorem sim_field (t : TypeId) {v v' : Value} (h : VR τ v v') (n : Nat) : Sim P RV τ (Instr.field t v n) (Instr.field t v' n) := by
  refine Sim.andThen (sim_underlying t) ?_
  rintro τ' a b hl ⟨rfl, hu⟩
  split
  · rename_i _ fields
    cases hf : fields[n]? with
    | none => exact Sim.halt _ _ _
    | some f =>
      refine Sim.andThen (sim_asAgg (h.mono hl)) ?_
      intro τ2 x y hl2 hx
      exact sim_part _ hx _
  · exact Sim.halt _ _ _
/-- A struct's field takes room. -/
def fieldOk (P : Program) (s : TypeId) (n : Nat) : Bool := match P.underlying s with
  | some (.struct fields) => match fields[n]? with
    | some f => (P.info? f.type).map (·.size) != some 0
    | none => true
  | _ => true
theorem sim_fieldPlace {a b : Addr} (h : RA τ a b) (f : Field) (hf : (P.info? f.type).map (·.size) ≠ some 0) : Sim P RA τ (fieldPlace a f) (fieldPlace b f) := by
  refine Sim.andThen (sim_sizeOf f.type) ?_
  rintro τ' n m hl ⟨rfl, hn⟩
  have : n ≠ 0 := fun e => hf (by rw [hn, e])
  simp only [this, if_false]
  exact Sim.pure _ _ _ ((h.mono hl).add _)
theorem sim_fieldAt (s : TypeId) {v v' : Value} (h : VR τ v v') (n : Nat) (ho : fieldOk P s n = true) : Sim P RV τ (Instr.fieldAt s v n) (Instr.fieldAt s v' n) := by
  refine Sim.andThen (sim_underlying s) ?_
  rintro τ' a b hl ⟨rfl, hu⟩
  split
  · rename_i _ fields
    cases hf : fields[n]? with
    | none => exact Sim.halt _ _ _
    | some f =>
      have hz : (P.info? f.type).map (·.size) ≠ some 0 := by
        intro e
        unfold fieldOk at ho
        rw [hu] at ho
        simp [hf, e] at ho
      refine Sim.andThen (sim_sureAddr (h.mono hl)) ?_
      intro τ2 x y hl2 hx
      refine Sim.andThen (sim_fieldPlace hx f hz) ?_
      intro τ3 p q hl3 hp
      exact Sim.pure _ _ _ hp.vr
  · exact Sim.halt _ _ _
theorem sim_extract {v v' : Value} (h : VR τ v v') (n : Nat) : Sim P RV τ (Instr.extract v n) (Instr.extract v' n) := by
  cases h with
  | tuple xs ys h hv =>
    simp only [Instr.extract]
    cases hx : xs[n]? with
    | none => exact Sim.halt _ _ _
    | some v =>
      obtain ⟨v', e, hv⟩ := (show AR τ xs ys from ⟨h, hv⟩).get hx
      rw [e]
      exact Sim.pure _ _ _ hv
  | _ => exact Sim.halt _ _ _
theorem sim_makeInterface (t : TypeId) {v v' : Value} (h : VR τ v v') : Sim P RV τ (Instr.makeInterface t v) (Instr.makeInterface t v') := by
  refine Sim.andThen (sim_underlying t) ?_
  rintro τ' a b hl ⟨rfl, _⟩
  split
  · exact Sim.halt _ _ _
  · exact Sim.pure _ _ _ (.iface _ _ _ (h.mono hl))
theorem sim_makeMap (t : TypeId) {r r' : Option Value} (h : ∀ v, r = some v → ∃ v', r' = some v' ∧ VR τ v v') (h0 : r = none → r' = none) : Sim P RV τ (Instr.makeMap t r) (Instr.makeMap t r') := by
  have key : ∀ τ' : Rel, Sim P RV τ' (do pure (.map (some (← newObj (.map #[] 0))))) (do pure (.map (some (← newObj (.map #[] 0))))) := by
    intro τ'
    refine Sim.new _ _ _ _ _ (.map _ _ 0 ⟨rfl, fun i e f h => by simp at h⟩) ?_
    intro τ2 k r hl ht
    exact Sim.pure _ _ _ (.map _ _ _ ht)
  cases r with
  | none => rw [h0 rfl]; exact key τ
  | some v =>
    obtain ⟨v', e, hv⟩ := h v rfl
    rw [e]
    refine Sim.andThen (sim_underlying t) ?_
    rintro τ' a b hl ⟨rfl, _⟩
    split
    · refine Sim.andThen (sim_asInt (hv.mono hl)) ?_
      rintro τ2 x y hl2 rfl
      exact key τ2
    · exact Sim.halt _ _ _
end ops
end Go.Ev
namespace Go.Ev
open Go.RowKit
set_option linter.unusedVariables false
set_option linter.unusedSimpArgs false
section ops
variable {P : Program} {τ : Rel}
theorem sim_same_mapM {α β : Type} {f : α → Sem β} (hf : ∀ (τ : Rel) x, Sim P RE τ (f x) (f x)) : ∀ (l : List α) (τ : Rel), Sim P RE τ (l.mapM f) (l.mapM f) := by
  intro l
  induction l with
  | nil => intro τ; rw [List.mapM_nil]; exact Sim.pure _ _ _ rfl
  | cons x l ih =>
    intro τ
    rw [List.mapM_cons]
    refine Sim.andThen (hf τ x) ?_
    rintro τ' a b hl rfl
    refine Sim.andThen (ih τ') ?_
    rintro τ2 a b hl rfl
    exact Sim.pure _ _ _ rfl
theorem sim_same_amapM {α β : Type} {f : α → Sem β} (hf : ∀ (τ : Rel) x, Sim P RE τ (f x) (f x)) (l : Array α) (τ : Rel) : Sim P RE τ (l.mapM f) (l.mapM f) := by
  rw [Array.mapM_eq_mapM_toList]
  refine Sim.andThen (sim_same_mapM hf l.toList τ) ?_
  rintro τ' a b hl rfl
  exact Sim.pure _ _ _ rfl
/-- Parts of a literal. -/
def PR (τ : Rel) : List (Nat × Value) → List (Nat × Value) → Prop
  | [], [] => True
  | (i, v) :: r, (j, u) :: s => i = j ∧ VR τ v u ∧ PR τ r s
  | _, _ => False
theorem PR.mono {τ' : Rel} (h : τ.le τ') : ∀ {x y : List (Nat × Value)}, PR τ x y → PR τ' x y
  | [], [], _ => trivial
  | (i, v) :: r, (j, u) :: s, ⟨a, b, c⟩ => ⟨a, b.mono h, PR.mono h c⟩
  | [], _ :: _, x => x.elim
  | _ :: _, [], x => x.elim
theorem fold_ar : ∀ (l m : List (Value × Nat)) {xs ys : Array Value} (off : Nat), AR τ xs ys → l.length = m.length → (∀ (i : Nat) a b, l[i]? = some a → m[i]? = some b → VR τ a.1 b.1 ∧ a.2 = b.2) →
    AR τ (l.foldl (fun cs (x : Value × Nat) => cs.setIfInBounds (off + x.2) x.1) xs) (m.foldl (fun cs (x : Value × Nat) => cs.setIfInBounds (off + x.2) x.1) ys) := by
  intro l
  induction l with
  | nil =>
    intro m xs ys off h hl hv
    cases m with
    | nil => exact h
    | cons => simp at hl
  | cons x l ih =>
    intro m xs ys off h hl hv
    cases m with
    | nil => simp at hl
    | cons y m =>
      obtain ⟨h1, h2⟩ := hv 0 x y rfl rfl
      rw [List.foldl_cons, List.foldl_cons, h2]
      exact ih m off (h.set h1 _) (by simpa using hl) (fun i a b h3 h4 => hv (i + 1) a b h3 h4)
theorem fill_ar (place : Nat → Option (Nat × Nat)) : ∀ (l m : List (Nat × Value)) {xs ys : Array Value}, AR τ xs ys → PR τ l m →
    (Instr.fill place xs l = none ∧ Instr.fill place ys m = none) ∨ ∃ us vs, Instr.fill place xs l = some us ∧ Instr.fill place ys m = some vs ∧ AR τ us vs := by
  intro l
  induction l with
  | nil =>
    intro m xs ys h hp
    cases m with
    | nil => exact .inr ⟨xs, ys, rfl, rfl, h⟩
    | cons => exact hp.elim
  | cons x l ih =>
    intro m xs ys h hp
    cases m with
    | nil => exact hp.elim
    | cons y m =>
      obtain ⟨i, v⟩ := x
      obtain ⟨j, u⟩ := y
      obtain ⟨rfl, hv, hr⟩ := hp
      unfold Instr.fill
      cases hpl : place i with
      | none => exact .inl ⟨rfl, rfl⟩
      | some q =>
        obtain ⟨off, size⟩ := q
        have hc := hv.cells
        dsimp only
        rw [hc.1, h.1]
        split
        · exact .inl ⟨rfl, rfl⟩
        · refine ih m ?_ hr
          have := fold_ar (τ := τ) v.cells.zipIdx.toList u.cells.zipIdx.toList off h (by simp [hc.1]) (fun i a b h1 h2 => by
            rw [Array.getElem?_toList, Array.getElem?_zipIdx] at h1 h2
            cases ha : v.cells[i]? with
            | none => rw [ha] at h1; cases h1
            | some p =>
              cases hb : u.cells[i]? with
              | none => rw [hb] at h2; cases h2
              | some q =>
                rw [ha] at h1; rw [hb] at h2
                cases h1; cases h2
                exact ⟨hc.2 i p q ha hb, rfl⟩)
          rw [← Array.foldl_toList, ← Array.foldl_toList]
          exact this
theorem sim_build (t : TypeId) (hz : zeroOk P t = true) {ps qs : Array (Nat × Value)} (h : PR τ ps.toList qs.toList) : Sim P RV τ (Instr.build t ps) (Instr.build t qs) := by
  refine Sim.andThen (sim_zero t hz) ?_
  rintro τ' z z' hl ⟨rfl, ha⟩
  have hzz : AR τ' z.cells z.cells := (AFb.vr _ _ ha).cells
  refine Sim.andThen (sim_underlying t) ?_
  rintro τ2 a b hl2 ⟨rfl, hu⟩
  have hp := h.mono (hl.trans hl2)
  have hz2 := hzz.mono hl2
  split
  · refine Sim.andThen (sim_same_amapM (fun τ f => ?_) _ _) ?_
    · refine Sim.andThen (sim_sizeOf f.type) ?_
      rintro τ3 n m hl3 ⟨rfl, _⟩
      exact Sim.pure _ _ _ rfl
    · rintro τ3 places b hl3 rfl
      rcases fill_ar (fun i => places[i]?) ps.toList qs.toList (hz2.mono hl3) (hp.mono hl3) with ⟨e1, e2⟩ | ⟨us, vs, e1, e2, hx⟩
      · rw [e1]; exact Sim.halt _ _ _
      · rw [e1, e2]; exact Sim.pure _ _ _ (VR.agg_ hx)
  · refine Sim.andThen (sim_sizeOf _) ?_
    rintro τ3 n m hl3 ⟨rfl, _⟩
    rcases fill_ar (fun i => some (i * n, n)) ps.toList qs.toList (hz2.mono hl3) (hp.mono hl3) with ⟨e1, e2⟩ | ⟨us, vs, e1, e2, hx⟩
    · rw [e1]; exact Sim.halt _ _ _
    · rw [e1, e2]; exact Sim.pure _ _ _ (VR.agg_ hx)
  · exact Sim.halt _ _ _
theorem AR.refl_of {xs : Array Value} (h : ∀ (i : Nat) v, xs[i]? = some v → VR τ v v) : AR τ xs xs := ⟨rfl, fun i v v' h1 h2 => by rw [h1] at h2; cases h2; exact h i v h1⟩
/-- A slice of new cells. -/
theorem RA.sl {a b : Addr} (x : ∃ k r, a = ⟨k, 0, none⟩ ∧ b = ⟨r, 0, none⟩ ∧ τ k r none) (l c : Nat) : VR τ (.slice (some a) l c) (.slice (some b) l c) := by
  obtain ⟨k, r, rfl, rfl, t⟩ := x
  exact .sl k r 0 l c c none t rfl
theorem sim_newRow' (e : TypeId) {xs ys : Array Value} (h : AR τ xs ys) : Sim P (fun τ a b => ∃ k r, a = ⟨k, 0, none⟩ ∧ b = ⟨r, 0, none⟩ ∧ τ k r none) τ (newRow e xs) (newRow e ys) := by
  refine Sim.new _ _ _ _ _ (.cells _ _ e h) ?_
  intro τ' k r hl ht
  exact Sim.pure _ _ _ ⟨k, r, rfl, rfl, ht⟩
/-- Many zeros. -/
theorem zeros_ar {z : Array Value} (h : AR τ z z) (n : Nat) : AR τ ((Array.range n).map (fun i => z[i % z.size]!)) ((Array.range n).map (fun i => z[i % z.size]!)) := by
  refine AR.refl_of (fun i v hv => ?_)
  rw [Array.getElem?_map] at hv
  cases hi : (Array.range n)[i]? with
  | none => rw [hi] at hv; cases hv
  | some j =>
    rw [hi] at hv
    simp only [Option.map_some, Option.some.injEq] at hv
    subst hv
    by_cases hz : z.size = 0
    · have : z = #[] := Array.eq_empty_of_size_eq_zero hz
      subst this
      exact VR.bool false
    · have hl : j % z.size < z.size := Nat.mod_lt _ (by omega)
      rw [getElem!_pos z _ hl]
      exact h.2 _ _ _ (Array.getElem?_eq_getElem hl) (Array.getElem?_eq_getElem hl)
theorem sim_askRoom (τ : Rel) (n : Nat) : Sim P RU τ (askRoom n) (askRoom n) := by
  unfold askRoom
  split
  · exact Sim.mark _ _ _ _ _ (Sim.pure _ _ _ trivial)
  · exact Sim.pure _ _ _ trivial
theorem sim_makeSlice (t : TypeId) (hz : ∀ e, P.underlying t = some (.slice e) → zeroOk P e = true) {l l' c c' : Value} (hl : VR τ l l') (hc : VR τ c c') : Sim P RV τ (Instr.makeSlice t l c) (Instr.makeSlice t l' c') := by
  refine Sim.andThen (sim_underlying t) ?_
  rintro τ1 a b h1 ⟨rfl, hu⟩
  split
  · rename_i _ elem
    have z1 := hz elem hu
    refine Sim.andThen (sim_asInt (hl.mono h1)) ?_
    rintro τ2 len _ h2 rfl
    refine Sim.andThen (sim_asInt (hc.mono (h1.trans h2))) ?_
    rintro τ3 cap _ h3 rfl
    refine Sim.andThen (sim_typeInfo elem) ?_
    rintro τ4 i _ h4 ⟨rfl, hi⟩
    dsimp only
    split
    · split
      · exact Sim.never _ _ _ ((never_runtime _).bind _)
      · split
        · exact Sim.never _ _ _ ((never_runtime _).bind _)
        · exact Sim.never _ _ _ (Never.then _ (fun x => (never_runtime _).bind _))
    · refine Sim.andThen (sim_askRoom _ _) ?_
      rintro τ5 _ _ h5 _
      refine Sim.andThen (sim_sizeOf elem) ?_
      rintro τ6 n _ h6 ⟨rfl, hn⟩
      split
      · refine Sim.andThen (R := fun τ u v => u = v ∧ AR τ u v) (Sim.pure _ _ _ ⟨rfl, AR.nil _⟩) ?_
        rintro τ7 z _ h7 ⟨rfl, ha⟩
        refine Sim.andThen (sim_newRow' elem (zeros_ar ha _)) ?_
        intro τ8 x y h8 hx
        exact Sim.pure _ _ _ (RA.sl hx _ _)
      · refine Sim.andThen (sim_zero elem z1) ?_
        rintro τ7 z _ h7 ⟨rfl, ha⟩
        refine Sim.andThen (R := fun τ u v => u = v ∧ AR τ u v) (Sim.pure _ _ _ ⟨rfl, (AFb.vr _ _ ha).cells⟩) ?_
        rintro τ7 z _ h7 ⟨rfl, ha⟩
        refine Sim.andThen (sim_newRow' elem (zeros_ar ha _)) ?_
        intro τ8 x y h8 hx
        exact Sim.pure _ _ _ (RA.sl hx _ _)
  · exact Sim.halt _ _ _
theorem sim_buildSlice (t : TypeId) (n : Nat) (hz : ∀ e, P.underlying t = some (.slice e) → zeroOk P e = true) {ps qs : Array (Nat × Value)} (h : PR τ ps.toList qs.toList) : Sim P RV τ (Instr.buildSlice t n ps) (Instr.buildSlice t n qs) := by
  refine Sim.andThen (sim_underlying t) ?_
  rintro τ1 a b h1 ⟨rfl, hu⟩
  split
  · rename_i _ elem
    have z1 := hz elem hu
    refine Sim.andThen (sim_sizeOf elem) ?_
    rintro τ2 m _ h2 ⟨rfl, hn⟩
    dsimp only
    by_cases hbig : n * m > 2 ^ 24
    · rw [if_pos hbig]
      exact Sim.halt _ _ _
    · rw [if_neg hbig, if_neg hbig]
      have tail : ∀ (τ3 : Rel) (z : Array Value), τ2.le τ3 → AR τ3 z z → Sim P RV τ3 _ _ := fun τ3 z h3 ha => by
        rcases fill_ar (fun i => some (i * m, m)) ps.toList qs.toList (zeros_ar ha (n * m)) (h.mono (h1.trans (h2.trans h3))) with ⟨e1, e2⟩ | ⟨us, vs, e1, e2, hx⟩
        · exact (show Sim P RV τ3 (match Instr.fill (fun i => some (i * m, m)) ((Array.range (n * m)).map (z[· % z.size]!)) ps.toList with
              | some cells => (do pure (.slice (some (← newRow elem cells)) n n))
              | _ => stuck "buildSlice: a part of the wrong size") (match Instr.fill (fun i => some (i * m, m)) ((Array.range (n * m)).map (z[· % z.size]!)) qs.toList with
              | some cells => (do pure (.slice (some (← newRow elem cells)) n n))
              | _ => stuck "buildSlice: a part of the wrong size") from by rw [e1]; exact Sim.halt _ _ _)
        · rw [e1, e2]
          refine Sim.andThen (sim_newRow' elem hx) ?_
          intro τ8 x y h8 hx
          exact Sim.pure _ _ _ (RA.sl hx _ _)
      split
      · exact tail τ2 #[] (Rel.le.refl _) (AR.nil _)
      · refine Sim.andThen (sim_zero elem z1) ?_
        rintro τ7 z _ h7 ⟨rfl, ha⟩
        exact tail τ7 _ h7 (AFb.vr _ _ ha).cells
  · exact Sim.halt _ _ _
end ops
end Go.Ev
namespace Go.Ev
open Go.RowKit
set_option linter.unusedVariables false
set_option linter.unusedSimpArgs false
section ops
variable {P : Program} {τ : Rel}
/-- Addresses that may be none. -/
def OA (τ : Rel) : Option Addr → Option Addr → Prop
  | none, none => True
  | some a, some b => RA τ a b
  | _, _ => False
theorem OA.mono {τ' : Rel} (h : τ.le τ') {a b : Option Addr} (x : OA τ a b) : OA τ' a b := by
  cases a <;> cases b <;> first | trivial | exact x.elim | exact RA.mono h x
def idxTail (k : IntKind) (n : Int) (t : TypeId) (x : Option Addr × Nat × TypeId) : Sem Value := do
  let tiny := x.2.1 ≤ 1 && (match ← underlying t with | .array .. => true | _ => false)
  match x.1 with
  | some a =>
    if 0 ≤ n ∧ n < x.2.1 then pure (.pointer (some (a.add (n.toNat * (← sizeOf x.2.2)))))
    else if tiny then unsupported (.noEntry "op/indexAddr.an index out of range at an array of length 0 or 1 (ledger 616)")
    else boundsPanic k n x.2.1 .index
  | none => boundsPanic k n 0 .index
theorem sim_idxTail (k : IntKind) (n : Int) (t : TypeId) {base base' : Option Addr} (len : Nat) (elem : TypeId) (ha : OA τ base base') : Sim P RV τ (idxTail k n t (base, len, elem)) (idxTail k n t (base', len, elem)) := by
  refine Sim.andThen (sim_underlying t) ?_
  rintro τ4 d2 _ h4 ⟨rfl, hu2⟩
  have ha := ha.mono h4
  cases base with
  | none =>
    cases base' with
    | none => exact Sim.never _ _ _ (never_bounds _ _ _ _)
    | some b => exact ha.elim
  | some a =>
    cases base' with
    | none => exact ha.elim
    | some b =>
      dsimp only
      split
      · refine Sim.andThen (sim_sizeOf elem) ?_
        rintro τ5 m _ h5 ⟨rfl, _⟩
        exact Sim.pure _ _ _ ((RA.mono h5 ha).add _).vr
      · split <;> split <;> first | exact Sim.halt _ _ _ | exact Sim.never _ _ _ (never_bounds _ _ _ _)
theorem sim_indexAt (t : TypeId) {x x' i i' : Value} (hx : VR τ x x') (hi : VR τ i i') : Sim P RV τ (Instr.indexAt t x i) (Instr.indexAt t x' i') := by
  refine Sim.andThen (sim_asIntOf hi) ?_
  rintro τ1 ⟨k, n⟩ _ h1 rfl
  refine Sim.andThen (sim_underlying t) ?_
  rintro τ2 d _ h2 ⟨rfl, hu⟩
  have hx2 := hx.mono (h1.trans h2)
  cases d with
  | array len elem =>
    refine Sim.andThen (sim_sureAddr hx2) ?_
    intro τ3 a b h3 ha
    exact sim_idxTail k n t len elem (base := some a) (base' := some b) ha
  | slice elem =>
    cases hx2 with
    | sl0 l c => exact sim_idxTail k n t l elem (base := none) (base' := none) trivial
    | sl k2 r o l c c' i ht hc => exact sim_idxTail k n t l elem (base := some ⟨k2, o, none⟩) (base' := some ⟨r, o, none⟩) ⟨k2, r, o, i, rfl, rfl, ht⟩
    | _ => exact Sim.halt _ _ _
  | _ => cases hx2 <;> exact Sim.halt _ _ _
theorem sim_index (t : TypeId) {x x' i i' : Value} (hx : VR τ x x') (hi : VR τ i i') : Sim P RV τ (Instr.index t x i) (Instr.index t x' i') := by
  refine Sim.andThen (sim_asIntOf hi) ?_
  rintro τ1 ⟨k, n⟩ _ h1 rfl
  refine Sim.andThen (sim_underlying t) ?_
  rintro τ2 d _ h2 ⟨rfl, hu⟩
  have hx2 := hx.mono (h1.trans h2)
  cases hx2 with
  | agg xs ys hs hv =>
    split
    · rename_i h; cases h
      split
      · refine Sim.andThen (sim_sizeOf _) ?_
        rintro τ5 m _ h5 ⟨rfl, _⟩
        exact sim_part _ (AR.mono h5 ⟨hs, hv⟩) _
      · exact Sim.never _ _ _ (never_bounds _ _ _ _)
    · rename_i h; cases h
    · exact Sim.halt _ _ _
  | string s =>
    split
    · rename_i h; cases h
    · rename_i h; cases h
      split
      · exact Sim.pure _ _ _ (.int _ _)
      · exact Sim.never _ _ _ (never_bounds _ _ _ _)
    · exact Sim.halt _ _ _
  | _ =>
    split
    · rename_i h; cases h
    · rename_i h; cases h
    · exact Sim.halt _ _ _
theorem sim_typeAssert (t u : TypeId) (c : Bool) (hz : zeroOk P u = true) {x x' : Value} (hx : VR τ x x') : Sim P RV τ (Instr.typeAssert x t u c) (Instr.typeAssert x' t u c) := by
  have holds : ∀ (τ : Rel) (v v' : Value), VR τ v v' → Sim P RV τ (pure (if c then .tuple #[v, .bool true] else v)) (pure (if c then .tuple #[v', .bool true] else v')) := by
    intro τ v v' h
    cases c
    · exact Sim.pure _ _ _ h
    · exact Sim.pure _ _ _ (VR.tuple_ (((AR.nil _).push h).push (.bool true)))
  have fails : ∀ (τ : Rel) (a b : Option TypeId) (m : String), Sim P RV τ (if c then (do pure (.tuple #[← zeroValue u, .bool false])) else runtimePanic (.typeAssertion a b u m)) (if c then (do pure (.tuple #[← zeroValue u, .bool false])) else runtimePanic (.typeAssertion a b u m)) := by
    intro τ a b m
    cases c
    · rw [if_neg (by simp)]
      exact Sim.never _ _ _ (never_runtime _)
    · rw [if_pos rfl]
      refine Sim.andThen (sim_zero u hz) ?_
      rintro τ1 z _ h1 ⟨rfl, ha⟩
      exact Sim.pure _ _ _ (VR.tuple_ (((AR.nil _).push (AFb.vr _ _ ha)).push (.bool false)))
  unfold Instr.typeAssert
  refine Sim.andThen (sim_underlying u) ?_
  rintro τ2 d _ h2 ⟨rfl, hu⟩
  have hx2 := hx.mono h2
  cases hx2 with
  | nilIface =>
    split
    · exact fails _ _ _ _
    · rename_i h; cases h
    · exact fails _ _ _ _
    · rename_i h; cases h
    · exact Sim.halt _ _ _
  | iface t v v' hv =>
    split
    · rename_i h; cases h
    · rename_i h; cases h
      refine Sim.andThen (sim_typeInfo t) ?_
      rintro τ3 i _ h3 ⟨rfl, _⟩
      split
      · exact holds _ _ _ ((VR.iface _ _ _ hv).mono h3)
      · exact fails _ _ _ _
    · rename_i h; cases h
    · rename_i h; cases h
      split
      · exact holds _ _ _ hv
      · exact fails _ _ _ _
    · exact Sim.halt _ _ _
  | _ =>
    split
    · rename_i h; cases h
    · rename_i h; cases h
    · rename_i h; cases h
    · rename_i h; cases h
    · exact Sim.halt _ _ _
theorem sim_sliceBound {x x' : Value} (hx : VR τ x x') (y : Nat) (c : BoundsCode) {y' : Nat} (hy : y ≤ y') : Sim P (fun _ a b => a = b ∧ ∀ k n, x = .int k n → a = n.toNat) τ (Instr.sliceBound x y c) (Instr.sliceBound x' y' c) := by
  refine Sim.andThen (R := fun _ a b => a = b ∧ ∀ k n, x = .int k n → a = (k, n)) ?_ ?_
  · cases hx <;> first | exact Sim.halt _ _ _ | exact Sim.pure _ _ _ ⟨rfl, fun k n h => by cases h; rfl⟩
  rintro τ1 ⟨k, n⟩ _ h1 ⟨rfl, hkn⟩
  dsimp only
  by_cases h : 0 ≤ n ∧ n ≤ y
  · rw [if_pos h, if_pos ⟨h.1, by have := h.2; omega⟩]
    exact Sim.pure _ _ _ ⟨rfl, fun k2 n2 h2 => by have := hkn k2 n2 h2; cases this; rfl⟩
  · rw [if_neg h]
    exact Sim.never _ _ _ (never_bounds _ _ _ _)
/-- Values that may be none. -/
def OV (τ : Rel) : Option Value → Option Value → Prop
  | none, none => True
  | some a, some b => VR τ a b
  | _, _ => False
theorem OV.mono {τ' : Rel} (h : τ.le τ') {a b : Option Value} (x : OV τ a b) : OV τ' a b := by
  cases a <;> cases b <;> first | trivial | exact x.elim | exact VR.mono h x
/-- The bounds of a cut: the greatest may be another one. -/
theorem sim_sliceBounds (b : Bool) (len cap cap' : Nat) (hcap : cap ≤ cap') {lo lo' hi hi' : Option Value} (hl : OV τ lo lo') (hh : OV τ hi hi') :
    Sim P (fun τ (u v : Nat × Nat × Nat) => u.1 = v.1 ∧ u.2.1 = v.2.1 ∧ u.2.2 = cap ∧ v.2.2 = cap' ∧ ((lo = none ∨ ∃ k, lo = some (.int k 0)) → u.1 = 0)) τ (Instr.sliceBounds b len cap lo hi none) (Instr.sliceBounds b len cap' lo' hi' none) := by
  have tail : ∀ (τ1 : Rel) (h : Nat), τ.le τ1 → Sim P (fun τ (u v : Nat × Nat × Nat) => u.1 = v.1 ∧ u.2.1 = v.2.1 ∧ u.2.2 = cap ∧ v.2.2 = cap' ∧ ((lo = none ∨ ∃ k, lo = some (.int k 0)) → u.1 = 0)) τ1
      (do let l ← (match lo with | some v => Instr.sliceBound v h .sliceB | none => pure 0); pure (l, h, cap)) (do let l ← (match lo' with | some v => Instr.sliceBound v h .sliceB | none => pure 0); pure (l, h, cap')) := by
    intro τ1 h h1
    have hl1 := hl.mono h1
    cases lo with
    | none =>
      cases lo' with
      | none => exact Sim.pure _ _ _ ⟨rfl, rfl, rfl, rfl, fun _ => rfl⟩
      | some v => exact hl1.elim
    | some u =>
      cases lo' with
      | none => exact hl1.elim
      | some v =>
        refine Sim.andThen (sim_sliceBound hl1 h .sliceB (Nat.le_refl _)) ?_
        rintro τ2 a _ h2 ⟨rfl, hn⟩
        exact Sim.pure _ _ _ ⟨rfl, rfl, rfl, rfl, fun h => by
          rcases h with h | ⟨k, h⟩
          · cases h
          · cases h; exact hn k 0 rfl⟩
  cases hi with
  | none =>
    cases hi' with
    | none =>
      have := tail τ len (Rel.le.refl _)
      cases lo <;> cases lo' <;> exact this
    | some v => exact hh.elim
  | some u =>
    cases hi' with
    | none => exact hh.elim
    | some v =>
      have : Sim P (fun τ (u v : Nat × Nat × Nat) => u.1 = v.1 ∧ u.2.1 = v.2.1 ∧ u.2.2 = cap ∧ v.2.2 = cap' ∧ ((lo = none ∨ ∃ k, lo = some (.int k 0)) → u.1 = 0)) τ
        (do let h ← Instr.sliceBound u cap (if b then .sliceAcap else .sliceAlen); let l ← (match lo with | some v => Instr.sliceBound v h .sliceB | none => pure 0); pure (l, h, cap))
        (do let h ← Instr.sliceBound v cap' (if b then .sliceAcap else .sliceAlen); let l ← (match lo' with | some v => Instr.sliceBound v h .sliceB | none => pure 0); pure (l, h, cap')) := by
        refine Sim.andThen (sim_sliceBound hh cap _ hcap) ?_
        rintro τ1 h _ h1 ⟨rfl, _⟩
        exact tail τ1 h h1
      cases lo <;> cases lo' <;> exact this
end ops
end Go.Ev
