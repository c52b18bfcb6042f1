/- The run on the small world, once more: the same, put so that the kernel reckons it faster. Small worlds told as lists, and calls that were reckoned between them. What symbols stand for, out of what the given ones stand for. Conditions: those that each statement shows. -/
import Derived.Test.YtkndlfdpmpdihaaGreatDoorA28
import Derived.Test.YtkndlfdpmpdihaaGreatDoorA00
namespace Go.Ev
open Go.RowKit
set_option linter.unusedVariables false
set_option linter.unusedSimpArgs false
section ev
variable (P : Program) (G : Gl) (ev : EvF) (evi : EvI) (rd : Rd)
noncomputable def stepY (ops : Array Oper) (o : Oper) (k : Env → TW → Option (Env × TW)) (e : Env) (w : TW) : Option (Env × TW) := match e.fits o.dst with
  | true => match wantedE ops e o with
    | some true => match stepV P G (specT P) ev o e w with
      | some (v, w') => putK e o.dst v fun e' => k e' w'
      | none => none
    | some false => putK e o.dst undef fun e' => k e' w
    | none => none
  | false => none
noncomputable def stepsY (ops : Array Oper) (l : List Oper) : Env → TW → Option (Env × TW) :=
  List.rec (motive := fun _ => Env → TW → Option (Env × TW)) (fun e w => some (e, w)) (fun o _ ih => stepY P G ev ops o ih) l
def isIter : FSt → Bool
  | .iter _ _ => true
  | _ => false
theorem stepsY_eq (ops : Array Oper) : ∀ (l : List Oper) (k : Nat) (s : FSt) (e : Env) (w : TW), isIter s = false → (∀ i, l[i]? = ops[k + i]?) →
    stepOpsX P G ev rd ops (List.range' k l.length) s e w = (match stepsY P G ev ops l e w with | some (e', w') => some (s, e', w') | none => none)
  | [], k, s, e, w, hs, h => rfl
  | o :: l, k, s, e, w, hs, h => by
    have h0 : ops[k]? = some o := by have := h 0; simpa using this.symm
    have ht : ∀ i, l[i]? = ops[k + 1 + i]? := fun i => by
      have := h (i + 1)
      rw [List.getElem?_cons_succ] at this
      rw [this]; congr 1; omega
    rw [List.length_cons, List.range'_succ]
    unfold stepOpsX
    rw [h0]
    have e1 : moveOf s o = none := by cases s <;> first | rfl | cases hs
    have e2 : offY s o.dst = true := by cases s <;> first | rfl | cases hs
    have e3 : yieldOf s o = none := by cases s <;> first | rfl | cases hs
    show (match e.fits o.dst with
      | false => none
      | true => match wantedE ops e o with
        | some true => _
        | some false => _
        | none => none) = (match stepY P G ev ops o (stepsY P G ev ops l) e w with | some (e', w') => some (s, e', w') | none => none)
    unfold stepY
    cases e.fits o.dst with
    | false => rfl
    | true =>
      dsimp only
      cases wantedE ops e o with
      | none => rfl
      | some b =>
        cases b with
        | false =>
          dsimp only
          rw [e2, putK_eq, putK_eq]
          exact stepsY_eq ops l (k + 1) s _ w hs ht
        | true =>
          dsimp only
          rw [e1, e2, e3]
          dsimp only
          cases stepV P G (specT P) ev o e w with
          | none => rfl
          | some r =>
            obtain ⟨v, w'⟩ := r
            dsimp only
            rw [putK_eq, putK_eq]
            exact stepsY_eq ops l (k + 1) s _ w' hs ht
noncomputable def plainY (ops : Array Oper) : Bd := fun s a w => match regNd ops with
  | true => match isIter s with
    | false => match stepsY P G ev ops ops.toList a w with
      | some (a', w') => some (.normal, s, a', w')
      | none => none
    | true => match stepOpsX P G ev rd ops (List.range ops.size) s a w with
      | some (s', a', w') => some (.normal, s', a', w')
      | none => none
  | false => none
noncomputable def drawnY (dr : DrawnT) (ops : Array Oper) : Bd := fun s a w => match regOk s ops with
  | true => match dr ops a w with
    | some (a', w') => some (.normal, s, a', w')
    | none => none
  | false => none
noncomputable def seqY (run : Code → Bd) (x y : Code) : Bd := fun s a w => match run x s a w with
  | some (.normal, s', a', w') => run y s' a' w'
  | r => r
noncomputable def condY (G : Gl) (run : Code → Bd) (c : Operand) (x y : Code) : Bd := fun s a w => match condK G a c with
  | some true => run x s a w
  | some false => run y s a w
  | none => none
noncomputable def blockY (run : Code → Bd) (id : Nat) (body : Code) : Bd := fun s a w => match run body s a w with
  | some (.exit k, s', a', w') => match Nat.beq k id with
    | true => some (.normal, s', a', w')
    | false => some (.exit k, s', a', w')
  | r => r
noncomputable def loopY (body : Bd) (n : Nat) : Bd := Nat.rec (motive := fun _ => Bd) (fun _ _ _ => none) (fun _ ih s a w => match body s a w with
  | some (.normal, s', a', w') => ih s' a' w'
  | r => r) n
noncomputable def rangeY (run : Code → Bd) (g : Operand) (ps : Array Tmp) (assign body : Code) : Bd := fun s a w => match s, a.ok G g, a.eval g with
  | .fresh, true, .func (.func gf) ⟨[]⟩ lb =>
    match evi gf lb (fun vals w => putsK ps.toList vals a fun a1 => match run assign .round a1 w with
      | some (.normal, _, a2, w2) => match run body .round a2 w2 with
        | some (.normal, _, _, w3) => some (none, w3)
        | some (.ret, _, _, w3) => some (some .ret, w3)
        | some (.exit id, _, _, w3) => some (some (.exit id), w3)
        | some (.goto l, _, _, w3) => some (some (.goto l), w3)
        | _ => none
      | _ => none) w with
    | some (none, w') => some (.normal, .marked, a, w')
    | some (some .ret, w') => some (.ret, .marked, a, w')
    | some (some (.exit id), w') => some (.exit id, .marked, a, w')
    | some (some (.goto l), w') => some (.goto l, .marked, a, w')
    | _ => none
  | _, _, _ => none
noncomputable def codeY1 (dr : DrawnT) (n : Nat) (run : Code → Bd) (c : Code) : Bd := match c with
  | .skip => fun s a w => some (.normal, s, a, w)
  | .label _ => fun s a w => some (.normal, s, a, w)
  | .ret => fun s a w => some (.ret, s, a, w)
  | .exit id => fun s a w => some (.exit id, s, a, w)
  | .goto l => fun s a w => some (.goto l, s, a, w)
  | .region _ ops false => plainY P G ev rd ops
  | .region _ ops true => drawnY dr ops
  | .seq x y => seqY run x y
  | .cond c x y => condY G run c x y
  | .block id body => blockY run id body
  | .loop body => loopY (run body) n
  | .scope body => evalScopeX run body n body
  | .rangeFunc g ps assign body => rangeY G evi run g ps assign body
  | .refuse _ => fun _ _ _ => none
noncomputable def codeY (dr : DrawnT) (n : Nat) : Code → Bd := Nat.rec (motive := fun _ => Code → Bd) (fun _ _ _ _ => none) (fun n ih => codeY1 P G ev evi rd dr n ih) n
theorem loopY_eq (body : Bd) : ∀ n, loopY body n = evalLoopX body n
  | 0 => by funext s a w; rfl
  | n + 1 => by
    funext s a w
    unfold evalLoopX
    show (match body s a w with
      | some (.normal, s', a', w') => loopY body n s' a' w'
      | r => r) = _
    rw [loopY_eq body n]
    rcases body s a w with _ | ⟨e1, s1, a1, w1⟩
    · rfl
    · cases e1 <;> rfl
theorem codeY_eq (dr : DrawnT) : ∀ n, codeY P G ev evi rd dr n = evalCodeX P G ev evi rd dr n
  | 0 => by funext c s a w; rfl
  | n + 1 => by
    have ih := codeY_eq dr n
    funext c s a w
    show codeY1 P G ev evi rd dr n (codeY P G ev evi rd dr n) c s a w = _
    rw [ih]
    unfold codeY1 evalCodeX
    cases c with
    | region id ops dw =>
      cases dw with
      | true => rfl
      | false =>
        dsimp only
        unfold plainY
        cases regNd ops with
        | false => rfl
        | true =>
          dsimp only
          cases hs : isIter s with
          | true => rfl
          | false =>
            dsimp only
            have := stepsY_eq P G ev rd ops ops.toList 0 s a w hs (fun i => by simp)
            rw [← List.range_eq_range', Array.length_toList] at this
            rw [this]
            cases stepsY P G ev ops ops.toList a w with
            | none => rfl
            | some r => rfl
    | block id body =>
      dsimp only
      unfold blockY
      cases evalCodeX P G ev evi rd dr n body s a w with
      | none => rfl
      | some r =>
        obtain ⟨e1, s1, a1, w1⟩ := r
        cases e1 with
        | exit k =>
          dsimp only
          by_cases hk : k = id
          · subst hk
            rw [if_pos rfl, Nat.beq_refl]
          · have : Nat.beq k id = false := by
              cases hq : Nat.beq k id with
              | false => rfl
              | true => exact absurd (Nat.eq_of_beq_eq_true hq) hk
            rw [if_neg hk, this]
        | _ => rfl
    | loop body => dsimp only; rw [loopY_eq]
    | _ => rfl
end ev
noncomputable def endY (P : Program) (fn : Func) (s : FSt) (e : Env) (w : TW) : Option (Value × FSt × TW) := match e.has (resTmps fn) with
  | true => match runW P (results fn (e.row (resTmps fn))) w with
    | some (v, w) => forceV 20 v fun v => some (v, s, w)
    | none => none
  | false => none
noncomputable def bodyY (P : Program) (G : Gl) (dr : EvF → DrawnT) (fuel : Nat) (ev : EvF) (evi : EvI) (r : Option Rd) (f : FuncId) (args : Array Value) (w : TW) : Option (Value × FSt × TW) := match P.funcs[f]? with
  | none => none
  | some fn => match (match r with | none => false | some _ => fn.name == "runtime.NumGoroutine"), fn.body with
    | false, some body => match codeY P G ev evi (rdOf r) (dr ev) fuel body (stOf r) (envOf r fn args) w with
      | some (.ret, s, e, w) => endY P fn s e w
      | some (.normal, s, e, w) => endY P fn s e w
      | _ => none
    | _, _ => none
noncomputable def fY (X : Option Rd → FuncId → Array Value → TW → Option (Value × FSt × TW)) : EvF := fun f args w => match X none f args w with
  | some (v, .fresh, w) => some (v, w)
  | some (v, .marked, w) => some (v, w)
  | _ => none
noncomputable def iY (X : Option Rd → FuncId → Array Value → TW → Option (Value × FSt × TW)) : EvI := fun f lb rd w => match X (some rd) f lb w with
  | some (_, .iter _ p, w) => some (p, w)
  | _ => none
noncomputable def callY (P : Program) (G : Gl) (dr : EvF → DrawnT) (book : EvF) (fuel : Nat) (X : Option Rd → FuncId → Array Value → TW → Option (Value × FSt × TW)) : Option Rd → FuncId → Array Value → TW → Option (Value × FSt × TW) := fun r f args w => match (match r with | none => book f args w | some _ => none) with
  | some (v, w) => some (v, .fresh, w)
  | none => bodyY P G dr fuel (fY X) (iY X) r f args w
noncomputable def evalY (P : Program) (G : Gl) (dr : EvF → DrawnT) (book : EvF) (fuel n : Nat) : Option Rd → FuncId → Array Value → TW → Option (Value × FSt × TW) :=
  Nat.rec (motive := fun _ => Option Rd → FuncId → Array Value → TW → Option (Value × FSt × TW)) (fun _ _ _ _ => none) (fun _ ih => callY P G dr book fuel ih) n
theorem evalY_eq (P : Program) (G : Gl) (dr : EvF → DrawnT) (book : EvF) (fuel : Nat) : ∀ n, evalY P G dr book fuel n = evalX P G dr book fuel n
  | 0 => by funext r f args w; rfl
  | n + 1 => by
    have ih := evalY_eq P G dr book fuel n
    funext r f args w
    show callY P G dr book fuel (evalY P G dr book fuel n) r f args w = _
    rw [ih]
    unfold callY evalX
    cases r
    all_goals dsimp only
    · cases book f args w with
      | some x => rfl
      | none =>
        dsimp only
        unfold bodyY
        cases P.funcs[f]? with
        | none => rfl
        | some fn =>
          dsimp only
          cases fn.body with
          | none => rfl
          | some body =>
            dsimp only
            rw [codeY_eq]
            rfl
    · unfold bodyY
      cases P.funcs[f]? with
      | none => rfl
      | some fn =>
        dsimp only
        cases (fn.name == "runtime.NumGoroutine") with
        | true => cases fn.body <;> rfl
        | false =>
          cases fn.body with
          | none => rfl
          | some body =>
            dsimp only
            rw [codeY_eq]
            rfl
noncomputable def evY (P : Program) (G : Gl) (dr : EvF → DrawnT) (book : EvF) (fuel n : Nat) : EvF := fY (evalY P G dr book fuel n)
theorem evY_ok {P : Program} {G : Gl} {dr : EvF → DrawnT} (hdr : ∀ ev, EvOkT P G ev → DrOkW P G (dr ev)) {book : EvF} (hb : EvOkT P G book) (fuel n : Nat) : EvOkT P G (evY P G dr book fuel n) := by
  have : evY P G dr book fuel n = evFn P G dr book fuel n := by
    unfold evY
    rw [evalY_eq]
    rfl
  rw [this]
  exact (evalX_sound hdr hb fuel n).1
end Go.Ev
namespace Go.Ev
open Go.RowKit
namespace Lit
def u64 (n : Nat) : Value := .int .u64 (.ofNat n)
def u32 (n : Nat) : Value := .int .u32 (.ofNat n)
def u8 (n : Nat) : Value := .int .u8 (.ofNat n)
def i64 (n : Nat) : Value := .int .i64 (.ofNat n)
end Lit
noncomputable def fillR {β : Type} (l : List Obj) : (TW → β) → TW → β := List.rec (fun k w => k w) (fun o _ ih k w => w.pushK o fun w => ih k w) l
noncomputable def fillT (l : List Obj) : TW := fillR l (fun w => w) ⟨.nil, 0⟩
theorem pushK_eq {β : Type} (w : TW) (o : Obj) (c : TW → β) : w.pushK o c = c (w.pushK o fun w => w) := by
  simp only [TW.pushK, forceObj_eq, T.setK_eq, forceNat_eq]
theorem fillR_eq {β : Type} : ∀ (l : List Obj) (k : TW → β) (w : TW), fillR l k w = k (fillR l (fun w => w) w)
  | [], _, _ => rfl
  | o :: l, k, w => by
    show w.pushK o (fun w => fillR l k w) = k (w.pushK o fun w => fillR l (fun w => w) w)
    rw [pushK_eq, pushK_eq w o (fun w => fillR l (fun w => w) w)]
    exact fillR_eq l k _
theorem fillR_fillT {β : Type} (l : List Obj) (k : TW → β) : fillR l k ⟨.nil, 0⟩ = k (fillT l) := fillR_eq l k _
/-- A call with arguments args from the small world of l: the answer v, and then the small world of l'. -/
structure ML where
  f : Nat
  args : List Value
  l : List Obj
  v : Value
  l' : List Obj
noncomputable def ML.mem (m : ML) : Mem := ⟨m.f, m.args, fillT m.l, m.v, fillT m.l'⟩
noncomputable def memL (ms : List ML) : EvF := fun f args w => List.rec (motive := fun _ => Option (Value × TW)) none (fun m _ ih => match Nat.beq m.f f with
  | true => match argsEq m.args args.toList with
    | true => match fillR m.l (fun u => Nat.beq u.n w.n && teq u.t w.t) ⟨.nil, 0⟩ with
      | true => fillR m.l' (fun u => some (m.v, u)) ⟨.nil, 0⟩
      | false => ih
    | false => ih
  | false => ih) ms
theorem memL_eq (f : FuncId) (args : Array Value) (w : TW) : ∀ ms : List ML, memL ms f args w = memB (ms.map ML.mem) f args w
  | [] => rfl
  | m :: ms => by
    have ih := memL_eq f args w ms
    show (match Nat.beq m.f f with
      | true => match argsEq m.args args.toList with
        | true => match fillR m.l (fun u => Nat.beq u.n w.n && teq u.t w.t) ⟨.nil, 0⟩ with
          | true => fillR m.l' (fun u => some (m.v, u)) ⟨.nil, 0⟩
          | false => memL ms f args w
        | false => memL ms f args w
      | false => memL ms f args w) = (match Nat.beq m.f f with
      | true => match argsEq m.args args.toList && (Nat.beq (fillT m.l).n w.n && teq (fillT m.l).t w.t) with
        | true => some (m.v, fillT m.l')
        | false => memB (ms.map ML.mem) f args w
      | false => memB (ms.map ML.mem) f args w)
    rw [ih, fillR_fillT, fillR_fillT]
    cases Nat.beq m.f f with
    | false => rfl
    | true =>
      dsimp only
      cases argsEq m.args args.toList with
      | false => rfl
      | true =>
        rw [Bool.true_and]
section
variable {P : Program} {G : Gl}
def MLOk (P : Program) (G : Gl) (m : ML) : Prop := MemOk P G m.mem
theorem memL_ok {ms : List ML} (h : ∀ m ∈ ms, MLOk P G m) : EvOkT P G (memL ms) := by
  intro f args wa v wa2 hb
  rw [memL_eq] at hb
  refine memB_ok (ms.map ML.mem) (fun m hm => ?_) f args wa v wa2 hb
  rw [List.mem_map] at hm
  obtain ⟨x, hx, rfl⟩ := hm
  exact h x hx
/-- What the kernel is asked. -/
noncomputable def mlAsk (ev : EvF) (m : ML) : Bool := fillR m.l (fun w => fillR m.l' (fun w' => endIs (ev m.f ⟨m.args⟩ w) m.v w') ⟨.nil, 0⟩) ⟨.nil, 0⟩
theorem ml_is {ev : EvF} (hev : EvOkT P G ev) {m : ML} (h : mlAsk ev m = true) : MLOk P G m := by
  unfold mlAsk at h
  rw [fillR_fillT, fillR_fillT] at h
  exact mem_is hev h
end
end Go.Ev
namespace Go.Ev
open Go.RowKit
set_option linter.unusedVariables false
set_option linter.unusedSimpArgs false
def denL (f : Value → Option Value) : List Value → Option (List Value)
  | [] => some []
  | x :: xs => match (if sb x = true then some x else f x), denL f xs with
    | some v, some vs => some (v :: vs)
    | _, _ => none
def typed (t : Value) : Option Value → Option Value
  | some v => if sameTy t v = true then some v else none
  | none => none
theorem typed_eq {t : Value} {o : Option Value} {v : Value} : typed t o = some v ↔ o = some v ∧ sameTy t v = true := by
  cases o with
  | none => simp [typed]
  | some u =>
    simp only [typed]
    split
    · rename_i h; constructor
      · intro e; cases e; exact ⟨rfl, h⟩
      · rintro ⟨e, _⟩; exact e
    · rename_i h; constructor
      · intro e; cases e
      · rintro ⟨e, k⟩; cases e; exact absurd k h
/-- What a symbol stands for; ρ: the given ones. -/
def den (ρ : Nat → Option Value) : Nat → Value → Option Value
  | 0, _ => none
  | n + 1, .func (.yield l) ⟨xs⟩ ⟨[c, t]⟩ => match l with
    | 0 => match c with
      | .int .u64 (.ofNat i) => typed t (ρ i)
      | _ => none
    | l + 1 => match denL (den ρ n) xs with
      | some vs => typed t (symApp (l + 1) vs c t)
      | none => none
  | n + 1, .func (.yield 0) ⟨[]⟩ ⟨[.int .u64 (.ofNat i)]⟩ => ρ i
  | _, _ => none
theorem denL_mono {f g : Value → Option Value} (h : ∀ x v, f x = some v → g x = some v) : ∀ {l vs}, denL f l = some vs → denL g l = some vs
  | [], vs, e => e
  | x :: xs, vs, e => by
    unfold denL at e ⊢
    split at e <;> first | (cases e; done) | skip
    rename_i v ws h1 h2
    cases e
    rw [denL_mono h h2]
    by_cases hb : sb x = true
    · rw [if_pos hb] at h1 ⊢
      rw [h1]
    · rw [if_neg hb] at h1 ⊢
      rw [h x v h1]
theorem den_mono (ρ : Nat → Option Value) : ∀ n e v, den ρ n e = some v → den ρ (n + 1) e = some v := by
  intro n
  induction n with
  | zero => intro e v h; unfold den at h; cases h
  | succ n ih =>
    intro e v h
    unfold den at h ⊢
    split at h <;> first | (cases h; done) | skip
    rotate_left
    · exact h
    rename_i m l xs c t hm
    cases hm
    cases l with
    | zero => exact h
    | succ l =>
      dsimp only at h ⊢
      split at h <;> first | (cases h; done) | skip
      rename_i vs hvs
      rw [denL_mono (ih) hvs]
      exact h
theorem den_le (ρ : Nat → Option Value) {n m : Nat} (h : n ≤ m) {e v : Value} (hd : den ρ n e = some v) : den ρ m e = some v := by
  induction h with
  | refl => exact hd
  | step _ ih => exact den_mono ρ _ e v ih
def symS (ρ : Nat → Option Value) (e v : Value) : Prop := ∃ n, den ρ n e = some v
theorem symS_fn {ρ : Nat → Option Value} {e v v' : Value} (h : symS ρ e v) (h' : symS ρ e v') : v = v' := by
  obtain ⟨n, h⟩ := h
  obtain ⟨m, h'⟩ := h'
  have h1 := den_le ρ (Nat.le_max_left n m) h
  have h2 := den_le ρ (Nat.le_max_right n m) h'
  rw [h1] at h2
  exact Option.some.inj h2
theorem symS_args {ρ : Nat → Option Value} {xs vs : List Value} (h : symArgs (symS ρ) xs vs) : ∃ n, denL (den ρ n) xs = some vs := by
  induction h with
  | nil => exact ⟨0, rfl⟩
  | cons x v xs vs h1 _ ih =>
    obtain ⟨m, hm⟩ := ih
    by_cases hb : sb x = true
    · rcases h1 with ⟨rfl, _⟩ | ⟨n, hn⟩
      · exact ⟨m, by unfold denL; rw [if_pos hb, hm]⟩
      · exfalso
        cases n with
        | zero => unfold den at hn; cases hn
        | succ n => cases x <;> first | (cases hb; done) | (unfold den at hn; cases hn)
    · rcases h1 with ⟨rfl, h⟩ | ⟨n, hn⟩
      · exact absurd h hb
      · refine ⟨max n m, ?_⟩
        unfold denL
        rw [if_neg hb, den_le ρ (Nat.le_max_left n m) hn, denL_mono (fun x v h => den_le ρ (Nat.le_max_right n m) h) hm]
/-- n package variables, the symbols of ρ, and truths that are known. -/
def mkG (n : Nat) (ρ : Nat → Option Value) (dl : List (Value × Bool)) (h : ∀ e b, (e, b) ∈ dl → ∃ m, den ρ m e = some (.bool b)) : Gl where
  n := n
  s := symS ρ
  dl := dl
  ty := by
    rintro e v t ⟨m, hm⟩ ht
    cases m with
    | zero => unfold den at hm; cases hm
    | succ m =>
      unfold den at hm
      split at hm <;> first | (cases hm; done) | skip
      rotate_left
      · cases ht
      rename_i k l xs c t' _
      have : t' = t := by simpa [symTy] using ht
      subst this
      cases l with
      | zero =>
        dsimp only at hm
        split at hm <;> first | (cases hm; done) | skip
        exact (typed_eq.1 hm).2
      | succ l =>
        dsimp only at hm
        split at hm <;> first | (cases hm; done) | skip
        exact (typed_eq.1 hm).2
  cl := by
    intro l xs vs c t v ha hv ht
    obtain ⟨n, hn⟩ := symS_args ha
    refine ⟨n + 1, ?_⟩
    unfold den
    dsimp only
    rw [hn]
    exact typed_eq.2 ⟨hv, ht⟩
  dec := by
    intro e b v hm hs
    exact symS_fn hs (h e b hm)
  fn := fun e v v' h h' => symS_fn h h'
/-- Without symbols. -/
def plainG (n : Nat) : Gl := mkG n (fun _ => none) [] (fun e b h => by cases h)
end Go.Ev
