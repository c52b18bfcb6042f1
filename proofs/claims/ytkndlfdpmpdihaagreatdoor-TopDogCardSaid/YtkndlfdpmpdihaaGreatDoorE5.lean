/- The walker with jumps and ranges over functions; books of calls; what symbols stand for. No conditions beyond those that each statement shows. -/
import Derived.Test.YtkndlfdpmpdihaaGreatDoorE4
import Derived.Test.YtkndlfdpmpdihaaGreatDoorE2
import Derived.RangeFuncLeaves
import Derived.RangeFuncRecord
import Derived.LoopNIn
import Derived.RangeFuncOwn
namespace Go.Ev
open Go.RowKit
set_option linter.unusedVariables false
set_option linter.unusedSimpArgs false

/-- No fence; in a round or not. -/
abbrev Wf (r : Option Nat) : Fence := { Fence.wide with round := r }
theorem wf_none : Wf none = Fence.wide := rfl
theorem wf_round (l : Nat) : Fence.wide.inRound l = Wf (some l) := rfl
theorem stepsIn_W {P : Program} {r : Option Nat} {m m' : Machine} : StepsIn (Machine.fenced P (Wf r)) P m m' ↔ Steps P m m' :=
  ⟨StepsIn.steps, fun h => (StepsIn.of_steps h).mono fun m _ => fenced_wide P m⟩
theorem room_W (r : Option Nat) (n : Nat) : (Wf r).room n := fun _ h => by simp [Wf, Fence.wide] at h
theorem callsIn_W {r : Option Nat} {n : Nat} {P : Program} {f : FuncId} {args : Array Value} {w : World} {R : Ending → World → Prop} : CallsIn (Wf r) n P f args w R ↔ Calls P f args w R :=
  ⟨fun h => (callsIn_wide (n := n)).1 h, fun h => (callsIn_wide (n := n)).2 h⟩
theorem rowsIn_W {r : Option Nat} {n : Nat} {P : Program} {row : String} {args : Array Value} {w : World} {R : Value → World → Prop} (h : Rows P row args w R) : RowsIn (Wf r) n P row args w R :=
  fun c cs _ => let ⟨v, w', q, s⟩ := h c cs; ⟨v, w', q, stepsIn_W.2 s⟩

def nd (a : Act) : Act := { a with defers := [] }
theorem nd_eval (a : Act) : (nd a).eval = a.eval := by funext x; cases x <;> rfl
theorem nd_put (a : Act) (d : Option Tmp) (v : Value) : nd (a.put d v) = (nd a).put d v := by cases d <;> rfl
theorem put_defers (a : Act) (d : Option Tmp) (v : Value) : (a.put d v).defers = a.defers := by cases d <;> rfl
theorem put_with (a : Act) (ds : List Deferred) (d : Option Tmp) (v : Value) : ({ a with defers := ds }).put d v = { a.put d v with defers := ds } := by cases d <;> rfl
theorem eval_with (a : Act) (ds : List Deferred) : ({ a with defers := ds } : Act).eval = a.eval := by funext x; cases x <;> rfl

section
variable {P : Program} {ops : Array Oper} {Q : Exit → Act → World → Prop}

theorem wp_defers {o : Oper} {a : Act} {w : World} {K : Act → World → Prop} (hQ : ∀ e a w, Q e a w → e = .normal) (hK : ∀ a w, a.defers ≠ [] → ¬ K a w) (ha : a.defers ≠ []) : ¬ o.wp P a w K Q := by
  intro h
  unfold Oper.wp Oper.upon at h
  have hp : ∀ v, (a.put o.dst v).defers ≠ [] := fun v => by rw [put_defers]; exact ha
  split at h
  · exact hK _ _ (hp _) h
  · exact hK _ _ (hp _) h
  · exact hK _ _ (by rw [put_defers]; simp) h
  · obtain ⟨e, w', fr, hR, _⟩ := h []
    cases e with
    | returned v => exact hK _ _ (hp _) hR
    | panicked ch => have := hQ _ _ _ hR; cases this
    | outgrown => obtain ⟨a1, w1, hq⟩ := hR; have := hQ _ _ _ hq; cases this
  · obtain ⟨v, w', hR, _⟩ := h default []
    exact hK _ _ (hp _) hR
  · have := hQ _ _ _ h; cases this
  · exact h
theorem no_letsOut (hQ : ∀ e a w, Q e a w → e = .normal) : ¬ LetsOut Q := by
  rintro ⟨a1, w1, hq⟩
  have := hQ _ _ _ hq; cases this
theorem wpOps_defers (hQ : ∀ e a w, Q e a w → e = .normal ∧ a.defers = []) : ∀ (l : List Nat) (a : Act) (w : World), a.defers ≠ [] → ¬ wpOps P ops Q l a w
  | [], a, w, ha, h => ha (hQ _ _ _ h).2
  | i :: rest, a, w, ha, h => by
    unfold wpOps at h
    split at h
    · exact wpOps_defers hQ rest a w ha h
    · split at h
      · rcases h with h | h
        · exact wp_defers (fun e a w hq => (hQ e a w hq).1) (fun a w hd => wpOps_defers hQ rest a w hd) ha h
        · exact no_letsOut (fun e a w hq => (hQ e a w hq).1) h.2
      · exact wpOps_defers hQ rest _ w (by rw [put_defers]; exact ha) h

/-- One operation, in whatever frame. -/
theorem lift_op {r : Option Nat} {o : Oper} {a : Act} {w : World} {K K' : Act → World → Prop} {Q' : Exit → Act → World → Prop} (ds : List Deferred) (hnd : ∀ c, o.op ≠ .defer c) (ha : a.defers = []) (hQ : ∀ e a w, Q e a w → e = .normal)
    (hK0 : ∀ a w, a.defers ≠ [] → ¬ K a w) (hK : ∀ v w', K (a.put o.dst v) w' → K' ({ a.put o.dst v with defers := ds }) w') (h : o.wp P a w K Q) : o.wpIn (Wf r) 0 P { a with defers := ds } w K' Q' := by
  unfold Oper.wpIn
  refine ⟨fun _ _ => trivial, ?_⟩
  rw [Oper.semAt_eq _ _ _ hnd, eval_with]
  unfold Oper.wp Oper.upon at h
  unfold Oper.uponIn
  generalize (execOp a.eval o).run P w = res at h ⊢
  have hno : ∀ b : Bool, (Wf r).depth.isSome = true → 1 ≤ 0 := fun _ hh => by simp [Fence.wide] at hh
  cases res with
  | ok n w' =>
    cases n with
    | value v => dsimp only at h ⊢; rw [put_with]; exact hK _ _ h
    | skip => dsimp only at h ⊢; rw [put_with]; exact hK _ _ h
    | defer d => exact absurd h (hK0 _ _ (by rw [put_defers]; simp))
    | enter f args =>
      refine ⟨hno true, (callsIn_W (n := 0 - 1)).2 (Calls.mono h ?_)⟩
      intro e w2 hR
      cases e with
      | returned v => dsimp only at hR ⊢; rw [put_with]; exact hK _ _ hR
      | panicked ch => have := hQ _ _ _ hR; cases this
      | outgrown => exact absurd hR (no_letsOut hQ)
    | row rw0 args =>
      refine ⟨hno true, rowsIn_W (Rows.mono h ?_)⟩
      intro v w2 hR
      rw [put_with]; exact hK _ _ hR
    | _ => exact h.elim
  | halt x w' =>
    cases x with
    | panic v => have := hQ _ _ _ h; cases this
    | _ => exact h.elim

/-- A region, in whatever frame. -/
theorem lift_ops {r : Option Nat} (ds : List Deferred) (hnd : ∀ (i : Nat) (o : Oper), ops[i]? = some o → ∀ c, o.op ≠ .defer c) (hQ : ∀ e a w, Q e a w → e = .normal ∧ a.defers = []) {Z : Act → Prop} (hZ : ∀ (i : Nat) (o : Oper) (a : Act) (v : Value), ops[i]? = some o → Z a → Z (a.put o.dst v)) :
    ∀ (l : List Nat) (a : Act) (w : World), a.defers = [] → Z a → wpOps P ops Q l a w → wpOpsIn (Wf r) 0 P ops (fun e a2 w2 => ∃ a0, Q e a0 w2 ∧ Z a0 ∧ a2 = { a0 with defers := ds }) l { a with defers := ds } w
  | [], a, w, ha, hz, h => ⟨a, h, hz, rfl⟩
  | i :: rest, a, w, ha, hz, h => by
    unfold wpOps at h
    unfold wpOpsIn
    cases ho : ops[i]? with
    | none => rw [ho] at h; exact lift_ops ds hnd hQ hZ rest a w ha hz h
    | some o =>
      rw [ho] at h
      dsimp only at h ⊢
      split at h
      · rename_i hw
        rw [if_pos hw]
        rcases h with h | h
        · refine lift_op ds (hnd i o ho) ha (fun e a w hq => (hQ e a w hq).1) (fun a w hd => wpOps_defers hQ rest a w hd) ?_ h
          intro v w' hk
          exact lift_ops ds hnd hQ hZ rest _ w' (by rw [put_defers]; exact ha) (hZ i o a v ho hz) hk
        · exact absurd h.2 (no_letsOut (fun e a w hq => (hQ e a w hq).1))
      · rename_i hw
        rw [if_neg hw]
        refine ⟨fun _ _ => trivial, ?_⟩
        rw [put_with]
        exact lift_ops ds hnd hQ hZ rest _ w (by rw [put_defers]; exact ha) (hZ i o a undef ho hz) h
end

section scope
variable {P : Program} {b : Frame} {a : Act} {k : List Item} {cs : List Frame} {w : World}
theorem stepR_scope {c : Code} : step P (lone (b.atR a (.code (.scope c) :: k)) cs w) = .next (lone (b.atR a (.code c :: .inScope c :: k)) cs w) :=
  step_lone_go (by simp [stepG, stepG.exec, Frame.atR])
theorem stepR_inScope {c : Code} : step P (lone (b.atR a (.inScope c :: k)) cs w) = .next (lone (b.atR a k) cs w) :=
  step_lone_go (by simp [stepG, stepG.exec, Frame.atR])
/-- A scope, run from a place in it, with so many jumps at most. -/
def scopeIn (F : Fence) (n : Nat) (P : Program) (c : Code) (Q : Exit → Act → World → Prop) : Nat → Code → Act → World → Prop
  | 0, _, _, _ => False
  | m + 1, d, a, w => d.wpIn F n P (fun e a' w' => match e with | .goto l => ∃ rest, findLabel c l = some rest ∧ scopeIn F n P c Q m rest a' w' | e => Q e a' w') a w
theorem wpIn_scope {F : Fence} {n : Nat} {c : Code} {Q : Exit → Act → World → Prop} (m : Nat) (h : scopeIn F n P c Q m c a w) : (Code.scope c).wpIn F n P Q a w := by
  intro b k cs hro hb hr
  have hx : ∀ id, exitTo id (.inScope c :: k) = exitTo id k := fun id => by simp [exitTo]
  have key : ∀ m d a w, scopeIn F n P c Q m d a w → ∃ e a' w', Q e a' w' ∧ ArrivesIn (Machine.fenced P F) P (lone (b.atR a (.code d :: .inScope c :: k)) cs w) b k cs e a' w' := by
    intro m
    induction m with
    | zero => intro d a w h; exact h.elim
    | succ m ih =>
      intro d a w h
      obtain ⟨e, a₁, w₁, hq, harr⟩ := h b (.inScope c :: k) cs hro hb hr
      cases e with
      | normal => exact ⟨.normal, a₁, w₁, hq, StepsIn.trans harr (.one (fenced_calm hb hr rfl) stepR_inScope)⟩
      | exit id => exact ⟨.exit id, a₁, w₁, hq, fun k' hk => harr.1 k' (by rw [hx]; exact hk), fun hr' hk => harr.2 hr' (by rw [hx]; exact hk)⟩
      | goto l =>
        obtain ⟨rest, hf, hs⟩ := hq
        have hg : gotoIn l (.inScope c :: k) = some (.code rest :: .inScope c :: k) := by simp [gotoIn, hf]
        obtain ⟨e₂, a₂, w₂, hq₂, harr₂⟩ := ih rest a₁ w₁ hs
        exact ⟨e₂, a₂, w₂, hq₂, .of_steps (harr.1 _ hg) harr₂⟩
      | ret => exact ⟨_, a₁, w₁, hq, harr⟩
      | panic ch => exact ⟨_, a₁, w₁, hq, harr⟩
      | outgrown => exact ⟨_, a₁, w₁, hq, harr⟩
  obtain ⟨e, a', w', hq, harr⟩ := key m c a w h
  exact ⟨e, a', w', hq, .of_steps (.one (fenced_calm hb hr rfl) stepR_scope) harr⟩
end scope
end Go.Ev
namespace Go.Ev
open Go.RowKit
set_option linter.unusedVariables false
set_option linter.unusedSimpArgs false

/-- Truths that are taken for known. -/
noncomputable def truthK (G : Gl) (v : Value) : Option Bool := match v with
  | .bool b => some b
  | .func (.yield _) _ _ => knownB G.dl v
  | _ => none
theorem truthK_spec {G : Gl} {τ : Rel} {v v' : Value} {b : Bool} (h : truthK G v = some b) (hs : τ.s = G.s) (hv : VR τ v v') : v' = .bool b := by
  cases hv <;> first | (cases h; done) | skip
  · cases h; rfl
  · rename_i fn xs ys us vs hf _ _ _ _
    cases fn <;> first | (cases h; done) | exact absurd rfl (hf _)
  · rename_i l xs ys h1 h2
    rw [hs] at h1
    exact G.dec _ _ _ (knownB_spec h) h1
noncomputable def condK (G : Gl) (a : Env) (c : Operand) : Option Bool := match c with
  | .tmp _ => truthK G (a.eval c)
  | c => match a.eval c with
    | .bool b => some b
    | _ => none


/-- What a frame is: a function's, no range over a function behind it, or one; a round's; an iterator's, with the jump that its loop is left by. -/
inductive FSt where
  | fresh
  | marked
  | round
  | iter (ys : List Nat) (p : Option Code)
/-- A round, asked for by its arguments: none: the loop goes on; or by which jump it is left. -/
abbrev Rd := List Value → TW → Option (Option Code × TW)
/-- An iterator, by what it has captured. -/
abbrev EvI := FuncId → Array Value → Rd → TW → Option (Option Code × TW)

def regNd (ops : Array Oper) : Bool := ops.toList.all fun o => match o.op with | .defer _ => false | _ => true
/-- It writes to no temporary that holds the yield. -/
def offY (s : FSt) (d : Option Tmp) : Bool := match s with
  | .iter ys _ => match d with | some d => !(ys.any (Nat.beq d)) | none => true
  | _ => true
def regOk (s : FSt) (ops : Array Oper) : Bool := regNd ops && (match s with
  | .iter ys p => ops.toList.all fun o => offY (.iter ys p) o.dst
  | _ => true)
/-- A round is asked for. -/
def yieldOf (s : FSt) (o : Oper) : Option (List Nat × List Operand) := match s with
  | .iter ys none => match o.op with
    | .call ⟨.value (.tmp t), args, _⟩ => match ys.any (Nat.beq t) with | true => some (ys, args.toList) | false => none
    | _ => none
  | _ => none
/-- The yield goes to one temporary more. -/
def moveOf (s : FSt) (o : Oper) : Option (Nat × List Nat × Option Code) := match s with
  | .iter ys p => match o.op, o.dst with
    | .move (.tmp t), some d => match ys.any (Nat.beq t) with | true => some (d, ys, p) | false => none
    | _, _ => none
  | _ => none
def putsK {β : Type} : List Tmp → List Value → Env → (Env → Option β) → Option β
  | [], [], e, k => k e
  | t :: ts, v :: vs, e, k => match e.fits (some t) with
    | true => putK e (some t) v fun e' => putsK ts vs e' k
    | false => none
  | _, _, _, _ => none

section ev
variable (P : Program) (G : Gl) (ev : EvF) (evi : EvI) (rd : Rd)
noncomputable def stepOpsX (ops : Array Oper) : List Nat → FSt → Env → TW → Option (FSt × Env × TW)
  | [], s, e, w => some (s, e, w)
  | i :: rest, s, e, w => match ops[i]? with
    | none => stepOpsX ops rest s e w
    | some o => match e.fits o.dst with
      | false => none
      | true => match wantedE ops e o with
        | some true => match moveOf s o with
          | some (d, ys, p) => match look e.l d with
            | none => stepOpsX ops rest (.iter (d :: ys) p) e w
            | some _ => none
          | none => match offY s o.dst with
            | true => match yieldOf s o with
              | some (ys, xs) => match xs.all (e.ok G) with
                | true => match forceL (forceV 20) (xs.map e.eval) (fun vs => rd vs w) with
                  | some (c, w') => putK e o.dst (.bool c.isNone) fun e' => stepOpsX ops rest (.iter ys c) e' w'
                  | none => none
                | false => none
              | none => match stepV P G (specT P) ev o e w with
                | some (v, w') => putK e o.dst v fun e' => stepOpsX ops rest s e' w'
                | none => none
            | false => none
        | some false => match offY s o.dst with
          | true => putK e o.dst undef fun e' => stepOpsX ops rest s e' w
          | false => none
        | none => none
abbrev Bd := FSt → Env → TW → Option (Exit × FSt × Env × TW)
noncomputable def evalLoopX (body : Bd) : Nat → Bd
  | 0, _, _, _ => none
  | n + 1, s, a, w => match body s a w with
    | some (.normal, s', a', w') => evalLoopX body n s' a' w'
    | r => r
noncomputable def evalScopeX (run : Code → Bd) (c : Code) : Nat → Code → Bd
  | 0, _, _, _, _ => none
  | m + 1, d, s, a, w => match run d s a w with
    | some (.goto l, s', a', w') => match findLabel c l with
      | some rest => evalScopeX run c m rest s' a' w'
      | none => none
    | r => r
noncomputable def evalCodeX (dr : DrawnT) : Nat → Code → Bd
  | 0, _, _, _, _ => none
  | n + 1, c, s, a, w => match c with
    | .skip => some (.normal, s, a, w)
    | .label _ => some (.normal, s, a, w)
    | .ret => some (.ret, s, a, w)
    | .exit id => some (.exit id, s, a, w)
    | .goto l => some (.goto l, s, a, w)
    | .region _ ops false => match regNd ops with
      | true => match stepOpsX P G ev rd ops (List.range ops.size) s a w with
        | some (s', a', w') => some (.normal, s', a', w')
        | none => none
      | false => none
    | .region _ ops true => match regOk s ops with
      | true => match dr ops a w with
        | some (a', w') => some (.normal, s, a', w')
        | none => none
      | false => none
    | .seq x y => match evalCodeX dr n x s a w with
      | some (.normal, s', a', w') => evalCodeX dr n y s' a' w'
      | r => r
    | .cond c x y => match condK G a c with
      | some true => evalCodeX dr n x s a w
      | some false => evalCodeX dr n y s a w
      | none => none
    | .block id body => match evalCodeX dr n body s a w with
      | some (.exit k, s', a', w') => if k = id then some (.normal, s', a', w') else some (.exit k, s', a', w')
      | r => r
    | .loop body => evalLoopX (evalCodeX dr n body) n s a w
    | .scope body => evalScopeX (evalCodeX dr n) body n body s a w
    | .rangeFunc g ps assign body => match s, a.ok G g, a.eval g with
      | .fresh, true, .func (.func gf) ⟨[]⟩ lb =>
        match evi gf lb (fun vals w => putsK ps.toList vals a fun a1 => match evalCodeX dr n assign .round a1 w with
          | some (.normal, _, a2, w2) => match evalCodeX dr n body .round a2 w2 with
            | some (.normal, _, _, w3) => some (none, w3)
            | some (.ret, _, _, w3) => some (some .ret, w3)
            | some (.exit id, _, _, w3) => some (some (.exit id), w3)
            | some (.goto l, _, _, w3) => some (some (.goto l), w3)
            | _ => none
          | _ => none) w with
        | some (none, w') => some (.normal, .marked, a, w')
        | some (some .ret, w') => some (.ret, .marked, a, w')
        | some (some (.exit id), w') => some (.exit id, .marked, a, w')
        | some (some (.goto l), w') => some (.goto l, .marked, a, w')
        | _ => none
      | _, _, _ => none
    | .refuse _ => none
end ev

def stOf : Option Rd → FSt
  | none => .fresh
  | some _ => .iter [0] none
noncomputable def rdOf : Option Rd → Rd
  | none => fun _ _ => none
  | some rd => rd
def envOf (r : Option Rd) (fn : Func) (args : Array Value) : Env := match r with
  | none => ⟨args.size + (fn.ntmps - args.size), argsL 0 args.toList⟩
  | some _ => ⟨1 + args.size + (fn.ntmps - (1 + args.size)), argsL 1 args.toList⟩
/-- A function's run, an iterator's if it is told how rounds go. -/
noncomputable def evalX (P : Program) (G : Gl) (dr : EvF → DrawnT) (book : EvF) (fuel : Nat) : Nat → Option Rd → FuncId → Array Value → TW → Option (Value × FSt × TW)
  | 0, _, _, _, _ => none
  | n + 1, r, f, args, w => match (match r with | none => book f args w | some _ => none) with
    | some (v, w) => some (v, .fresh, w)
    | none => match P.funcs[f]? with
      | none => none
      | some fn => match (match r with | none => false | some _ => fn.name == "runtime.NumGoroutine"), fn.body with
        | false, some body =>
          match evalCodeX P G (fun f args w => match evalX P G dr book fuel n none f args w with | some (v, .fresh, w) => some (v, w) | some (v, .marked, w) => some (v, w) | _ => none)
              (fun f lb rd w => match evalX P G dr book fuel n (some rd) f lb w with | some (_, .iter _ p, w) => some (p, w) | _ => none) (rdOf r)
              (dr (fun f args w => match evalX P G dr book fuel n none f args w with | some (v, .fresh, w) => some (v, w) | some (v, .marked, w) => some (v, w) | _ => none)) fuel body (stOf r) (envOf r fn args) w with
          | some (.ret, s, e, w) => match e.has (resTmps fn) with
            | true => match runW P (results fn (e.row (resTmps fn))) w with
              | some (v, w) => forceV 20 v fun v => some (v, s, w)
              | none => none
            | false => none
          | some (.normal, s, e, w) => match e.has (resTmps fn) with
            | true => match runW P (results fn (e.row (resTmps fn))) w with
              | some (v, w) => forceV 20 v fun v => some (v, s, w)
              | none => none
            | false => none
          | _ => none
        | _, _ => none
noncomputable def evFn (P : Program) (G : Gl) (dr : EvF → DrawnT) (book : EvF) (fuel n : Nat) : EvF := fun f args w => match evalX P G dr book fuel n none f args w with
  | some (v, .fresh, w) => some (v, w)
  | some (v, .marked, w) => some (v, w)
  | _ => none
noncomputable def evIt (P : Program) (G : Gl) (dr : EvF → DrawnT) (book : EvF) (fuel n : Nat) : EvI := fun f lb rd w => match evalX P G dr book fuel n (some rd) f lb w with
  | some (_, .iter _ p, w) => some (p, w)
  | _ => none

section wt
variable {G : Gl} {B B' : FM} {w0 : World} {τ : Rel} {wa : TW} {w : World}
/-- Such a block turns. -/
theorem WT.turn (h : WT G B w0 τ wa w) {r : Nat} {o' u : Obj} (hr : B r = some u) (hu : u.isCells = false) (hB : ∀ j, j ≠ r → B' j = B j) (hr' : B' r = none ∨ B' r = some o') : WT G B' w0 τ wa (w.putObj r o') := by
  obtain ⟨H, hR, h⟩ := h
  have hh := h.kp.block r u hr
  have hl := (Array.getElem?_eq_some_iff.1 hh).1
  have old : ∀ {j : Nat}, j ≠ r → (w.putObj r o').heap[j]? = w.heap[j]? := fun {j} hj => World.putObj_heap_other hj
  refine ⟨H, hR, fun k v hk hv => ?_, h.fn, h.inj, fun k r2 i x => ?_, h.ok, fun k cs e hk => ?_, h.glob, ?_, h.sy⟩
  · obtain ⟨r2, i, o2, h1, h2, h3⟩ := h.blk k v hk hv
    have hn := (h.dom _ _ _ h1).2.2 ⟨v, hk, hv⟩
    exact ⟨r2, i, o2, h1, by rw [old (fun e => by rw [e, hr] at hn; cases hn)]; exact h2, h3⟩
  · obtain ⟨a, b, c⟩ := h.dom _ _ _ x
    refine ⟨a, by simp [World.putObj]; exact b, fun l => ?_⟩
    have hn := c l
    rw [hB r2 (fun e => by rw [e, hr] at hn; cases hn)]; exact hn
  · obtain ⟨r2, i, cs', e', f, h1, h2, h3, h4, h5⟩ := h.old k cs e hk
    have hne : r2 ≠ r := fun e => by
      rw [e, hh] at h2
      cases h2
      cases hu
    exact ⟨r2, i, cs', e', f, h1, by rw [old hne]; exact h2, h3, h4, h5.imp id fun hb => by rw [hB r2 hne]; exact hb⟩
  · refine ⟨h.kp.os, h.kp.tape, h.kp.output, by simp [World.putObj]; exact h.kp.size, fun j v hj => ?_⟩
    by_cases e : j = r
    · subst e
      rcases hr' with q | q
      · rw [q] at hj; cases hj
      · rw [q] at hj; cases hj
        exact World.putObj_heap_same hl
    · rw [old e]
      rw [hB j e] at hj
      exact h.kp.block j v hj
end wt
end Go.Ev
namespace Go.Ev
open Go.RowKit
set_option linter.unusedVariables false
set_option linter.unusedSimpArgs false

/-- What lay when a frame began; of an iterator: its loop, and the loop's record. -/
structure Ctx where
  B0 : FM
  L : Nat
  rc : Option Code → Loop
def yv (L : Nat) : Value := .func (.yield L) #[] #[]
def RdOk (P : Program) (G : Gl) (w0 : World) (rd : Rd) (C : Ctx) (τ0 : Rel) : Prop := ∀ vals wa c wa2, rd vals wa = some (c, wa2) → ∀ (τ : Rel) (vals' : List Value) (wr : World), τ0.le τ → AR τ ⟨vals⟩ ⟨vals'⟩ → WT G (upd C.B0 C.L (some (.loop (C.rc none)))) w0 τ wa wr →
  ∃ fn tmps assign body, (Instr.yield C.L ⟨vals'⟩).run P wr = .ok (.round C.L fn tmps assign body) wr ∧ RoundIn (Wf none) 0 P C.L fn tmps assign body wr fun e wr' => ∃ τ', e = .returned (.bool c.isNone) ∧ τ.le τ' ∧ WT G (upd C.B0 C.L (some (.loop (C.rc c)))) w0 τ' wa2 wr'
abbrev mk0 (D : Nat) : Obj := .deferred (some [])
def Fr (P : Program) (G : Gl) (w0 : World) (rd : Rd) (C : Ctx) (τ0 : Rel) (r : Option Nat) (B : FM) (a' : Act) : FSt → Prop
  | .fresh => r = none ∧ a'.defers = [] ∧ B = C.B0
  | .marked => r = none ∧ ∃ D, C.B0 D = none ∧ a'.defers = [{ target := .collected D, args := #[] }] ∧ B = upd C.B0 D (some (.deferred (some [])))
  | .round => (∃ l, r = some l) ∧ a'.defers = [] ∧ B = C.B0
  | .iter ys p => r = none ∧ a'.defers = [] ∧ B = upd C.B0 C.L (some (.loop (C.rc p))) ∧ (∀ y ∈ ys, a'.tmps.getD y undef = yv C.L) ∧ RdOk P G w0 rd C τ0
theorem getD_put_ne {a : Act} {d : Option Tmp} {v : Value} {y : Nat} (h : d ≠ some y) : (a.put d v).tmps.getD y undef = a.tmps.getD y undef := by
  cases d with
  | none => rfl
  | some d =>
    have : d ≠ y := fun e => h (by rw [e])
    simp only [Act.put, Array.getD_eq_getD_getElem?]
    rw [Array.getElem?_setIfInBounds_ne this]
theorem offY_ne {ys : List Nat} {p : Option Code} {d : Option Tmp} (h : offY (.iter ys p) d = true) {y : Nat} (hy : y ∈ ys) : d ≠ some y := by
  rintro rfl
  have h : (!(ys.any (Nat.beq y))) = true := h
  have : ys.any (Nat.beq y) = true := List.any_eq_true.2 ⟨y, hy, Nat.beq_refl y⟩
  rw [this] at h; cases h
theorem any_mem {ys : List Nat} {t : Nat} (h : ys.any (Nat.beq t) = true) : t ∈ ys := by
  obtain ⟨y, hy, e⟩ := List.any_eq_true.1 h
  rw [Nat.eq_of_beq_eq_true e]; exact hy

section sound
variable {P : Program} {G : Gl} {ev : EvF} {rd : Rd} {C : Ctx} {τ0 : Rel} {w0 : World} {r : Option Nat}
theorem Fr.put {B : FM} {a' : Act} {s : FSt} (h : Fr P G w0 rd C τ0 r B a' s) {d : Option Tmp} (hd : offY s d = true) (v : Value) : Fr P G w0 rd C τ0 r B (a'.put d v) s := by
  cases s with
  | fresh => exact ⟨h.1, by rw [put_defers]; exact h.2.1, h.2.2⟩
  | marked =>
    obtain ⟨h1, D, h2, h3, h4⟩ := h
    exact ⟨h1, D, h2, by rw [put_defers]; exact h3, h4⟩
  | round => exact ⟨h.1, by rw [put_defers]; exact h.2.1, h.2.2⟩
  | iter ys p =>
    obtain ⟨h1, h2, h3, h4, h5⟩ := h
    exact ⟨h1, by rw [put_defers]; exact h2, h3, fun y hy => by rw [getD_put_ne (offY_ne hd hy)]; exact h4 y hy, h5⟩
theorem regNd_nd {ops : Array Oper} (h : regNd ops = true) (i : Nat) (o : Oper) (ho : ops[i]? = some o) (c : Call) : o.op ≠ .defer c := by
  have := List.all_eq_true.1 h o (by simpa using Array.mem_of_getElem? ho)
  intro e
  rw [e] at this
  cases this
theorem regOk_nd {s : FSt} {ops : Array Oper} (h : regOk s ops = true) : regNd ops = true := by
  unfold regOk at h
  rw [Bool.and_eq_true] at h
  exact h.1
theorem regOk_off {ys : List Nat} {p : Option Code} {ops : Array Oper} (h : regOk (.iter ys p) ops = true) (i : Nat) (o : Oper) (ho : ops[i]? = some o) : offY (.iter ys p) o.dst = true := by
  unfold regOk at h
  rw [Bool.and_eq_true] at h
  exact List.all_eq_true.1 h.2 o (by simpa using Array.mem_of_getElem? ho)
theorem act_eta (a : Act) : ({ nd a with defers := a.defers } : Act) = a := rfl
theorem nd_of (a : Act) (h : a.defers = []) (ds : List Deferred) : nd { a with defers := ds } = a := by cases a; simp only at h; subst h; rfl

theorem yieldOf_spec {s : FSt} {o : Oper} {ys : List Nat} {xs : List Operand} (h : yieldOf s o = some (ys, xs)) : s = .iter ys none ∧ ∃ t args ts, t ∈ ys ∧ o.op = .call ⟨.value (.tmp t), args, ts⟩ ∧ xs = args.toList := by
  unfold yieldOf at h
  split at h <;> first | (cases h; done) | skip
  split at h <;> first | (cases h; done) | skip
  rename_i t args ts hop
  split at h <;> first | (cases h; done) | skip
  rename_i ha
  cases h
  exact ⟨rfl, t, args, ts, any_mem ha, hop, rfl⟩
theorem moveOf_spec {s : FSt} {o : Oper} {d : Nat} {ys : List Nat} {p : Option Code} (h : moveOf s o = some (d, ys, p)) : s = .iter ys p ∧ ∃ t, t ∈ ys ∧ o.op = .move (.tmp t) ∧ o.dst = some d := by
  unfold moveOf at h
  split at h <;> first | (cases h; done) | skip
  split at h <;> first | (cases h; done) | skip
  rename_i t d2 hop hd
  split at h <;> first | (cases h; done) | skip
  rename_i ha
  cases h
  exact ⟨rfl, t, any_mem ha, hop, hd⟩
theorem run_yieldOp {o : Oper} {t : Nat} {args : Array Operand} {ts : Array TypeId} {a : Act} {L : Nat} {w : World} {n : Next} (ho : o.op = .call ⟨.value (.tmp t), args, ts⟩) (ha : a.tmps.getD t undef = yv L) (hy : (Instr.yield L (args.map a.eval)).run P w = .ok n w) : (execOp a.eval o).run P w = .ok n w := by
  have he : a.eval (.tmp t) = yv L := ha
  unfold execOp
  rw [ho]
  simp only [resolve, he, yv]
  simp [go_sem, invoke, hy]
theorem run_moveOp {o : Oper} {x : Operand} {a : Act} {w : World} (ho : o.op = .move x) : (execOp a.eval o).run P w = .ok (.value (a.eval x)) w := by
  unfold execOp
  rw [ho]
  rfl

theorem ar_map {τ : Rel} {a : Env} {a' : Act} {xs : List Operand} (h : ∀ x ∈ xs, VR τ (a.eval x) (a'.eval x)) : AR τ ⟨xs.map a.eval⟩ ⟨xs.map a'.eval⟩ := by
  refine ⟨by simp, fun i v v' h1 h2 => ?_⟩
  simp only [List.getElem?_toArray, List.getElem?_map, Option.map_eq_some_iff] at h1 h2
  obtain ⟨x, hx, rfl⟩ := h1
  obtain ⟨y, hy, rfl⟩ := h2
  rw [hx] at hy; cases hy
  exact h x (List.mem_of_getElem? hx)

theorem stepOpsX_sound (hev : EvOkT P G ev) (ops : Array Oper) (hreg : regNd ops = true) : ∀ (l : List Nat) {s s2 : FSt} {a a2 : Env} {wa wa2 : TW}, stepOpsX P G ev rd ops l s a wa = some (s2, a2, wa2) →
    ∀ {B : FM} {τ : Rel} {a' : Act} {wr : World}, τ0.le τ → EnvR τ a (nd a') → Fr P G w0 rd C τ0 r B a' s → WT G B w0 τ wa wr →
    ∀ {Q : Exit → Act → World → Prop}, (∀ τ' B' a2' wr', τ.le τ' → EnvR τ' a2 (nd a2') → Fr P G w0 rd C τ0 r B' a2' s2 → WT G B' w0 τ' wa2 wr' → Q .normal a2' wr') → wpOpsIn (Wf r) 0 P ops Q l a' wr := by
  intro l
  induction l with
  | nil =>
    intro s s2 a a2 wa wa2 h B τ a' wr h0 ha hf hw Q hQ
    simp only [stepOpsX, Option.some.injEq, Prod.mk.injEq] at h
    obtain ⟨rfl, rfl, rfl⟩ := h
    exact hQ τ B _ _ (Rel.le.refl _) ha hf hw
  | cons i rest ih =>
    intro s s2 a a2 wa wa2 h B τ a' wr h0 ha hf hw Q hQ
    unfold stepOpsX at h
    unfold wpOpsIn
    cases ho : ops[i]? with
    | none => rw [ho] at h; exact ih h h0 ha hf hw hQ
    | some o =>
      rw [ho] at h
      dsimp only at h ⊢
      split at h <;> first | (cases h; done) | skip
      rename_i hfit
      split at h
      · rename_i hwant
        have hwant' : Region.wanted o (yielded ops a'.tmps) = true := wantedE_spec (a' := nd a') hwant ha
        rw [if_pos hwant']
        split at h
        · rename_i d ys p hm
          obtain ⟨rfl, t, hty, hop, hdst⟩ := moveOf_spec hm
          split at h <;> first | (cases h; done) | skip
          rename_i hlk
          obtain ⟨rfl, f2, rfl, f4, f5⟩ := hf
          refine ⟨fun _ _ => trivial, ?_⟩
          rw [Oper.semAt_none, run_moveOp hop, Oper.uponIn_value]
          have hv : a'.eval (.tmp t) = yv C.L := f4 t hty
          rw [hv, hdst]
          rw [hdst] at hfit
          have hlt : d < a'.tmps.size := by
            have h1 := fits_lt hfit
            have h2 := ha.size
            have h3 : a'.tmps.size = a.n := h2
            omega
          refine ih (s := .iter (d :: ys) p) h h0 ?_ ⟨rfl, by rw [put_defers]; exact f2, rfl, ?_, f5⟩ hw hQ
          · rw [nd_put]
            refine ⟨fun y u hu => ?_, by simp [Act.put]; exact ha.size, rfl⟩
            have hne : some d ≠ some y := fun e => by cases e; rw [hlk] at hu; cases hu
            rw [getD_put_ne hne]
            exact ha.tmps y u hu
          · intro y hy
            by_cases e : d = y
            · subst e
              simp only [Act.put, Array.getD_eq_getD_getElem?]
              rw [Array.getElem?_setIfInBounds_self, if_pos hlt]; rfl
            · rw [getD_put_ne (fun x => e (Option.some.inj x))]
              rcases List.mem_cons.1 hy with h' | h'
              · exact absurd h'.symm e
              · exact f4 y h'
        · rename_i hmv
          split at h <;> first | (cases h; done) | skip
          rename_i hoff
          split at h
          · rename_i ys xs hy
            obtain ⟨rfl, t, args, ts, hty, hop, rfl⟩ := yieldOf_spec hy
            split at h <;> first | (cases h; done) | skip
            rename_i hok
            rw [forceL_eq _ (forceV_eq 20)] at h
            split at h <;> first | (cases h; done) | skip
            rename_i c w' hrd
            rw [putK_eq] at h
            obtain ⟨rfl, f2, rfl, f4, f5⟩ := hf
            have hvr : ∀ x ∈ args.toList, VR τ (a.eval x) (a'.eval x) := fun x hx => by
              have := ha.eval hw.glob x (List.all_eq_true.1 hok x hx)
              rw [nd_eval] at this; exact this
            obtain ⟨fn, tmps, assign, body, y1, y2⟩ := f5 _ _ _ _ hrd τ _ wr h0 (ar_map hvr) hw
            have y1' : (Instr.yield C.L (args.map a'.eval)).run P wr = .ok (.round C.L fn tmps assign body) wr := by
              have e : args.map a'.eval = ⟨args.toList.map a'.eval⟩ := by cases args; simp
              rw [e]; exact y1
            have hrun := run_yieldOp hop (f4 t hty) y1'
            refine ⟨fun _ _ => trivial, ?_⟩
            rw [Oper.semAt_none, hrun, Oper.uponIn_round]
            refine ⟨fun hh => by simp [Fence.wide] at hh, y2.mono ?_⟩
            rintro e w2 ⟨τ', rfl, l1, hw2⟩
            dsimp only
            refine ih (s := .iter ys c) h (h0.trans l1) ?_ ?_ hw2 (fun τ2 B' a2' wr' l2 h2 h3 h4 => hQ τ2 B' a2' wr' (l1.trans l2) h2 h3 h4)
            · rw [nd_put]; exact (ha.mono l1).put o.dst hfit (.bool _)
            · have hf' : Fr P G w0 rd C τ0 none (upd C.B0 C.L (some (.loop (C.rc c)))) a' (.iter ys c) := ⟨rfl, f2, rfl, f4, f5⟩
              exact hf'.put hoff _
          · rename_i hy
            split at h <;> first | (cases h; done) | skip
            rename_i v w' hst
            rw [putK_eq] at h
            have hv : ∀ x ∈ o.op.operands, a.ok G x = true → VR τ (a.eval x) ((nd a').eval x) := fun x _ hx => ha.eval hw.glob x hx
            have hwp := stepV_sound (K := fun a2 w2 => ∃ τ' v', τ.le τ' ∧ VR τ' v v' ∧ WT G B w0 τ' w' w2 ∧ a2 = (nd a').put o.dst v') (Q := fun _ _ _ => False) hev hst hv hw (fun τ' v' wr' l1 hvv hw' => ⟨τ', v', l1, hvv, hw', rfl⟩)
            have := lift_op (r := r) (K' := wpOpsIn (Wf r) 0 P ops Q rest) (Q' := Q) a'.defers (regNd_nd hreg i o ho) rfl (fun e a w hq => hq.elim) ?_ ?_ hwp
            · exact this
            · rintro a3 w3 hd ⟨τ', v', _, _, _, rfl⟩
              exact hd (by rw [put_defers]; rfl)
            · rintro v0 w3 ⟨τ', v', l1, hvv, hw3, he⟩
              rw [he]
              have e1 : ({ (nd a').put o.dst v' with defers := a'.defers } : Act) = a'.put o.dst v' := by cases o.dst <;> rfl
              rw [e1]
              refine ih h (h0.trans l1) ?_ (hf.put hoff v') hw3 (fun τ2 B' a2' wr' l2 h2 h3 h4 => hQ τ2 B' a2' wr' (l1.trans l2) h2 h3 h4)
              rw [nd_put]; exact (ha.mono l1).put o.dst hfit hvv
      · rename_i hwant
        have hwant' : Region.wanted o (yielded ops a'.tmps) = false := wantedE_spec (a' := nd a') hwant ha
        rw [if_neg (by rw [hwant']; simp)]
        split at h <;> first | (cases h; done) | skip
        rename_i hoff
        rw [putK_eq] at h
        refine ⟨fun _ _ => trivial, ?_⟩
        refine ih h h0 ?_ (hf.put hoff undef) hw hQ
        rw [nd_put]; exact ha.put o.dst hfit (undef_vr _)
      · cases h

/-- What the drawn regions have to show, operation by operation. -/
def DrOkW (P : Program) (G : Gl) (dr : DrawnT) : Prop := ∀ ops a a2 wa wa2, dr ops a wa = some (a2, wa2) → ∀ B w0 τ a' wr, EnvR τ a a' → WT G B w0 τ wa wr →
  ∀ t, wpOps P ops (QN fun e a2' wr' => e = .normal ∧ ∃ τ', τ.le τ' ∧ EnvR τ' a2 a2' ∧ WT G B w0 τ' wa2 wr') (Region.schedule (P.follows .mixedOrders) ops t) a' { wr with drawn := wr.drawn + 1 }
theorem evalDrawnP_okW (hm : P.follows .mixedOrders = true) (ev : EvF) (hev : EvOkT P G ev) : DrOkW P G (evalDrawnP P G ev) := by
  intro ops a a2 wa wa2 h B w0 τ a' wr ha hw t
  have hQ : ∀ τ' a2' wr', τ.le τ' → EnvR τ' a2 a2' → WT G B w0 τ' wa2 wr' → (fun (e : Exit) (a2' : Act) (wr' : World) => e = .normal ∧ ∃ τ', τ.le τ' ∧ EnvR τ' a2 a2' ∧ WT G B w0 τ' wa2 wr') .normal a2' wr' := fun τ' a2' wr' h1 h2 h3 => ⟨rfl, τ', h1, h2, h3⟩
  unfold evalDrawnP at h
  simp only [Region.schedule, hm, Bool.true_or, if_true]
  split at h
  · rename_i hns
    refine wpAny_sound ops.size t _ a' _ ?_
    split at h
    · rename_i r hr
      rw [runP_eq] at hr
      cases h
      exact (evalP_sound hev hns ops.size hr ⟨fun k hk => (by cases hk), fun k hk => (by cases hk), trivial, fun k hk => (by cases hk), fun k hk => (by cases hk)⟩ hQ).1 [] _ τ a' _ (fun k hk => by cases hk) List.nodup_nil ⟨rfl, fun j d => by simp⟩ (Rel.le.refl _) (EnvD.of ha _) hw.drewn
    · exact evalAnyT_sound (specT_ok P G) hev hns _ h ha hw.drewn hQ
  · cases h
theorem drawn_in {dr : DrawnT} (hdr : DrOkW P G dr) {id : Nat} {ops : Array Oper} {s : FSt} {a a2 : Env} {wa wa2 : TW} (h : dr ops a wa = some (a2, wa2)) (hreg : regOk s ops = true) {B : FM} {τ : Rel} {a' : Act} {wr : World} (ha : EnvR τ a (nd a')) (hf : Fr P G w0 rd C τ0 r B a' s) (hw : WT G B w0 τ wa wr)
    {Q : Exit → Act → World → Prop} (hQ : ∀ τ' B' a2' wr', τ.le τ' → EnvR τ' a2 (nd a2') → Fr P G w0 rd C τ0 r B' a2' s → WT G B' w0 τ' wa2 wr' → Q .normal a2' wr') : (Code.region id ops true).wpIn (Wf r) 0 P Q a' wr := by
  let Z : Act → Prop := fun x => match s with | .iter ys p => ∀ y ∈ ys, x.tmps.getD y undef = a'.tmps.getD y undef | _ => True
  have hZ0 : Z (nd a') := by
    show match s with | .iter ys p => ∀ y ∈ ys, (nd a').tmps.getD y undef = a'.tmps.getD y undef | _ => True
    cases s <;> first | trivial | (intro y _; rfl)
  have hZp : ∀ (i : Nat) (o : Oper) (x : Act) (v : Value), ops[i]? = some o → Z x → Z (x.put o.dst v) := by
    intro i o x v ho hz
    revert hz
    show (match s with | .iter ys p => ∀ y ∈ ys, x.tmps.getD y undef = a'.tmps.getD y undef | _ => True) → (match s with | .iter ys p => ∀ y ∈ ys, (x.put o.dst v).tmps.getD y undef = a'.tmps.getD y undef | _ => True)
    cases s <;> first | (intro _; trivial) | skip
    rename_i ys p
    intro hz y hy
    rw [getD_put_ne (offY_ne (regOk_off hreg i o ho) hy)]
    exact hz y hy
  refine wpIn_mono (Q := fun e a3 w3 => ∃ a0, QN (fun e a2' wr' => e = .normal ∧ ∃ τ', τ.le τ' ∧ EnvR τ' a2 a2' ∧ WT G B w0 τ' wa2 wr') e a0 w3 ∧ Z a0 ∧ a3 = { a0 with defers := a'.defers }) (wpIn_region_draw fun t => ?_) ?_
  · have h1 := hdr ops a a2 wa wa2 h B w0 τ (nd a') wr ha hw t
    refine lift_ops (r := r) (Z := Z) a'.defers (fun i o ho c => regNd_nd (regOk_nd hreg) i o ho c) ?_ hZp _ (nd a') _ rfl hZ0 h1
    intro e x w hq
    cases e <;> first | (obtain ⟨h, _⟩ := hq; cases h; done) | exact hq.elim | skip
    obtain ⟨_, τ', _, h3, _⟩ := hq
    exact ⟨rfl, h3.d'⟩
  · rintro e a3 w3 ⟨a0, hq, hz, rfl⟩
    have hn : e = .normal := by cases e <;> first | rfl | (obtain ⟨h, _⟩ := hq; cases h; done) | exact hq.elim
    subst hn
    obtain ⟨_, τ', l1, h3, h4⟩ := hq
    refine hQ τ' B _ _ l1 ?_ ?_ h4
    · rw [nd_of a0 h3.d']; exact h3
    · revert hz
      show (match s with | .iter ys p => ∀ y ∈ ys, a0.tmps.getD y undef = a'.tmps.getD y undef | _ => True) → _
      cases s with
      | fresh => intro _; exact hf
      | marked => intro _; exact hf
      | round => intro _; exact hf
      | iter ys p =>
        intro hz
        obtain ⟨g1, g2, g3, g4, g5⟩ := hf
        exact ⟨g1, g2, g3, fun y hy => (hz y hy).trans (g4 y hy), g5⟩
end sound
end Go.Ev
namespace Go.Ev
open Go.RowKit
set_option linter.unusedVariables false
set_option linter.unusedSimpArgs false

def EvIOk (P : Program) (G : Gl) (evi : EvI) : Prop := ∀ gf lb rd wa p wa2, evi gf lb rd wa = some (p, wa2) → (∃ fn body, P.funcs[gf]? = some fn ∧ fn.body = some body ∧ (fn.name == "runtime.NumGoroutine") = false) ∧
  ∀ (C : Ctx) (τ : Rel) (w0 : World) (lb' : Array Value) (wr : World), AR τ lb lb' → RdOk P G w0 rd C τ → WT G (upd C.B0 C.L (some (.loop (C.rc none)))) w0 τ wa wr →
    Calls P gf (#[yv C.L] ++ lb') wr fun e wr' => ∃ v τ', e = .returned v ∧ τ.le τ' ∧ WT G (upd C.B0 C.L (some (.loop (C.rc p)))) w0 τ' wa2 wr'

section sound
variable {P : Program} {G : Gl} {ev : EvF} {evi : EvI} {rd : Rd}

theorem run_callFunc {f : FuncId} {fn : Func} {body : Code} (h1 : P.funcs[f]? = some fn) (h2 : fn.body = some body) (h3 : (fn.name == "runtime.NumGoroutine") = false) (args : Array Value) (w : World) : (callFunc f args).run P w = .ok (.enter f args) w := by
  have hp : (program : Sem Program).run P w = .ok P w := rfl
  simp only [callFunc, Sem.run_bind, hp, Result.andThen_ok, h1, h3, h2, Option.isNone, Bool.false_eq_true, if_false]
  rfl

/-- What is asked of a piece of code. -/
def BdOk (P : Program) (G : Gl) (rd : Rd) (bd : Bd) (c : Code) : Prop := ∀ {s s2 : FSt} {a a2 : Env} {wa wa2 : TW} {ex : Exit}, bd s a wa = some (ex, s2, a2, wa2) →
  ∀ {C : Ctx} {τ0 : Rel} {w0 : World} {r : Option Nat} {B : FM} {τ : Rel} {a' : Act} {wr : World}, τ0.le τ → EnvR τ a (nd a') → Fr P G w0 rd C τ0 r B a' s → WT G B w0 τ wa wr →
  ∀ {Q : Exit → Act → World → Prop}, (∀ τ' B' a2' wr', τ.le τ' → EnvR τ' a2 (nd a2') → Fr P G w0 rd C τ0 r B' a2' s2 → WT G B' w0 τ' wa2 wr' → Q ex a2' wr') → c.wpIn (Wf r) 0 P Q a' wr

theorem evalLoopX_sound {body : Bd} {c : Code} (hb : BdOk P G rd body c) : ∀ (n : Nat) {s s2 : FSt} {a a2 : Env} {wa wa2 : TW} {ex : Exit}, evalLoopX body n s a wa = some (ex, s2, a2, wa2) →
    ∀ {C : Ctx} {τ0 : Rel} {w0 : World} {r : Option Nat} {B : FM} {τ : Rel} {a' : Act} {wr : World}, τ0.le τ → EnvR τ a (nd a') → Fr P G w0 rd C τ0 r B a' s → WT G B w0 τ wa wr →
    ∀ {Q : Exit → Act → World → Prop}, (∀ τ' B' a2' wr', τ.le τ' → EnvR τ' a2 (nd a2') → Fr P G w0 rd C τ0 r B' a2' s2 → WT G B' w0 τ' wa2 wr' → Q ex a2' wr') → Code.roundsIn (Wf r) 0 P c Q n a' wr := by
  intro n
  induction n with
  | zero => intro s s2 a a2 wa wa2 ex h; cases h
  | succ n ih =>
    intro s s2 a a2 wa wa2 ex h C τ0 w0 r B τ a' wr h0 ha hf hw Q hQ
    unfold evalLoopX at h
    unfold Code.roundsIn
    cases hbd : body s a wa with
    | none => rw [hbd] at h; cases h
    | some x =>
      obtain ⟨e1, s1, a1, w1⟩ := x
      rw [hbd] at h
      refine hb hbd h0 ha hf hw ?_
      intro τ' B' a1' wr' l1 ha1 hf1 hw1
      cases e1 with
      | normal => exact ih h (h0.trans l1) ha1 hf1 hw1 (fun τ2 B2 a2' wr2 l2 h2 h3 h4 => hQ τ2 B2 a2' wr2 (l1.trans l2) h2 h3 h4)
      | _ => cases h; exact hQ τ' B' a1' wr' l1 ha1 hf1 hw1

theorem evalScopeX_sound {run : Code → Bd} {c : Code} (hb : ∀ d, BdOk P G rd (run d) d) : ∀ (m : Nat) (d : Code) {s s2 : FSt} {a a2 : Env} {wa wa2 : TW} {ex : Exit}, evalScopeX run c m d s a wa = some (ex, s2, a2, wa2) →
    ∀ {C : Ctx} {τ0 : Rel} {w0 : World} {r : Option Nat} {B : FM} {τ : Rel} {a' : Act} {wr : World}, τ0.le τ → EnvR τ a (nd a') → Fr P G w0 rd C τ0 r B a' s → WT G B w0 τ wa wr →
    ∀ {Q : Exit → Act → World → Prop}, (∀ τ' B' a2' wr', τ.le τ' → EnvR τ' a2 (nd a2') → Fr P G w0 rd C τ0 r B' a2' s2 → WT G B' w0 τ' wa2 wr' → Q ex a2' wr') → scopeIn (Wf r) 0 P c Q m d a' wr := by
  intro m
  induction m with
  | zero => intro d s s2 a a2 wa wa2 ex h; cases h
  | succ m ih =>
    intro d s s2 a a2 wa wa2 ex h C τ0 w0 r B τ a' wr h0 ha hf hw Q hQ
    unfold evalScopeX at h
    unfold scopeIn
    cases hbd : run d s a wa with
    | none => rw [hbd] at h; cases h
    | some x =>
      obtain ⟨e1, s1, a1, w1⟩ := x
      rw [hbd] at h
      refine hb d hbd h0 ha hf hw ?_
      intro τ' B' a1' wr' l1 ha1 hf1 hw1
      cases e1 with
      | goto l =>
        dsimp only at h ⊢
        split at h <;> first | (cases h; done) | skip
        rename_i rest hfl
        exact ⟨rest, hfl, ih rest h (h0.trans l1) ha1 hf1 hw1 (fun τ2 B2 a2' wr2 l2 h2 h3 h4 => hQ τ2 B2 a2' wr2 (l1.trans l2) h2 h3 h4)⟩
      | _ => cases h; exact hQ τ' B' a1' wr' l1 ha1 hf1 hw1

theorem putsK_sound {β : Type} {τ : Rel} : ∀ (ts : List Tmp) (vs : List Value) {e : Env} {k : Env → Option β} {x : β}, putsK ts vs e k = some x → ∀ {tm : Array Value} {vs' : List Value}, EnvR τ e ⟨tm, []⟩ → AR τ ⟨vs⟩ ⟨vs'⟩ →
    ts.length = vs'.length ∧ ∃ e', k e' = some x ∧ EnvR τ e' ⟨(ts.zip vs').foldl (fun t (p : Tmp × Value) => t.setIfInBounds p.1 p.2) tm, []⟩
  | [], [], e, k, x, h, tm, vs', ha, hv => by
    have : vs' = [] := by have := hv.1; simpa using this.symm
    subst this
    exact ⟨rfl, e, h, ha⟩
  | t :: ts, v :: vs, e, k, x, h, tm, vs', ha, hv => by
    unfold putsK at h
    split at h <;> first | (cases h; done) | skip
    rename_i hfit
    rw [putK_eq] at h
    cases vs' with
    | nil => have := hv.1; simp at this
    | cons v' vs' =>
      have h0 : VR τ v v' := hv.2 0 v v' (by simp) (by simp)
      have hr : AR τ ⟨vs⟩ ⟨vs'⟩ := ⟨by have := hv.1; simpa using this, fun i u u' h1 h2 => hv.2 (i + 1) u u' (by simpa using h1) (by simpa using h2)⟩
      obtain ⟨h1, e', h2, h3⟩ := putsK_sound ts vs h (ha.put (some t) hfit h0) hr
      exact ⟨by simp [h1], e', h2, h3⟩
  | [], _ :: _, e, k, x, h, tm, vs', ha, hv => by cases h
  | _ :: _, [], e, k, x, h, tm, vs', ha, hv => by cases h

theorem zip_toList (ps : Array Tmp) (vs : List Value) (tm : Array Value) : (ps.zip ⟨vs⟩).foldl (fun t (p : Tmp × Value) => t.setIfInBounds p.1 p.2) tm = (ps.toList.zip vs).foldl (fun t (p : Tmp × Value) => t.setIfInBounds p.1 p.2) tm := by
  rw [← Array.foldl_toList]
  congr 1
  simp

theorem evalCodeX_sound (hev : EvOkT P G ev) (hevi : EvIOk P G evi) {dr : DrawnT} (hdr : DrOkW P G dr) : ∀ (n : Nat) (c : Code), BdOk P G rd (evalCodeX P G ev evi rd dr n c) c := by
  intro n
  induction n with
  | zero => intro c s s2 a a2 wa wa2 ex h; cases h
  | succ n ih =>
    intro c s s2 a a2 wa wa2 ex h C τ0 w0 r B τ a' wr h0 ha hf hw Q hQ
    unfold evalCodeX at h
    cases c with
    | skip => cases h; exact wpIn_skip (hQ τ _ _ _ (Rel.le.refl _) ha hf hw)
    | label l => cases h; exact wpIn_label (hQ τ _ _ _ (Rel.le.refl _) ha hf hw)
    | ret => cases h; exact wpIn_ret (hQ τ _ _ _ (Rel.le.refl _) ha hf hw)
    | exit id => cases h; exact wpIn_exit (hQ τ _ _ _ (Rel.le.refl _) ha hf hw)
    | goto l => cases h; exact wpIn_goto (hQ τ _ _ _ (Rel.le.refl _) ha hf hw)
    | refuse m => cases h
    | region id ops dw =>
      cases dw with
      | false =>
        dsimp only at h
        split at h <;> first | (cases h; done) | skip
        rename_i hreg
        split at h <;> first | (cases h; done) | skip
        rename_i s1 a1 w1 hs
        cases h
        exact wpIn_region (stepOpsX_sound hev ops hreg _ hs h0 ha hf hw hQ)
      | true =>
        dsimp only at h
        split at h <;> first | (cases h; done) | skip
        rename_i hreg
        split at h <;> first | (cases h; done) | skip
        rename_i a1 w1 hs
        cases h
        exact drawn_in hdr hs hreg ha hf hw hQ
    | seq x y =>
      dsimp only at h
      refine wpIn_seq ?_
      cases hx : evalCodeX P G ev evi rd dr n x s a wa with
      | none => rw [hx] at h; cases h
      | some q =>
        obtain ⟨e1, s1, a1, w1⟩ := q
        rw [hx] at h
        refine ih x hx h0 ha hf hw ?_
        intro τ' B' a1' wr' l1 ha1 hf1 hw1
        cases e1 with
        | normal => exact ih y h (h0.trans l1) ha1 hf1 hw1 (fun τ2 B2 a2' wr2 l2 h2 h3 h4 => hQ τ2 B2 a2' wr2 (l1.trans l2) h2 h3 h4)
        | _ => cases h; exact hQ τ' B' a1' wr' l1 ha1 hf1 hw1
    | cond c x y =>
      dsimp only at h
      have hop : ∀ b, condK G a c = some b → a'.eval c = .bool b := by
        intro b hb
        unfold condK at hb
        split at hb
        · rename_i t
          have hb2 : truthK G (match look a.l t with | some v => v | none => undef) = some b := hb
          cases hl : look a.l t with
          | none => rw [hl] at hb2; cases hb2
          | some v =>
            rw [hl] at hb2
            exact truthK_spec hb2 hw.sy (ha.tmps t _ hl)
        · split at hb <;> first | (cases hb; done) | skip
          rename_i hn _ b2 hb2
          cases hb
          cases c with
          | tmp t => exact absurd rfl (hn t)
          | const v => exact hb2
          | global g => cases hb2
          | func f => cases hb2
      split at h
      · rename_i hc
        exact wpIn_cond_true (hop _ hc) (ih x h h0 ha hf hw hQ)
      · rename_i hc
        exact wpIn_cond_false (hop _ hc) (ih y h h0 ha hf hw hQ)
      · cases h
    | block id body =>
      dsimp only at h
      refine wpIn_block ?_
      cases hx : evalCodeX P G ev evi rd dr n body s a wa with
      | none => rw [hx] at h; cases h
      | some q =>
        obtain ⟨e1, s1, a1, w1⟩ := q
        rw [hx] at h
        refine ih body hx h0 ha hf hw ?_
        intro τ' B' a1' wr' l1 ha1 hf1 hw1
        cases e1 with
        | exit k =>
          dsimp only at h
          show (if k = id then Q Exit.normal a1' wr' else Q (Exit.exit k) a1' wr')
          split at h
          · rename_i hk
            cases h
            rw [if_pos hk]; exact hQ τ' B' a1' wr' l1 ha1 hf1 hw1
          · rename_i hk
            cases h
            rw [if_neg hk]; exact hQ τ' B' a1' wr' l1 ha1 hf1 hw1
        | _ => cases h; exact hQ τ' B' a1' wr' l1 ha1 hf1 hw1
    | loop body =>
      dsimp only at h
      exact wpIn_loop_rounds n (evalLoopX_sound (ih body) n h h0 ha hf hw hQ)
    | scope body =>
      dsimp only at h
      exact wpIn_scope n (evalScopeX_sound ih n body h h0 ha hf hw hQ)
    | rangeFunc g ps assign body =>
      dsimp only at h
      split at h <;> first | (cases h; done) | skip
      rename_i gf lb hok hev2
      obtain ⟨rfl, hd, rfl⟩ := hf
      have hgv := ha.eval hw.glob g hok
      rw [nd_eval, hev2] at hgv
      have hg : ∃ vs, a'.eval g = .func (.func gf) #[] vs ∧ AR τ lb vs := by
        generalize a'.eval g = q at hgv
        cases hgv with
        | func fn xs ys us vs hfn e1 e2 i1 i2 =>
          have : us = #[] := by
            have : us.size = 0 := by rw [← e1]; rfl
            exact Array.eq_empty_of_size_eq_zero this
          subst this
          exact ⟨vs, rfl, e2, i2⟩
      obtain ⟨vs, hg, har⟩ := hg
      generalize hrdx : (fun (vals : List Value) (w : TW) => putsK ps.toList vals a fun a1 => match evalCodeX P G ev evi rd dr n assign .round a1 w with
            | some (.normal, _, a2, w2) => match evalCodeX P G ev evi rd dr n body .round a2 w2 with
              | some (.normal, _, _, w3) => some (none, w3)
              | some (.ret, _, _, w3) => some (some Code.ret, w3)
              | some (.exit id, _, _, w3) => some (some (.exit id), w3)
              | some (.goto l, _, _, w3) => some (some (.goto l), w3)
              | _ => none
            | _ => none) = rdx at h
      cases hit : evi gf lb rdx wa with
      | none => rw [hit] at h; cases h
      | some q =>
      obtain ⟨p, w'⟩ := q
      rw [hit] at h
      obtain ⟨⟨gfn, gbody, hgf, hgb, hgn⟩, hcall⟩ := hevi _ _ _ _ _ _ hit
      refine wpIn_rangeFunc ?_
      intro fn _
      have hBs : C.B0 wr.heap.size = none := by
        cases e : C.B0 wr.heap.size with
        | none => rfl
        | some o => have := hw.lt (j := wr.heap.size) (by rw [e]; simp); omega
      have hBs1 : C.B0 (wr.heap.size + 1) = none := by
        cases e : C.B0 (wr.heap.size + 1) with
        | none => rfl
        | some o => have := hw.lt (j := wr.heap.size + 1) (by rw [e]; simp); omega
      obtain ⟨C2, hC2⟩ : ∃ C2 : Ctx, C2 = { B0 := upd C.B0 wr.heap.size (some (mk0 0)), L := wr.heap.size + 1, rc := fun p => { state := if p.isNone then .ready else .done, pending := p, fn, tmps := a'.tmps, params := ps, assign, body, defers := wr.heap.size } } := ⟨_, rfl⟩
      have hlay : WT G (upd C2.B0 C2.L (some (.loop (C2.rc none)))) w0 τ wa ((wr.alloc (.deferred (some []))).alloc (.loop (C2.rc none))) := by
        have h1 := (hw.lay (.deferred (some []))).lay (.loop (C2.rc none))
        rw [World.size_alloc] at h1
        rw [hC2] at h1 ⊢
        exact h1
      have hrd : RdOk P G w0 rdx C2 τ := by
        intro vals wa1 c1 wa3 hr τ1 vals' wr1 l1 hvals hw1
        rw [← hrdx] at hr
        obtain ⟨hlen, a1, hr, ha1⟩ := putsK_sound ps.toList vals hr (tm := a'.tmps) (ha.mono l1) hvals
        have hL := hw1.at (j := C2.L) (upd_same _ _ _)
        have hy := run_yield (P := P) (args := ⟨vals'⟩) hL (by rw [hC2]; simpa using hlen.symm)
        refine ⟨_, _, _, _, hy, roundIn_of_wpIn trivial ?_⟩
        split at hr <;> first | (cases hr; done) | skip
        rename_i sA aA wA hA
        have eA : EnvR τ1 a1 (nd { tmps := (ps.zip ⟨vals'⟩).foldl (fun t (p : Tmp × Value) => t.setIfInBounds p.1 p.2) a'.tmps, defers := [] }) := by
          rw [zip_toList]; exact ha1
        have hrcA : (C2.rc none).assign = assign := by rw [hC2]
        have hrcB : (C2.rc none).body = body := by rw [hC2]
        have hrcP : (C2.rc none).params = ps := by rw [hC2]
        have hrcT : (C2.rc none).tmps = a'.tmps := by rw [hC2]
        rw [hrcA, hrcB, hrcP, hrcT]
        refine ih assign hA (C := { B0 := upd C2.B0 C2.L (some (.loop (C2.rc none))), L := 0, rc := C2.rc }) (τ0 := τ1) (w0 := w0) (r := some C2.L) (Rel.le.refl _) eA ⟨⟨_, rfl⟩, rfl, rfl⟩ hw1 ?_
        intro τ2 B2 a2' wr2 l2 ha2 hf2 hw2
        have hB2 : a2'.defers = [] ∧ B2 = upd C2.B0 C2.L (some (.loop (C2.rc none))) ∧ sA = .round := by
          cases sA with
          | fresh => cases hf2.1
          | marked => cases hf2.1
          | round => exact ⟨hf2.2.1, hf2.2.2, rfl⟩
          | iter p => cases hf2.1
        obtain ⟨hd2, rfl, rfl⟩ := hB2
        have hL2 := hw2.at (j := C2.L) (upd_same _ _ _)
        refine ⟨_, run_beginRound hL2 (by rw [hC2]; rfl), ?_⟩
        have hw3 := hw2.turn (r := C2.L) (B' := upd C2.B0 C2.L (some (.loop { C2.rc none with state := .busy }))) (o' := .loop { C2.rc none with state := .busy }) (upd_same _ _ _) rfl (fun j hj => by rw [upd_ne _ _ _ hj, upd_ne _ _ _ hj]) (.inr (upd_same _ _ _))
        split at hr
        all_goals first | (cases hr; done) | skip
        all_goals
          rename_i sB aB wB hB
          cases hr
          refine ih body hB (C := { B0 := upd C2.B0 C2.L (some (.loop { C2.rc none with state := .busy })), L := 0, rc := C2.rc }) (τ0 := τ2) (w0 := w0) (r := some C2.L) (Rel.le.refl _) ha2 ⟨⟨_, rfl⟩, hd2, rfl⟩ hw3 ?_
          intro τ3 B3 a3' wr3 l3 ha3 hf3 hw4
          have hB3 : B3 = upd C2.B0 C2.L (some (.loop { C2.rc none with state := .busy })) := by
            cases sB with
            | fresh => cases hf3.1
            | marked => cases hf3.1
            | round => exact hf3.2.2
            | iter p => cases hf3.1
          subst hB3
          have hL3 := hw4.at (j := C2.L) (upd_same _ _ _)
          refine ⟨_, _, run_endRound _ hL3, τ3, rfl, l2.trans l3, ?_⟩
          refine hw4.turn (upd_same _ _ _) rfl (fun j hj => by rw [upd_ne _ _ _ hj, upd_ne _ _ _ hj]) (.inr ?_)
          rw [upd_same, hC2]
      have hc := hcall C2 τ w0 vs _ har hrd hlay
      refine ⟨wr.heap.size + 1, [{ target := .collected wr.heap.size, args := #[] }], (wr.alloc (.deferred (some []))).alloc (.loop (C2.rc none)), { target := .fn (.func gf) vs, args := #[.func (.yield (wr.heap.size + 1)) #[] #[]] }, (wr.alloc (.deferred (some []))).alloc (.loop (C2.rc none)), gf, #[.func (.yield (wr.heap.size + 1)) #[] #[]] ++ vs, (wr.alloc (.deferred (some []))).alloc (.loop (C2.rc none)), ?_, ?_, ?_, ?_, ?_, ?_⟩
      · rw [hC2]; exact run_enterLoop_outer _ _ _ _ _
      · simp only [resolve, hg]
        simp [go_sem]
      · intro f' _; trivial
      · simp only [invoke]
        exact run_callFunc hgf hgb hgn _ _
      · intro hh; simp [Fence.wide] at hh
      · have hy0 : yv C2.L = .func (.yield (wr.heap.size + 1)) #[] #[] := by rw [hC2]; rfl
        rw [hy0] at hc
        refine (callsIn_W (n := 0 - 1)).2 (Calls.mono hc ?_)
        rintro e w3 ⟨v, τ', rfl, l1, hw3⟩
        have hL := hw3.at (j := C2.L) (upd_same _ _ _)
        have hend := run_endLoop (P := P) hL (by rw [hC2]; cases p <;> simp)
        have hCL : C2.L = wr.heap.size + 1 := by rw [hC2]
        have hCB : C2.B0 = upd C.B0 wr.heap.size (some (.deferred (some []))) := by rw [hC2]
        have hw4 := hw3.turn (r := C2.L) (B' := C2.B0) (o' := .loop { C2.rc p with state := .exhausted }) (upd_same _ _ _) rfl (fun j hj => by rw [upd_ne _ _ _ hj]) (.inl (by rw [hCL, hCB, upd_ne _ _ _ (by omega)]; exact hBs1))
        have hpend : (C2.rc p).pending = p := by rw [hC2]
        replace hend := hend.trans (congrArg (fun x => Result.ok x (w3.putObj C2.L (.loop { C2.rc p with state := .exhausted }))) hpend)
        rw [hCB] at hw4
        have hfin : ∀ ex, (∀ τ' B' a2' wr', τ.le τ' → EnvR τ' a (nd a2') → Fr P G w0 rd C τ0 none B' a2' .marked → WT G B' w0 τ' w' wr' → Q ex a2' wr') → Q ex { a' with defers := [{ target := .collected wr.heap.size, args := #[] }] ++ a'.defers } (w3.putObj C2.L (.loop { C2.rc p with state := .exhausted })) := by
          intro ex hq
          refine hq τ' _ _ _ l1 ?_ ⟨rfl, wr.heap.size, hBs, ?_, rfl⟩ hw4
          · exact ha.mono l1
          · show [_] ++ a'.defers = _
            rw [hd]; rfl
        rw [hCL] at hend
        refine ⟨p, _, hend, ?_⟩
        rw [hCL] at hfin
        cases p with
        | none => cases h; exact hfin _ hQ
        | some c =>
          cases c with
          | ret => cases h; exact wpIn_ret (hfin _ hQ)
          | exit id => cases h; exact wpIn_exit (hfin _ hQ)
          | goto l => cases h; exact wpIn_goto (hfin _ hQ)
          | _ => cases h

theorem argsL_env {τ : Rel} {args args' : Array Value} (hA : AR τ args args') (m : Nat) : EnvR τ ⟨args.size + (m - args.size), argsL 0 args.toList⟩ ⟨args' ++ Array.replicate (m - args'.size) undef, []⟩ := by
  refine ⟨fun t u hu => ?_, ?_, rfl⟩
  · rw [argsL_look, if_pos (Nat.zero_le _), Nat.sub_zero, Array.getElem?_toList] at hu
    obtain ⟨u', e, hv⟩ := hA.get hu
    have hlt := (Array.getElem?_eq_some_iff.1 e).1
    rw [Array.getD_eq_getD_getElem?, Array.getElem?_append, if_pos hlt, e]
    exact hv
  · simp [hA.1]
theorem argsL_env1 {τ : Rel} {args args' : Array Value} (hA : AR τ args args') (y : Value) (m : Nat) : EnvR τ ⟨1 + args.size + (m - (1 + args.size)), argsL 1 args.toList⟩ ⟨(#[y] ++ args') ++ Array.replicate (m - (#[y] ++ args').size) undef, []⟩ := by
  refine ⟨fun t u hu => ?_, ?_, rfl⟩
  · rw [argsL_look] at hu
    split at hu
    · rename_i ht
      rw [Array.getElem?_toList] at hu
      obtain ⟨u', e, hv⟩ := hA.get hu
      have hlt := (Array.getElem?_eq_some_iff.1 e).1
      have : ((#[y] ++ args') ++ Array.replicate (m - (#[y] ++ args').size) undef)[t]? = some u' := by
        rw [Array.getElem?_append, if_pos (by simp; omega), Array.getElem?_append, if_neg (by simp; omega)]
        exact e
      rw [Array.getD_eq_getD_getElem?, this]
      exact hv
    · cases hu
  · simp [hA.1]; omega

/-- The answer of a function. -/
theorem results_in {τ : Rel} {B : FM} {w0 : World} {fn : Func} {e1 : Env} {w1 wa2 : TW} {v : Value} {tm : Array Value} {wr : World} (ha : EnvR τ e1 ⟨tm, []⟩) (hhas : e1.has (resTmps fn) = true) (hr : runW P (results fn (e1.row (resTmps fn))) w1 = some (v, wa2)) (hw : WT G B w0 τ w1 wr) :
    ∃ τ' v', (results fn tm).run P wr = .ok v' wr ∧ τ.le τ' ∧ VR τ' v v' ∧ WT G B w0 τ' wa2 wr := by
  have hres : ∀ r ∈ fn.results, match r with | .tmp t => VR τ ((e1.row (resTmps fn)).getD t undef) (tm.getD t undef) | .cell t _ => VR τ ((e1.row (resTmps fn)).getD t undef) (tm.getD t undef) := by
    intro r hrm
    cases r with
    | tmp t => exact row_vr ha hhas t (by unfold resTmps; rw [List.mem_map]; exact ⟨.tmp t, by simpa using hrm, rfl⟩)
    | cell t x => exact row_vr ha hhas t (by unfold resTmps; rw [List.mem_map]; exact ⟨.cell t x, by simpa using hrm, rfl⟩)
  obtain ⟨H1, hR1, hw1⟩ := hw
  obtain ⟨u', hr1, hR2⟩ := runW_sound hr (u := wOf H1) hR1
  obtain ⟨τ2, v', wr2, l2, h2, h3, h4⟩ := (sim_results fn hres).run (wa := wOf H1) hw1 hr1
  have e2 := (ro_results fn tm).same h2
  subst e2
  exact ⟨τ2, v', h2, l2, h3, _, hR2, h4⟩

theorem evalX_sound {dr : EvF → DrawnT} (hdr : ∀ ev, EvOkT P G ev → DrOkW P G (dr ev)) {book : EvF} (hb : EvOkT P G book) (fuel : Nat) : ∀ n, EvOkT P G (evFn P G dr book fuel n) ∧ EvIOk P G (evIt P G dr book fuel n) := by
  intro n
  induction n with
  | zero =>
    refine ⟨fun f args wa v wa2 h => ?_, fun gf lb rd wa p wa2 h => ?_⟩
    · unfold evFn evalX at h; cases h
    · unfold evIt evalX at h; cases h
  | succ n ih =>
    obtain ⟨ih1, ih2⟩ := ih
    have key : ∀ (rdo : Option Rd) (f : FuncId) (args : Array Value) (wa wa2 : TW) (v : Value) (s : FSt), (rdo = none → book f args wa = none) → evalX P G dr book fuel (n + 1) rdo f args wa = some (v, s, wa2) →
        ∃ fn body ex e1 w1, P.funcs[f]? = some fn ∧ fn.body = some body ∧ (ex = .ret ∨ ex = .normal) ∧ e1.has (resTmps fn) = true ∧ runW P (results fn (e1.row (resTmps fn))) w1 = some (v, wa2) ∧ ((∃ rd, rdo = some rd) → (fn.name == "runtime.NumGoroutine") = false) ∧
        evalCodeX P G (evFn P G dr book fuel n) (evIt P G dr book fuel n) (rdOf rdo) (dr (evFn P G dr book fuel n)) fuel body (stOf rdo) (envOf rdo fn args) wa = some (ex, s, e1, w1) := by
      intro rdo f args wa wa2 v s hbk h
      unfold evalX at h
      cases rdo
      all_goals
        first | rw [hbk rfl] at h | skip
        dsimp only at h
        split at h <;> first | (cases h; done) | skip
        rename_i fn hfn
        split at h <;> first | (cases h; done) | skip
        rename_i body hnm hbody
        split at h <;> first | (cases h; done) | skip
        all_goals
          rename_i s1 e1 w1 hc
          split at h <;> first | (cases h; done) | skip
          rename_i hhas
          split at h <;> first | (cases h; done) | skip
          rename_i v1 w2 hr
          rw [forceV_eq] at h
          cases h
      · exact ⟨fn, body, .ret, e1, w1, hfn, hbody, .inl rfl, hhas, hr, (fun hh => by obtain ⟨_, hh⟩ := hh; cases hh), hc⟩
      · exact ⟨fn, body, .normal, e1, w1, hfn, hbody, .inr rfl, hhas, hr, (fun hh => by obtain ⟨_, hh⟩ := hh; cases hh), hc⟩
      · exact ⟨fn, body, .ret, e1, w1, hfn, hbody, .inl rfl, hhas, hr, (fun _ => hnm), hc⟩
      · exact ⟨fn, body, .normal, e1, w1, hfn, hbody, .inr rfl, hhas, hr, (fun _ => hnm), hc⟩
    refine ⟨fun f args wa v wa2 h B w0 τ args' wr hA hw => ?_, fun gf lb rd wa p wa2 h => ?_⟩
    · unfold evFn at h
      cases hbk : book f args wa with
      | some x =>
        unfold evalX at h
        rw [hbk] at h
        obtain ⟨v1, w1⟩ := x
        cases h
        exact hb f args wa v wa2 hbk B w0 τ args' wr hA hw
      | none =>
        have hx : ∃ s1, (s1 = .fresh ∨ s1 = .marked) ∧ evalX P G dr book fuel (n + 1) none f args wa = some (v, s1, wa2) := by
          split at h
          · rename_i v1 w1 hx
            cases h
            exact ⟨_, .inl rfl, hx⟩
          · rename_i v1 w1 hx
            cases h
            exact ⟨_, .inr rfl, hx⟩
          · cases h
        obtain ⟨s1, hs1, hx⟩ := hx
        obtain ⟨fn, body, ex, e1, w1, hfn, hbody, hex, hhas, hr, hnm, hc⟩ := key none f args wa wa2 v s1 (fun _ => hbk) hx
        refine (callsIn_W (r := none) (n := 0)).1 (callsIn_of_wp_marks hfn hbody trivial ?_)
        refine evalCodeX_sound ih1 ih2 (hdr _ ih1) fuel body hc (a' := { tmps := args' ++ Array.replicate (fn.ntmps - args'.size) undef, defers := [] }) (C := { B0 := B, L := 0, rc := fun _ => default }) (τ0 := τ) (w0 := w0) (r := none) (Rel.le.refl _) (argsL_env hA fn.ntmps) ⟨rfl, rfl, rfl⟩ hw ?_
        intro τ' B' a2' wr' l1 ha2 hf2 hw2
        have fin : ∀ w3, WT G B w0 τ' w1 w3 → LeavesInM (Wf none) 0 P fn a2'.tmps (fun e wr' => ∃ τ' v', e = .returned v' ∧ τ.le τ' ∧ VR τ' v v' ∧ WT G B w0 τ' wa2 wr') [] .returning w3 := by
          intro w3 hw3
          obtain ⟨τ2, v', g1, g2, g3, g4⟩ := results_in ha2 hhas hr hw3
          exact ⟨v', g1, τ2, v', rfl, l1.trans g2, g3, g4⟩
        have : LeavesInM (Wf none) 0 P fn a2'.tmps (fun e wr' => ∃ τ' v', e = .returned v' ∧ τ.le τ' ∧ VR τ' v v' ∧ WT G B w0 τ' wa2 wr') a2'.defers .returning wr' := by
          cases s1 with
          | fresh =>
            obtain ⟨_, hd, rfl⟩ := hf2
            rw [hd]
            exact fin _ hw2
          | marked =>
            obtain ⟨_, D, hD, hd, rfl⟩ := hf2
            rw [hd]
            have hDl := hw2.at (j := D) (upd_same _ _ _)
            refine ⟨by simp, .inl ⟨D, _, rfl, run_takeDeferred hDl, fin _ ?_⟩⟩
            exact hw2.turn (upd_same _ _ _) rfl (fun j hj => by rw [upd_ne _ _ _ hj]) (.inl hD)
          | round => obtain ⟨⟨l, hl⟩, _⟩ := hf2; cases hl
          | iter ys p => rcases hs1 with h | h <;> cases h
        rcases hex with rfl | rfl
        · exact this
        · exact this
    · unfold evIt at h
      split at h <;> first | (cases h; done) | skip
      rename_i v1 ys1 p1 w1 hx
      cases h
      obtain ⟨fn, body, ex, e1, w1, hfn, hbody, hex, hhas, hr, hnm, hc⟩ := key (some rd) gf lb wa wa2 v1 _ (fun hh => by cases hh) hx
      refine ⟨⟨fn, body, hfn, hbody, hnm ⟨_, rfl⟩⟩, fun C τ w0 lb' wr hA hrd hw => ?_⟩
      refine (callsIn_W (r := none) (n := 0)).1 (callsIn_of_wp_marks hfn hbody trivial ?_)
      refine evalCodeX_sound ih1 ih2 (hdr _ ih1) fuel body hc (a' := { tmps := (#[yv C.L] ++ lb') ++ Array.replicate (fn.ntmps - (#[yv C.L] ++ lb').size) undef, defers := [] }) (C := C) (τ0 := τ) (w0 := w0) (r := none) (Rel.le.refl _) (argsL_env1 hA (yv C.L) fn.ntmps) ⟨rfl, rfl, rfl, ?_, hrd⟩ hw ?_
      · intro y hy
        have hy : y = 0 := by simpa using hy
        subst hy
        show ((#[yv C.L] ++ lb') ++ Array.replicate (fn.ntmps - (#[yv C.L] ++ lb').size) undef).getD 0 undef = yv C.L
        rw [Array.getD_eq_getD_getElem?, Array.getElem?_append, if_pos (by simp; omega), Array.getElem?_append, if_pos (by simp)]
        rfl
      · intro τ' B' a2' wr' l1 ha2 hf2 hw2
        obtain ⟨_, hd, rfl, _, _⟩ := hf2
        obtain ⟨τ2, v', g1, g2, g3, g4⟩ := results_in ha2 hhas hr hw2
        have : LeavesInM (Wf none) 0 P fn a2'.tmps (fun e wr' => ∃ v τ', e = .returned v ∧ τ.le τ' ∧ WT G (upd C.B0 C.L (some (.loop (C.rc p)))) w0 τ' wa2 wr') a2'.defers .returning wr' := by
          rw [hd]
          exact ⟨v', g1, v', τ2, rfl, l1.trans g2, g4⟩
        rcases hex with rfl | rfl
        · exact this
        · exact this
end sound
end Go.Ev
namespace Go.Ev
open Go.RowKit
set_option linter.unusedVariables false
set_option linter.unusedSimpArgs false

section
variable {P : Program} {G : Gl}
def orB (a b : EvF) : EvF := fun f args w => match a f args w with
  | some r => some r
  | none => b f args w
theorem orB_ok {a b : EvF} (ha : EvOkT P G a) (hb : EvOkT P G b) : EvOkT P G (orB a b) := by
  intro f args wa v wa2 h
  unfold orB at h
  split at h
  · rename_i r hr
    cases h
    exact ha f args wa v wa2 hr
  · exact hb f args wa v wa2 h
def noB : EvF := fun _ _ _ => none
theorem noB_ok : EvOkT P G noB := fun f args wa v wa2 h => by cases h

/-- Dead package variables, and nothing else. -/
noncomputable def dead0 (n : Nat) : TW := Nat.rec (motive := fun _ => TW) ⟨.nil, 0⟩ (fun _ w => ⟨T.set dead 16 w.t w.n, w.n + 1⟩) n
theorem dead0_n : ∀ n, (dead0 n).n = n
  | 0 => rfl
  | n + 1 => by
    show (dead0 n).n + 1 = _
    rw [dead0_n n]
theorem dead0_rep : ∀ n, n ≤ 65536 → Rep (dead0 n) (Array.replicate n dead)
  | 0, _ => ⟨T.ok_nil 16, rfl, fun k hk => rfl, by decide⟩
  | n + 1, h => by
    have h1 := dead0_rep n (by omega)
    have h2 := h1.push (by rw [dead0_n]; omega) dead
    have : Array.replicate (n + 1) dead = (Array.replicate n dead).push dead := Array.replicate_succ
    rw [this]
    exact h2
/-- A call with closed arguments and a closed answer, in whatever world: it leaves what lay as it lay. -/
theorem closed_call {ev : EvF} (hev : EvOkT P G ev) (hG : G.n ≤ 65536) {f : FuncId} {args : Array Value} {v : Value} {w1 : TW} (ha : args.toList.all (AFb 10) = true) (hv : AFb 10 v = true) (h : ev f args (dead0 G.n) = some (v, w1)) {w : World} (hw : G.n ≤ w.heap.size) :
    Calls P f args w fun e w' => e = .returned v ∧ Below w.heap.size w w' := by
  have hl : Laid G (Array.replicate G.n dead) w := ⟨by simp, hw, fun g o hg => .inl (by
    rw [Array.getElem?_replicate] at hg
    split at hg <;> first | (cases hg; rfl) | cases hg)⟩
  have hA : AR (⟨fun k r i => k = r ∧ k < G.n ∧ i = none, G.s⟩ : Rel) args args := AR.refl_of fun i u hu => by
    refine AFb.vr 10 u (List.all_eq_true.1 ha u ?_)
    rw [← Array.getElem?_toList] at hu
    exact List.mem_of_getElem? hu
  refine (hev f args (dead0 G.n) v w1 h _ w _ args w hA ⟨_, dead0_rep G hG, WR.start hl⟩).mono ?_
  rintro e w' ⟨τ', v', rfl, _, hv', H, _, hw'⟩
  exact ⟨by rw [AFb.eq 10 v v' hv hv'], hw'.kp.below⟩
theorem WT.size (h0 : 0 < G.n) {B : FM} {w0 : World} {τ : Rel} {wa : TW} {wr : World} (h : WT G B w0 τ wa wr) : G.n ≤ wr.heap.size := by
  obtain ⟨H, _, h⟩ := h
  have := (h.dom _ _ _ (h.glob (G.n - 1) (by omega))).2.1
  omega
theorem WT.belowed {B : FM} {w0 : World} {τ : Rel} {wa : TW} {wr wr' : World} (h : WT G B w0 τ wa wr) (hb : Below wr.heap.size wr wr') : WT G B w0 τ wa wr' := by
  obtain ⟨H, hR, h⟩ := h
  exact ⟨H, hR, h.belowed hb⟩
def argsEq (a b : List Value) : Bool := leq (veq 20) a b
theorem argsEq_eq {a b : List Value} (h : argsEq a b = true) : a = b := leq_eq _ (veq_eq 20) _ _ h
/-- Closed calls, and their answers. -/
structure Ent where
  f : Nat
  args : List Value
  v : Value
def Ent.ok (P : Program) (en : Ent) : Prop := ∀ (w : World), Calls P en.f ⟨en.args⟩ w fun e w' => e = .returned en.v ∧ Below w.heap.size w w'
def EntOk (P : Program) (n : Nat) (en : Ent) : Prop := en.args.all (AFb 10) = true ∧ AFb 10 en.v = true ∧ ∀ (w : World), n ≤ w.heap.size → Calls P en.f ⟨en.args⟩ w fun e w' => e = .returned en.v ∧ Below w.heap.size w w'
noncomputable def entB (l : List Ent) : EvF := fun f args w => List.rec (motive := fun _ => Option (Value × TW)) none (fun en _ ih => match Nat.beq en.f f with
  | true => match argsEq en.args args.toList with
    | true => some (en.v, w)
    | false => ih
  | false => ih) l
theorem entB_ok (h0 : 0 < G.n) : ∀ (l : List Ent), (∀ en ∈ l, EntOk P G.n en) → EvOkT P G (entB l)
  | [], h => fun f args wa v wa2 h => by cases h
  | en :: l, h => by
    have ih := entB_ok h0 l (fun x hx => h x (List.mem_cons_of_mem _ hx))
    intro f args wa v wa2 hb
    have hb : (match Nat.beq en.f f with
      | true => match argsEq en.args args.toList with
        | true => some (en.v, wa)
        | false => entB l f args wa
      | false => entB l f args wa) = some (v, wa2) := hb
    split at hb
    · rename_i hf
      split at hb
      · rename_i ha
        cases hb
        have hf := Nat.eq_of_beq_eq_true hf
        have ha := argsEq_eq ha
        subst hf
        obtain ⟨h1, h2, h3⟩ := h en List.mem_cons_self
        intro B w0 τ args' wr hA hw
        have e1 : args = ⟨en.args⟩ := by rw [ha]
        subst e1
        have e2 : args' = ⟨en.args⟩ := by
          refine (arr_eq hA.1 fun i u u' a b => AFb.eq 10 u u' (List.all_eq_true.1 h1 u ?_) (hA.2 i u u' a b)).symm
          exact List.mem_of_getElem? (by simpa using a)
        subst e2
        refine (h3 wr (hw.size h0)).mono ?_
        rintro e w' ⟨rfl, hbel⟩
        exact ⟨τ, en.v, rfl, Rel.le.refl _, AFb.vr 10 _ h2, hw.belowed hbel⟩
      · exact ih f args wa v wa2 hb
    · exact ih f args wa v wa2 hb
theorem ent_of {ev : EvF} (hev : EvOkT P G ev) (hG : G.n ≤ 65536) {en : Ent} {w1 : TW} (ha : en.args.all (AFb 10) = true) (hv : AFb 10 en.v = true) (h : ev en.f ⟨en.args⟩ (dead0 G.n) = some (en.v, w1)) : EntOk P G.n en :=
  ⟨ha, hv, fun w hw => closed_call hev hG (by simpa using ha) hv h hw⟩
/-- The answer, whatever the small world has become. -/
noncomputable def ansIs (r : Option (Value × TW)) (v : Value) : Bool := match r with
  | some (u, _) => veq 20 u v
  | none => false
theorem ansIs_spec {r : Option (Value × TW)} {v : Value} (h : ansIs r v = true) : ∃ w, r = some (v, w) := by
  unfold ansIs at h
  split at h
  · rename_i u w
    rw [veq_eq _ _ _ h]
    exact ⟨w, rfl⟩
  · cases h
theorem ent_is {ev : EvF} (hev : EvOkT P G ev) (hG : G.n ≤ 65536) {en : Ent} (h : (en.args.all (AFb 10) && (AFb 10 en.v && ansIs (ev en.f ⟨en.args⟩ (dead0 G.n)) en.v)) = true) : EntOk P G.n en := by
  rw [Bool.and_eq_true, Bool.and_eq_true] at h
  obtain ⟨w1, h1⟩ := ansIs_spec h.2.2
  exact ent_of hev hG h.1 h.2.1 h1

/-- A call from a world that is told, and what becomes of it. -/
structure Mem where
  f : Nat
  args : List Value
  w : TW
  v : Value
  w' : TW
noncomputable def memB (l : List Mem) : EvF := fun f args w => List.rec (motive := fun _ => Option (Value × TW)) none (fun m _ ih => match Nat.beq m.f f with
  | true => match argsEq m.args args.toList && (Nat.beq m.w.n w.n && teq m.w.t w.t) with
    | true => some (m.v, m.w')
    | false => ih
  | false => ih) l
def MemOk (P : Program) (G : Gl) (m : Mem) : Prop := ∀ B w0 τ args' wr, AR τ ⟨m.args⟩ args' → WT G B w0 τ m.w wr →
  Calls P m.f args' wr fun e wr' => ∃ τ' v', e = .returned v' ∧ τ.le τ' ∧ VR τ' m.v v' ∧ WT G B w0 τ' m.w' wr'
theorem memB_ok : ∀ (l : List Mem), (∀ m ∈ l, MemOk P G m) → EvOkT P G (memB l)
  | [], h => fun f args wa v wa2 h => by cases h
  | m :: l, h => by
    have ih := memB_ok l (fun x hx => h x (List.mem_cons_of_mem _ hx))
    intro f args wa v wa2 hb
    have hb : (match Nat.beq m.f f with
      | true => match argsEq m.args args.toList && (Nat.beq m.w.n wa.n && teq m.w.t wa.t) with
        | true => some (m.v, m.w')
        | false => memB l f args wa
      | false => memB l f args wa) = some (v, wa2) := hb
    split at hb
    · rename_i hf
      split at hb
      · rename_i ha
        cases hb
        have hf := Nat.eq_of_beq_eq_true hf
        rw [Bool.and_eq_true, Bool.and_eq_true] at ha
        have e1 : args = ⟨m.args⟩ := by rw [argsEq_eq ha.1]
        have e2 : m.w = wa := by
          obtain ⟨⟨f, a, ⟨t, n⟩, v, w'⟩, hh⟩ := (⟨m, rfl⟩ : ∃ x, m = x)
          obtain ⟨t2, n2⟩ := wa
          subst hh
          have h1 := Nat.eq_of_beq_eq_true ha.2.1
          have h2 := teq_eq _ _ ha.2.2
          dsimp only at h1 h2 ⊢
          rw [h1, h2]
        subst hf e1 e2
        exact h m List.mem_cons_self
      · exact ih f args wa v wa2 hb
    · exact ih f args wa v wa2 hb
theorem mem_of {ev : EvF} (hev : EvOkT P G ev) {m : Mem} (h : ev m.f ⟨m.args⟩ m.w = some (m.v, m.w')) : MemOk P G m := hev _ _ _ _ _ h
noncomputable def endIs (r : Option (Value × TW)) (v : Value) (w : TW) : Bool := match r with
  | some (u, w') => veq 20 u v && (Nat.beq w'.n w.n && teq w'.t w.t)
  | none => false
theorem endIs_spec {r : Option (Value × TW)} {v : Value} {w : TW} (h : endIs r v w = true) : r = some (v, w) := by
  unfold endIs at h
  split at h
  · rename_i u w'
    rw [Bool.and_eq_true, Bool.and_eq_true] at h
    obtain ⟨t, n⟩ := w
    obtain ⟨t', n'⟩ := w'
    have h1 := Nat.eq_of_beq_eq_true h.2.1
    have h2 := teq_eq _ _ h.2.2
    dsimp only at h1 h2
    rw [veq_eq _ _ _ h.1, h1, h2]
  · cases h
theorem mem_is {ev : EvF} (hev : EvOkT P G ev) {m : Mem} (h : endIs (ev m.f ⟨m.args⟩ m.w) m.v m.w' = true) : MemOk P G m := mem_of hev (endIs_spec h)
end
end Go.Ev
