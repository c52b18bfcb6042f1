/- The evaluator on the small world: operations, regions, functions; appends, maps; from the small world to whatever world. No conditions beyond those that each statement shows. -/
import Derived.Test.YtkndlfdpmpdihaaGreatDoorE1
import Derived.Scope
namespace Go.Ev
open Go.RowKit
set_option linter.unusedVariables false
set_option linter.unusedSimpArgs false

def opnd (G : Gl) : Operand → Bool
  | .tmp _ => true
  | .const v => AFb 10 v
  | .global g => decide (g < G)
  | .func _ => true
def exactB (H : Array Obj) (k : Nat) : Bool := match H[k]? with
  | some (.cells _ _ f) => f == (0, 0)
  | _ => false
def zeroV : Option Value → Bool
  | none => true
  | some (.int _ n) => n == 0
  | _ => false
def cutB (H : Array Obj) (ρ : Operand → Value) (o : Oper) : Bool := match o.op with
  | .slice _ x lo _ _ => match ρ x with
    | .slice (some a) _ _ => exactB H a.block || zeroV (lo.map ρ)
    | .pointer (some a) => exactB H a.block
    | _ => true
  | _ => true
def noSel (o : Oper) : Bool := match o.op with | .select .. => false | _ => true
def xv (s : Sem Value) : Sem Next := do pure (.value (← s))
def xu (s : Sem Unit) : Sem Next := do s; pure .skip
/-- execOp, arm by arm. -/
def execC : Op → TypeId → (Operand → Value) → Sem Next
  | .move x => fun _ ρ => pure (.value (ρ x))
  | .assign x => fun _ ρ => pure (.value (ρ x))
  | .alloc elem => fun _ _ => xv (Instr.alloc elem true (.tuple #[]))
  | .box elem x => fun _ ρ => xv (Instr.box elem (ρ x))
  | .build t parts => fun _ ρ => xv (Instr.build t (parts.map fun (i, x) => (i, ρ x)))
  | .buildSlice t len parts => fun _ ρ => xv (Instr.buildSlice t len (parts.map fun (i, x) => (i, ρ x)))
  | .load t a => fun _ ρ => xv (Instr.loadAt t (ρ a))
  | .store t a x => fun _ ρ => xu (Instr.storeAt t (ρ a) (ρ x))
  | .binOp op xType x y _ => fun _ ρ => xv (do eqGuard op xType x y (ρ x) (ρ y); binOp op xType (ρ x) (ρ y))
  | .unOp op _ x => fun _ ρ => xv (Op.unary op (ρ x))
  | .convert src dst x => fun _ ρ => xv (convert src dst (ρ x))
  | .makeInterface xType x => fun _ ρ => xv (Instr.makeInterface xType (ρ x))
  | .makeFunc fn first captured => fun _ ρ => xv (Instr.makeFunc fn (first.map ρ) (captured.map ρ))
  | .makeMap t r => fun _ ρ => xv (Instr.makeMap t (r.map ρ))
  | .makeSlice t l c => fun _ ρ => xv (Instr.makeSlice t (ρ l) (ρ c))
  | .slice t x lo hi mx => fun _ ρ => xv (Instr.sliceAt t (ρ x) (lo.map ρ) (hi.map ρ) (mx.map ρ))
  | .fieldAddr s x f => fun _ ρ => xv (Instr.fieldAt s (ρ x) f)
  | .field xType x f => fun _ ρ => xv (Instr.field xType (ρ x) f)
  | .indexAddr t x ix => fun _ ρ => xv (Instr.indexAt t (ρ x) (ρ ix))
  | .index xType x ix => fun _ ρ => xv (Instr.index xType (ρ x) (ρ ix))
  | .typeAssert x xType asserted ok => fun _ ρ => xv (Instr.typeAssert (ρ x) xType asserted ok)
  | .extract t ix => fun _ ρ => xv (Instr.extract (ρ t) ix)
  | .call c => fun type ρ => do let d ← resolve ρ c type; invoke d.target d.args
  | op => fun type ρ => execOp ρ { dst := none, op, type, pos := "", after := #[], guard := none }
theorem execQ_eq (ρ : Operand → Value) (o : Oper) : execC o.op o.type ρ = execOp ρ o := by
  obtain ⟨dst, op, type, pos, after, guard⟩ := o
  cases op <;> rfl
/-- Of operations without addresses, and that ask nothing of the world. -/
def evalAF (P : Program) (ρ : Operand → Value) (o : Oper) : Option Value :=
  if o.op.operands.toList.all (fun x => AFb 10 (ρ x)) && noSel o then
    match still P (execC o.op o.type ρ) with
    | some (.value v) => if AFb 10 v then some v else none
    | _ => none
  else none
def nextOk : Next → Bool
  | .value _ => true
  | .skip => true
  | .enter _ _ => true
  | _ => false
abbrev Spec := (Operand → Value) → Oper → World → Option (Next × World)
def evalOp (P : Program) (sp : Spec) (okx : Operand → Bool) (ρ : Operand → Value) (o : Oper) (wa : World) : Option (Next × World) :=
  if o.op.operands.toList.all okx then
    match evalAF P ρ o with
    | some v => some (.value v, wa)
    | none =>
      if kindOk P ρ o && cutB wa.heap ρ o then
        match (execOp ρ o).run P wa with
        | .ok n w => some (n, w)
        | _ => none
      else sp ρ o wa
  else none

section
variable {P : Program} {G : Gl} {B : FM} {w0 : World}

theorem undef_vr (τ : Rel) : VR τ undef undef := AFb.vr 10 undef (by rfl)
/-- Temporaries, the newest first. -/
structure Env where
  n : Nat
  l : List (Nat × Value)
def look : List (Nat × Value) → Nat → Option Value
  | [], _ => none
  | (k, v) :: r, t => match Nat.beq k t with | true => some v | false => look r t
def Env.eval (e : Env) : Operand → Value
  | .tmp t => match look e.l t with | some v => v | none => undef
  | .const v => v
  | .global g => .pointer (some ⟨g, 0, none⟩)
  | .func f => .func (.func f) #[] #[]
def Env.ok (G : Gl) (e : Env) : Operand → Bool
  | .tmp t => (look e.l t).isSome
  | .const v => AFb 10 v
  | .global g => decide (g < G)
  | .func _ => true
def Env.put (e : Env) (d : Option Tmp) (v : Value) : Env := match d with | some d => ⟨e.n, (d, v) :: e.l⟩ | none => e
def putK {β : Type} (e : Env) (d : Option Tmp) (v : Value) (k : Env → β) : β := match e with | ⟨n, l⟩ => match d with | some d => k ⟨n, (d, v) :: l⟩ | none => k ⟨n, l⟩
theorem putK_eq {β : Type} (e : Env) (d : Option Tmp) (v : Value) (k : Env → β) : putK e d v k = k (e.put d v) := by
  cases e; cases d <;> rfl
def Env.fits (e : Env) (d : Option Tmp) : Bool := match d with | some d => Nat.blt d e.n | none => true
/-- The temporaries agree. -/
structure EnvR (τ : Rel) (e : Env) (a' : Act) : Prop where
  tmps : ∀ t v, look e.l t = some v → VR τ v (a'.tmps.getD t undef)
  size : a'.tmps.size = e.n
  d' : a'.defers = []
theorem EnvR.mono {τ τ' : Rel} (h : τ.le τ') {e : Env} {a' : Act} (x : EnvR τ e a') : EnvR τ' e a' := ⟨fun t v hv => (x.tmps t v hv).mono h, x.size, x.d'⟩
theorem EnvR.put {τ : Rel} {e : Env} {a' : Act} (x : EnvR τ e a') (d : Option Tmp) (hd : e.fits d = true) {v v' : Value} (hv : VR τ v v') : EnvR τ (e.put d v) (a'.put d v') := by
  cases d with
  | none => exact x
  | some t =>
    have ht : t < e.n := by simpa [Env.fits, Nat.blt_eq] using hd
    refine ⟨fun s u hu => ?_, by simp [Act.put, Env.put, x.size], x.d'⟩
    simp only [Env.put, look] at hu
    simp only [Act.put, Array.getD_eq_getD_getElem?]
    by_cases he : t = s
    · subst he
      rw [Nat.beq_refl] at hu
      cases hu
      rw [Array.getElem?_setIfInBounds_self, if_pos (by rw [x.size]; exact ht)]
      exact hv
    · have hb : Nat.beq t s = false := by
        cases hq : Nat.beq t s with
        | false => rfl
        | true => exact absurd (Nat.eq_of_beq_eq_true hq) he
      rw [hb] at hu
      rw [Array.getElem?_setIfInBounds_ne he, ← Array.getD_eq_getD_getElem?]
      exact x.tmps s u hu
theorem EnvR.eval {τ : Rel} {e : Env} {a' : Act} (x : EnvR τ e a') (hg : ∀ g : Nat, g < G.n → τ g g none) (y : Operand) (hy : e.ok G y = true) : VR τ (e.eval y) (a'.eval y) := by
  cases y with
  | tmp t =>
    simp only [Env.ok] at hy
    show VR τ (match look e.l t with | some v => v | none => undef) (a'.tmps.getD t undef)
    cases h : look e.l t with
    | none => rw [h] at hy; cases hy
    | some v => exact x.tmps t v h
  | const v => exact AFb.vr _ _ hy
  | global g => exact .ptr g g 0 none (hg g (by simpa [Env.ok] using hy))
  | func f => exact .func _ _ _ _ _ (fun l h => by cases h) rfl rfl (fun i v v' h => by simp at h) (fun i v v' h => by simp at h)

theorem Sim.still {α β : Type} {R : Rel → α → β → Prop} {τ : Rel} {s : Sem α} {s' : Sem β} (h : Sim P R τ s s') : ∀ {a : α}, still P s = some a → ∃ b, Ev.still P s' = some b ∧ R τ a b := by
  induction h with
  | pure τ a b h => intro x hx; simp only [Ev.still, Option.some.injEq] at hx; subst hx; exact ⟨b, rfl, h⟩
  | program τ f g _ ih => intro x hx; exact ih hx
  | mark τ m m' f g _ ih => intro x hx; exact ih hx
  | halt τ h s => intro x hx; simp [Ev.still] at hx
  | never τ s s' hn => intro x hx; exact absurd (still_run _ hx default) (hn _ _ _)
  | load => intro x hx; simp [Ev.still] at hx
  | store => intro x hx; simp [Ev.still] at hx
  | new => intro x hx; simp [Ev.still] at hx
  | getObj => intro x hx; simp [Ev.still] at hx
  | setObj => intro x hx; simp [Ev.still] at hx
  | choose => intro x hx; simp [Ev.still] at hx

theorem WR.exact {τ : Rel} {H : Array Obj} {w : World} (h : WR G B w0 τ H w) {k : Nat} (hk : exactB H k = true) : ∀ r i, τ k r i → i = none := by
  intro r i ht
  unfold exactB at hk
  split at hk
  · rename_i c e f hh
    have hf : f = (0, 0) := by simpa using hk
    subst hf
    obtain ⟨r2, i2, o', h1, h2, h3⟩ := h.blk k _ hh rfl
    obtain ⟨rfl, rfl⟩ := h.fn _ _ _ _ _ ht h1
    cases h3; rfl
  · cases hk
theorem zeroV_spec {x : Option Value} (h : zeroV x = true) : x = none ∨ ∃ k, x = some (.int k 0) := by
  cases x with
  | none => exact .inl rfl
  | some v =>
    cases v <;> first | (simp [zeroV] at h; done) | skip
    rename_i k n
    have : n = 0 := by simpa [zeroV] using h
    subst this
    exact .inr ⟨k, rfl⟩

/-- What the special operations have to show. -/
def SpecOk (P : Program) (G : Gl) (sp : Spec) : Prop := ∀ (ρ ρ' : Operand → Value) (o : Oper) (wa wa' : World) (n : Next), sp ρ o wa = some (n, wa') → ∀ (B : FM) (w0 : World) (τ : Rel) (wr : World), (∀ x ∈ o.op.operands, VR τ (ρ x) (ρ' x)) → WR G B w0 τ wa.heap wr →
  ∃ τ' n' wr', τ.le τ' ∧ (execOp ρ' o).run P wr = .ok n' wr' ∧ NR τ' n n' ∧ WR G B w0 τ' wa'.heap wr'

theorem evalAF_spec {ρ ρ' : Operand → Value} {o : Oper} {v : Value} {τ : Rel} (hv : ∀ x ∈ o.op.operands, VR τ (ρ x) (ρ' x)) (h : evalAF P ρ o = some v) :
    AFb 10 v = true ∧ ∀ w, (execOp ρ' o).run P w = .ok (.value v) w := by
  unfold evalAF at h
  simp only [execQ_eq] at h
  split at h
  · rename_i hc
    simp only [Bool.and_eq_true, List.all_eq_true] at hc
    split at h
    · rename_i u hu
      split at h
      · rename_i hva
        cases h
        refine ⟨hva, fun w => ?_⟩
        have e : execOp ρ' o = execOp ρ o := by
          refine execOp_congr o (fun cs b hs => ?_) (fun x hx => ?_)
          · have := hc.2; unfold noSel at this; rw [hs] at this; cases this
          · exact (AFb.eq 10 _ _ (hc.1 x (by simpa using hx)) (hv x hx)).symm
        rw [e]
        exact still_run _ hu w
      · cases h
    · cases h
  · cases h

theorem evalOp_sound {sp : Spec} (hsp : SpecOk P G sp) {okx : Operand → Bool} {ρ ρ' : Operand → Value} {o : Oper} {wa wa' wr : World} {n : Next} {τ : Rel} (hρ : ∀ x, okx x = true → VR τ (ρ x) (ρ' x)) (hw : WR G B w0 τ wa.heap wr) (h : evalOp P sp okx ρ o wa = some (n, wa')) :
    ∃ τ' n' wr', τ.le τ' ∧ (execOp ρ' o).run P wr = .ok n' wr' ∧ NR τ' n n' ∧ WR G B w0 τ' wa'.heap wr' := by
  unfold evalOp at h
  split at h
  · rename_i ho
    have hv : ∀ x ∈ o.op.operands, VR τ (ρ x) (ρ' x) := fun x hx => hρ x (List.all_eq_true.1 ho x (by simpa using hx))
    split at h
    · rename_i v he
      cases h
      obtain ⟨h1, h2⟩ := evalAF_spec hv he
      exact ⟨τ, _, wr, Rel.le.refl τ, h2 wr, .value _ _ (AFb.vr _ _ h1), hw⟩
    · split at h
      · rename_i hk
        rw [Bool.and_eq_true] at hk
        have hs : Sim P NR τ (execOp ρ o) (execOp ρ' o) := by
          refine sim_exec ρ ρ' o hv hk.1 ?_
          intro t x lo hi mx hop
          have hc := hk.2
          unfold cutB at hc
          rw [hop] at hc
          dsimp only at hc
          unfold cutOk
          split
          · rename_i ad l c hx
            rw [hx] at hc
            simp only [Bool.or_eq_true] at hc
            rcases hc with hc | hc
            · exact .inl (hw.exact hc)
            · exact .inr (zeroV_spec hc)
          · rename_i ad hx
            rw [hx] at hc
            exact hw.exact hc
          · trivial
        split at h
        · rename_i n2 w2 hr
          cases h
          exact hs.run hw hr |>.elim fun τ' ⟨b, wr', h1, h2, h3, h4⟩ => ⟨τ', b, wr', h1, h2, h3, h4⟩
        · cases h
      · exact hsp _ _ o wa wa' n h B w0 τ wr hv hw
  · cases h
end
end Go.Ev
namespace Go.Ev
open Go.RowKit
set_option linter.unusedVariables false
set_option linter.unusedSimpArgs false

section force
variable {β : Type}
def forceNat (n : Nat) (k : Nat → β) : β := match n with | 0 => k 0 | m + 1 => k (m + 1)
theorem forceNat_eq (n : Nat) (k : Nat → β) : forceNat n k = k n := by cases n <;> rfl
def forceInt (n : Int) (k : Int → β) : β := match n with | .ofNat m => forceNat m fun m => k (.ofNat m) | .negSucc m => forceNat m fun m => k (.negSucc m)
theorem forceInt_eq (n : Int) (k : Int → β) : forceInt n k = k n := by cases n <;> simp [forceInt, forceNat_eq]
def forceOptNat (n : Option Nat) (k : Option Nat → β) : β := match n with | none => k none | some m => forceNat m fun m => k (some m)
theorem forceOptNat_eq (n : Option Nat) (k : Option Nat → β) : forceOptNat n k = k n := by cases n <;> simp [forceOptNat, forceNat_eq]
def forceAddr (a : Addr) (k : Addr → β) : β := match a with | ⟨b, o, s⟩ => forceNat b fun b => forceNat o fun o => forceOptNat s fun s => k ⟨b, o, s⟩
theorem forceAddr_eq (a : Addr) (k : Addr → β) : forceAddr a k = k a := by cases a; simp [forceAddr, forceNat_eq, forceOptNat_eq]
def forceOptAddr (n : Option Addr) (k : Option Addr → β) : β := match n with | none => k none | some m => forceAddr m fun m => k (some m)
theorem forceOptAddr_eq (n : Option Addr) (k : Option Addr → β) : forceOptAddr n k = k n := by cases n <;> simp [forceOptAddr, forceAddr_eq]
def forceL {α : Type} (f : α → (α → β) → β) : List α → (List α → β) → β
  | [], k => k []
  | x :: xs, k => f x fun x => forceL f xs fun xs => k (x :: xs)
theorem forceL_eq {α : Type} (f : α → (α → β) → β) (hf : ∀ x k, f x k = k x) : ∀ (l : List α) (k : List α → β), forceL f l k = k l
  | [], k => rfl
  | x :: xs, k => by rw [forceL, hf, forceL_eq f hf xs]
def spine {α : Type} (l : List α) (k : List α → β) : β := forceL (fun x k => k x) l k
theorem spine_eq {α : Type} (l : List α) (k : List α → β) : spine l k = k l := forceL_eq _ (fun _ _ => rfl) l k
def forceByte (b : UInt8) (k : UInt8 → β) : β := match b with | ⟨⟨⟨n, h⟩⟩⟩ => k ⟨⟨⟨n, h⟩⟩⟩
def forceS (s : ByteArray) (k : ByteArray → β) : β := match s with | ⟨⟨l⟩⟩ => spine l fun l => k ⟨⟨l⟩⟩
theorem forceS_eq (s : ByteArray) (k : ByteArray → β) : forceS s k = k s := by cases s with | mk d => cases d with | mk l => simp [forceS, spine_eq]
def forceV : Nat → Value → (Value → β) → β
  | 0, v, k => k v
  | n + 1, v, k => match v with
    | .bool b => match b with | true => k (.bool true) | false => k (.bool false)
    | .int q m => forceInt m fun m => k (.int q m)
    | .string s => forceS s fun s => k (.string s)
    | .pointer a => forceOptAddr a fun a => k (.pointer a)
    | .slice a l c => forceOptAddr a fun a => forceNat l fun l => forceNat c fun c => k (.slice a l c)
    | .map r => forceOptNat r fun r => k (.map r)
    | .iface t v => forceV n v fun v => k (.iface t v)
    | .agg ⟨xs⟩ => forceL (forceV n) xs fun xs => k (.agg ⟨xs⟩)
    | .tuple ⟨xs⟩ => forceL (forceV n) xs fun xs => k (.tuple ⟨xs⟩)
    | .func (.yield l) xs ys => k (.func (.yield l) xs ys)
    | .func fn ⟨xs⟩ ⟨ys⟩ => forceL (forceV n) xs fun xs => forceL (forceV n) ys fun ys => k (.func fn ⟨xs⟩ ⟨ys⟩)
    | v => k v
theorem forceV_eq : ∀ (n : Nat) (v : Value) (k : Value → β), forceV n v k = k v := by
  intro n
  induction n with
  | zero => intro v k; rfl
  | succ n ih =>
    intro v k
    cases v with
    | bool b => cases b <;> rfl
    | int q m => simp [forceV, forceInt_eq]
    | string s => simp [forceV, forceS_eq]
    | pointer a => simp [forceV, forceOptAddr_eq]
    | slice a l c => simp [forceV, forceOptAddr_eq, forceNat_eq]
    | map r => simp [forceV, forceOptNat_eq]
    | iface t v => simp [forceV, ih]
    | agg xs => cases xs; simp [forceV, forceL_eq _ ih]
    | tuple xs => cases xs; simp [forceV, forceL_eq _ ih]
    | func fn xs ys => cases xs; cases ys; cases fn <;> simp [forceV, forceL_eq _ ih]
    | _ => rfl
def forceAct (a : Act) (k : Act → β) : β := match a with | ⟨⟨l⟩, d⟩ => spine l fun l => k ⟨⟨l⟩, d⟩
theorem forceAct_eq (a : Act) (k : Act → β) : forceAct a k = k a := by
  obtain ⟨⟨l⟩, d⟩ := a; simp [forceAct, spine_eq]
def forceObj (o : Obj) (k : Obj → β) : β := match o with
  | .cells ⟨cs⟩ e f => spine cs fun cs => k (.cells ⟨cs⟩ e f)
  | .map ⟨es⟩ c => spine es fun es => forceNat c fun c => k (.map ⟨es⟩ c)
  | o => k o
theorem forceObj_eq (o : Obj) (k : Obj → β) : forceObj o k = k o := by
  cases o with
  | cells cs e f => cases cs; simp [forceObj, spine_eq]
  | map es c => cases es; simp [forceObj, spine_eq, forceNat_eq]
  | _ => rfl
def forceW (w : World) (k : World → β) : β := match w with | ⟨⟨h⟩, t, d, o, u⟩ => forceL forceObj h fun h => k ⟨⟨h⟩, t, d, o, u⟩
theorem forceW_eq (w : World) (k : World → β) : forceW w k = k w := by
  obtain ⟨⟨h⟩, t, d, o, u⟩ := w; simp [forceW, forceL_eq _ forceObj_eq]
end force

/-- Are two values one? -/
def leq {α : Type} (f : α → α → Bool) : List α → List α → Bool
  | [], [] => true
  | x :: xs, y :: ys => f x y && leq f xs ys
  | _, _ => false
theorem leq_eq {α : Type} (f : α → α → Bool) (hf : ∀ x y, f x y = true → x = y) : ∀ (l m : List α), leq f l m = true → l = m
  | [], [], _ => rfl
  | x :: xs, y :: ys, h => by
    simp only [leq, Bool.and_eq_true] at h
    rw [hf _ _ h.1, leq_eq f hf xs ys h.2]
  | [], _ :: _, h => by cases h
  | _ :: _, [], h => by cases h
def bytesEq (a b : ByteArray) : Bool := leq (fun x y => x.toNat == y.toNat) a.data.toList b.data.toList
theorem bytesEq_eq (a b : ByteArray) (h : bytesEq a b = true) : a = b := by
  cases a with | mk a => cases b with | mk b =>
  have := leq_eq _ (fun x y hxy => by have : x.toNat = y.toNat := by simpa using hxy
                                      exact UInt8.toNat_inj.1 this) _ _ h
  simp only at this
  rw [Array.toList_inj.1 this]
def veq : Nat → Value → Value → Bool
  | 0, _, _ => false
  | n + 1, v, u => match v, u with
    | .bool a, .bool b => a == b
    | .int j a, .int k b => j == k && a == b
    | .string a, .string b => bytesEq a b
    | .pointer a, .pointer b => a == b
    | .slice a l c, .slice b m d => a == b && l == m && c == d
    | .map a, .map b => a == b
    | .nilFunc, .nilFunc => true
    | .nilIface, .nilIface => true
    | .iface t a, .iface s b => t == s && veq n a b
    | .agg a, .agg b => leq (veq n) a.toList b.toList
    | .tuple a, .tuple b => leq (veq n) a.toList b.toList
    | .func f a b, .func g c d => f == g && leq (veq n) a.toList c.toList && leq (veq n) b.toList d.toList
    | _, _ => false
theorem veq_eq : ∀ (n : Nat) (v u : Value), veq n v u = true → v = u := by
  intro n
  induction n with
  | zero => intro v u h; cases h
  | succ n ih =>
    have hl : ∀ a b : Array Value, leq (veq n) a.toList b.toList = true → a = b := fun a b h => Array.toList_inj.1 (leq_eq _ ih _ _ h)
    intro v u h
    unfold veq at h
    split at h
    · simp at h; rw [h]
    · simp at h; rw [h.1, h.2]
    · rw [bytesEq_eq _ _ h]
    · simp at h; rw [h]
    · simp at h; rw [h.1.1, h.1.2, h.2]
    · simp at h; rw [h]
    · rfl
    · rfl
    · simp only [Bool.and_eq_true, beq_iff_eq] at h; rw [h.1, ih _ _ h.2]
    · rw [hl _ _ h]
    · rw [hl _ _ h]
    · simp only [Bool.and_eq_true, beq_iff_eq] at h; rw [h.1.1, hl _ _ h.1.2, hl _ _ h.2]
    · cases h
end Go.Ev
namespace Go.Ev
open Go.RowKit
set_option linter.unusedVariables false
set_option linter.unusedSimpArgs false

abbrev Ev := FuncId → Array Value → World → Option (Value × World)

def forceArr {β : Type} (xs : Array Value) (k : Array Value → β) : β := match xs with | ⟨l⟩ => forceL (forceV 20) l fun l => k ⟨l⟩
theorem forceArr_eq {β : Type} (xs : Array Value) (k : Array Value → β) : forceArr xs k = k xs := by cases xs; simp [forceArr, forceL_eq _ (forceV_eq 20)]

def forceAt {β : Type} : Nat → List Obj → (List Obj → β) → β
  | _, [], k => k []
  | 0, o :: r, k => forceObj o fun o => spine r fun r => k (o :: r)
  | n + 1, o :: r, k => forceAt n r fun r => k (o :: r)
theorem forceAt_eq {β : Type} : ∀ (n : Nat) (l : List Obj) (k : List Obj → β), forceAt n l k = k l
  | 0, [], k => rfl
  | _ + 1, [], k => rfl
  | 0, o :: r, k => by rw [forceAt, forceObj_eq, spine_eq]
  | n + 1, o :: r, k => by rw [forceAt, forceAt_eq n r]
def writes : Op → Bool
  | .alloc _ | .box _ _ | .buildSlice _ _ _ | .makeSlice _ _ _ | .makeMap _ _ | .store _ _ _ | .mapUpdate _ _ _ _ | .insert _ _ _ _ => true
  | .call ⟨.builtin _, _, _⟩ => true
  | _ => false
def tgt (ρ : Operand → Value) (o : Oper) (n : Nat) : Nat := match o.op with
  | .store _ a _ => match ρ a with | .pointer (some ad) => ad.block | _ => n
  | .mapUpdate _ m _ _ => match ρ m with | .map (some k) => k | _ => n
  | .insert _ m _ _ => match ρ m with | .map (some k) => k | _ => n
  | .call ⟨_, args, _⟩ => match args.toList with | m :: _ => (match ρ m with | .map (some k) => k | _ => n) | _ => n
  | _ => n
def forceWo {β : Type} (ρ : Operand → Value) (o : Oper) (n : Nat) (w : World) (k : World → β) : β := match writes o.op with
  | true => match w with | ⟨⟨h⟩, t, d, os, u⟩ => forceAt (tgt ρ o n) h fun h => k ⟨⟨h⟩, t, d, os, u⟩
  | false => k w
theorem forceWo_eq {β : Type} (ρ : Operand → Value) (o : Oper) (n : Nat) (w : World) (k : World → β) : forceWo ρ o n w k = k w := by
  obtain ⟨⟨h⟩, t, d, os, u⟩ := w
  unfold forceWo
  split <;> simp [forceAt_eq]

/-- Is an operation wanted? -/
def wantedE (ops : Array Oper) (e : Env) (o : Oper) : Option Bool := match o.guard with
  | none => some true
  | some (j, want) => match (ops[j]?).bind (·.dst) with
    | none => some false
    | some d => match look e.l d with
      | some (.bool b) => some (b == want)
      | some (.func _ _ _) => none
      | some _ => some false
      | none => none
theorem wantedE_spec {τ : Rel} {ops : Array Oper} {e : Env} {a' : Act} {o : Oper} {q : Bool} (h : wantedE ops e o = some q) (ha : EnvR τ e a') : Region.wanted o (yielded ops a'.tmps) = q := by
  unfold wantedE at h
  unfold Region.wanted
  cases hg : o.guard with
  | none => rw [hg] at h; cases h; rfl
  | some x =>
    obtain ⟨j, want⟩ := x
    rw [hg] at h
    dsimp only at h ⊢
    unfold yielded
    cases hd : ((ops[j]?).bind (·.dst)) with
    | none => rw [hd] at h; cases h; rfl
    | some d =>
      rw [hd] at h
      simp only [Option.bind_some]
      dsimp only at h
      cases hl : look e.l d with
      | none => rw [hl] at h; cases h
      | some v =>
        rw [hl] at h
        have hv := ha.tmps d v hl
        rw [Array.getD_eq_getD_getElem?] at hv
        cases hx : a'.tmps[d]? with
        | none =>
          rw [hx] at hv
          simp only [Option.getD_none] at hv
          cases v <;> first | (cases h; done) | (cases h; rfl) | (cases hv)
        | some u =>
          rw [hx] at hv
          simp only [Option.getD_some] at hv
          cases hv <;> first | (cases h; done) | (cases h; rfl) | (cases h; cases want <;> rename_i b <;> cases b <;> rfl)

section ev
variable (P : Program) (G : Gl) (sp : Spec) (ev : Ev)

def stepB (o : Oper) (e : Env) (w : World) : Option (Env × World) :=
  match e.fits o.dst with
  | false => none
  | true => match evalOp P sp (e.ok G) e.eval o w with
    | some (.value v, w') => forceV 20 v fun v => forceWo e.eval o w.heap.size w' fun w' => putK e o.dst v fun e' => some (e', w')
    | some (.skip, w') => forceWo e.eval o w.heap.size w' fun w' => putK e o.dst undef fun e' => some (e', w')
    | some (.enter f args, w') => forceArr args fun args => match ev f args w' with
      | some (v, w'') => forceV 20 v fun v => putK e o.dst v fun e' => some (e', w'')
      | none => none
    | _ => none
def stepOps (ops : Array Oper) : List Nat → Env → World → Option (Env × World)
  | [], e, w => some (e, w)
  | i :: rest, e, w => match ops[i]? with
    | none => stepOps ops rest e w
    | some o => match wantedE ops e o with
      | some true => match stepB P G sp ev o e w with
        | some (e', w') => stepOps ops rest e' w'
        | none => none
      | some false => match e.fits o.dst with
        | true => putK e o.dst undef fun e' => stepOps ops rest e' w
        | false => none
      | none => none
def evalLoop (body : Env → World → Option (Exit × Env × World)) : Nat → Env → World → Option (Exit × Env × World)
  | 0, _, _ => none
  | n + 1, a, w => match body a w with
    | some (.normal, a', w') => evalLoop body n a' w'
    | r => r
abbrev Drawn := Array Oper → Env → World → Option (Env × World)
def evalCode (dr : Drawn) : Nat → Code → Env → World → Option (Exit × Env × World)
  | 0, _, _, _ => none
  | n + 1, c, a, w => match c with
    | .skip => some (.normal, a, w)
    | .label _ => some (.normal, a, w)
    | .ret => some (.ret, a, w)
    | .exit id => some (.exit id, a, w)
    | .region _ ops false => match stepOps P G sp ev ops (List.range ops.size) a w with
      | some (a', w') => some (.normal, a', w')
      | none => none
    | .region _ ops true => match dr ops a w with
      | some (a', w') => some (.normal, a', w')
      | none => none
    | .seq x y => match evalCode dr n x a w with
      | some (.normal, a', w') => evalCode dr n y a' w'
      | r => r
    | .cond c x y => match a.eval c with
      | .bool true => evalCode dr n x a w
      | .bool false => evalCode dr n y a w
      | _ => none
    | .block id body => match evalCode dr n body a w with
      | some (.exit k, a', w') => if k = id then some (.normal, a', w') else some (.exit k, a', w')
      | r => r
    | .loop body => evalLoop (evalCode dr n body) n a w
    | .scope body => match evalCode dr n body a w with
      | some (.goto _, _, _) => none
      | r => r
    | _ => none
end ev

section sound
variable {P : Program} {G : Gl} {sp : Spec} {ev : Ev}

def EvOk (P : Program) (G : Gl) (ev : Ev) : Prop := ∀ f args wa v wa2, ev f args wa = some (v, wa2) → ∀ B w0 τ args' wr, AR τ args args' → WR G B w0 τ wa.heap wr →
  Calls P f args' wr fun e wr' => ∃ τ' v', e = .returned v' ∧ τ.le τ' ∧ VR τ' v v' ∧ WR G B w0 τ' wa2.heap wr'

theorem stepB_sound (hsp : SpecOk P G sp) (hev : EvOk P G ev) {o : Oper} {a a2 : Env} {wa wa2 : World} (h : stepB P G sp ev o a wa = some (a2, wa2)) {B : FM} {w0 : World} {τ : Rel} {a' : Act} {wr : World} (ha : EnvR τ a a') (hw : WR G B w0 τ wa.heap wr)
    {K : Act → World → Prop} {Q : Exit → Act → World → Prop} (hK : ∀ τ' a2' wr', τ.le τ' → EnvR τ' a2 a2' → WR G B w0 τ' wa2.heap wr' → K a2' wr') : o.wp P a' wr K Q := by
  unfold stepB at h
  unfold Oper.wp
  split at h
  · cases h
  rename_i hfit
  have hρ : ∀ x, a.ok G x = true → VR τ (a.eval x) (a'.eval x) := fun x hx => ha.eval hw.glob x hx
  split at h
  · rename_i v w' he
    simp only [forceV_eq, forceWo_eq, putK_eq, Option.some.injEq, Prod.mk.injEq] at h
    obtain ⟨rfl, rfl⟩ := h
    obtain ⟨τ', n', wr', h1, h2, h3, h4⟩ := evalOp_sound hsp hρ hw he
    rw [h2]
    cases h3 with
    | value v v' hv => exact hK τ' _ _ h1 ((ha.mono h1).put o.dst hfit hv) h4
  · rename_i w' he
    simp only [forceWo_eq, putK_eq, Option.some.injEq, Prod.mk.injEq] at h
    obtain ⟨rfl, rfl⟩ := h
    obtain ⟨τ', n', wr', h1, h2, h3, h4⟩ := evalOp_sound hsp hρ hw he
    rw [h2]
    cases h3 with
    | skip => exact hK τ' _ _ h1 ((ha.mono h1).put o.dst hfit (undef_vr _)) h4
  · rename_i f args w' he
    simp only [forceArr_eq] at h
    split at h
    · rename_i v w'' hc
      simp only [forceV_eq, putK_eq, Option.some.injEq, Prod.mk.injEq] at h
      obtain ⟨rfl, rfl⟩ := h
      obtain ⟨τ', n', wr', h1, h2, h3, h4⟩ := evalOp_sound hsp hρ hw he
      rw [h2]
      cases h3 with
      | enter f xs ys hx =>
        refine (hev _ _ _ _ _ hc B w0 τ' ys wr' hx h4).mono ?_
        rintro e wr2 ⟨τ2, v', rfl, l2, hv, w2⟩
        exact hK τ2 _ _ (h1.trans l2) ((ha.mono (h1.trans l2)).put o.dst hfit hv) w2
    · cases h
  · cases h

theorem stepOps_sound (hsp : SpecOk P G sp) (hev : EvOk P G ev) (ops : Array Oper) : ∀ (l : List Nat) {a a2 : Env} {wa wa2 : World}, stepOps P G sp ev ops l a wa = some (a2, wa2) → ∀ {B : FM} {w0 : World} {τ : Rel} {a' : Act} {wr : World}, EnvR τ a a' → WR G B w0 τ wa.heap wr →
    ∀ {Q : Exit → Act → World → Prop}, (∀ τ' a2' wr', τ.le τ' → EnvR τ' a2 a2' → WR G B w0 τ' wa2.heap wr' → Q .normal a2' wr') → wpOps P ops Q l a' wr := by
  intro l
  induction l with
  | nil =>
    intro a a2 wa wa2 h B w0 τ a' wr ha hw Q hQ
    simp only [stepOps, Option.some.injEq, Prod.mk.injEq] at h
    obtain ⟨rfl, rfl⟩ := h
    exact hQ τ _ _ (Rel.le.refl _) ha hw
  | cons i rest ih =>
    intro a a2 wa wa2 h B w0 τ a' wr ha hw Q hQ
    unfold stepOps at h
    unfold wpOps
    cases ho : ops[i]? with
    | none => rw [ho] at h; exact ih h ha hw hQ
    | some o =>
      rw [ho] at h
      dsimp only at h ⊢
      split at h
      · rename_i hwant
        rw [if_pos (wantedE_spec hwant ha)]
        split at h
        · rename_i a1 w1 hs
          refine .inl (stepB_sound hsp hev hs ha hw ?_)
          intro τ' a1' wr' l1 ha1 hw1
          exact ih h ha1 hw1 (fun τ2 a2' wr2 l2 h2 h3 => hQ τ2 a2' wr2 (l1.trans l2) h2 h3)
        · cases h
      · rename_i hwant
        rw [if_neg (by rw [wantedE_spec hwant ha]; simp)]
        split at h
        · rename_i hfit
          rw [putK_eq] at h
          exact ih h (ha.put o.dst hfit (undef_vr _)) hw hQ
        · cases h
      · cases h

/-- What the drawn regions have to show. -/
def DrOk (P : Program) (G : Gl) (dr : Drawn) : Prop := ∀ id ops a a2 wa wa2, dr ops a wa = some (a2, wa2) → ∀ B w0 τ a' wr, EnvR τ a a' → WR G B w0 τ wa.heap wr →
  ∀ Q : Exit → Act → World → Prop, (∀ τ' a2' wr', τ.le τ' → EnvR τ' a2 a2' → WR G B w0 τ' wa2.heap wr' → Q .normal a2' wr') → (Code.region id ops true).wp P Q a' wr

theorem evalLoop_sound {body : Env → World → Option (Exit × Env × World)} {c : Code}
    (hb : ∀ {ex a a2 wa wa2}, body a wa = some (ex, a2, wa2) → ∀ {B w0 τ a' wr}, EnvR τ a a' → WR G B w0 τ wa.heap wr → ∀ {Q : Exit → Act → World → Prop}, (∀ τ' a2' wr', τ.le τ' → EnvR τ' a2 a2' → WR G B w0 τ' wa2.heap wr' → Q ex a2' wr') → c.wp P Q a' wr) :
    ∀ (n : Nat) {ex a a2 wa wa2}, evalLoop body n a wa = some (ex, a2, wa2) → ∀ {B w0 τ a' wr}, EnvR τ a a' → WR G B w0 τ wa.heap wr → ∀ {Q : Exit → Act → World → Prop}, (∀ τ' a2' wr', τ.le τ' → EnvR τ' a2 a2' → WR G B w0 τ' wa2.heap wr' → Q ex a2' wr') → ex ≠ .normal → Code.rounds P c Q n a' wr := by
  intro n
  induction n with
  | zero => intro ex a a2 wa wa2 h; cases h
  | succ n ih =>
    intro ex a a2 wa wa2 h B w0 τ a' wr ha hw Q hQ hne
    unfold evalLoop at h
    unfold Code.rounds
    cases hbd : body a wa with
    | none => rw [hbd] at h; cases h
    | some r =>
      obtain ⟨e1, a1, w1⟩ := r
      rw [hbd] at h
      refine hb hbd ha hw ?_
      intro τ' a1' wr' l1 ha1 hw1
      cases e1 with
      | normal => exact ih h ha1 hw1 (fun τ2 a2' wr2 l2 h2 h3 => hQ τ2 a2' wr2 (l1.trans l2) h2 h3) hne
      | _ => cases h; exact hQ τ' a1' wr' l1 ha1 hw1
end sound
end Go.Ev
namespace Go.Ev
open Go.RowKit
set_option linter.unusedVariables false
set_option linter.unusedSimpArgs false

section sound
variable {P : Program} {G : Gl} {sp : Spec} {ev : Ev}

theorem evalLoop_ne {body : Env → World → Option (Exit × Env × World)} : ∀ (n : Nat) {ex a a2 wa wa2}, evalLoop body n a wa = some (ex, a2, wa2) → ex ≠ .normal := by
  intro n
  induction n with
  | zero => intro ex a a2 wa wa2 h; cases h
  | succ n ih =>
    intro ex a a2 wa wa2 h
    unfold evalLoop at h
    cases hbd : body a wa with
    | none => rw [hbd] at h; cases h
    | some r =>
      obtain ⟨e1, a1, w1⟩ := r
      rw [hbd] at h
      cases e1 with
      | normal => exact ih h
      | _ => cases h; simp

theorem evalCode_sound (hsp : SpecOk P G sp) (hev : EvOk P G ev) {dr : Drawn} (hdr : DrOk P G dr) : ∀ (n : Nat) {c : Code} {ex a a2 wa wa2}, evalCode P G sp ev dr n c a wa = some (ex, a2, wa2) → ∀ {B w0 τ a' wr}, EnvR τ a a' → WR G B w0 τ wa.heap wr →
    ∀ {Q : Exit → Act → World → Prop}, (∀ τ' a2' wr', τ.le τ' → EnvR τ' a2 a2' → WR G B w0 τ' wa2.heap wr' → Q ex a2' wr') → c.wp P Q a' wr := by
  intro n
  induction n with
  | zero => intro c ex a a2 wa wa2 h; cases h
  | succ n ih =>
    intro c ex a a2 wa wa2 h B w0 τ a' wr ha hw Q hQ
    unfold evalCode at h
    cases c with
    | skip => cases h; exact wp_skip (hQ τ _ _ (Rel.le.refl _) ha hw)
    | label l => cases h; exact wp_label (hQ τ _ _ (Rel.le.refl _) ha hw)
    | ret => cases h; exact wp_ret (hQ τ _ _ (Rel.le.refl _) ha hw)
    | exit id => cases h; exact wp_exit (hQ τ _ _ (Rel.le.refl _) ha hw)
    | region id ops dw =>
      cases dw with
      | false =>
        dsimp only at h
        split at h
        · rename_i a1 w1 hs
          cases h
          exact wp_region (stepOps_sound hsp hev ops _ hs ha hw hQ)
        · cases h
      | true =>
        dsimp only at h
        split at h
        · rename_i a1 w1 hs
          cases h
          exact hdr id ops a _ wa _ hs B w0 τ a' wr ha hw Q hQ
        · cases h
    | seq x y =>
      dsimp only at h
      refine wp_seq ?_
      cases hx : evalCode P G sp ev dr n x a wa with
      | none => rw [hx] at h; cases h
      | some r =>
        obtain ⟨e1, a1, w1⟩ := r
        rw [hx] at h
        refine ih hx ha hw ?_
        intro τ' a1' wr' l1 ha1 hw1
        cases e1 with
        | normal => exact ih h ha1 hw1 (fun τ2 a2' wr2 l2 h2 h3 => hQ τ2 a2' wr2 (l1.trans l2) h2 h3)
        | _ => cases h; exact hQ τ' a1' wr' l1 ha1 hw1
    | cond c x y =>
      dsimp only at h
      have hop : ∀ b, a.eval c = .bool b → a'.eval c = .bool b := by
        intro b hb
        cases c with
        | tmp t =>
          have hb2 : (match look a.l t with | some v => v | none => undef) = .bool b := hb
          cases hl : look a.l t with
          | none => rw [hl] at hb2; cases hb2
          | some v =>
            rw [hl] at hb2
            have hb2 : v = .bool b := hb2
            subst hb2
            have hv := ha.tmps t _ hl
            show a'.tmps.getD t undef = .bool b
            generalize a'.tmps.getD t undef = q at hv ⊢
            cases hv; rfl
        | const v => exact hb
        | global g => cases hb
        | func f => cases hb
      split at h
      · rename_i hc
        exact wp_cond_true (hop _ hc) (ih h ha hw hQ)
      · rename_i hc
        exact wp_cond_false (hop _ hc) (ih h ha hw hQ)
      · cases h
    | block id body =>
      dsimp only at h
      refine wp_block ?_
      cases hx : evalCode P G sp ev dr n body a wa with
      | none => rw [hx] at h; cases h
      | some r =>
        obtain ⟨e1, a1, w1⟩ := r
        rw [hx] at h
        refine ih hx ha hw ?_
        intro τ' a1' wr' l1 ha1 hw1
        cases e1 with
        | exit k =>
          dsimp only at h
          show (if k = id then Q Exit.normal a1' wr' else Q (Exit.exit k) a1' wr')
          split at h
          · rename_i hk
            cases h
            rw [if_pos hk]; exact hQ τ' a1' wr' l1 ha1 hw1
          · rename_i hk
            cases h
            rw [if_neg hk]; exact hQ τ' a1' wr' l1 ha1 hw1
        | _ => cases h; exact hQ τ' a1' wr' l1 ha1 hw1
    | loop body =>
      dsimp only at h
      exact wp_loop_rounds n (evalLoop_sound (body := evalCode P G sp ev dr n body) (c := body) (fun h1 => fun h2 h3 => fun h4 => ih h1 h2 h3 h4) n h ha hw hQ (evalLoop_ne n h))
    | scope body =>
      dsimp only at h
      refine wp_scope_straight ?_
      cases hx : evalCode P G sp ev dr n body a wa with
      | none => rw [hx] at h; cases h
      | some r =>
        obtain ⟨e1, a1, w1⟩ := r
        rw [hx] at h
        refine ih hx ha hw ?_
        intro τ' a1' wr' l1 ha1 hw1
        cases e1 with
        | goto l => cases h
        | _ => cases h; exact hQ τ' a1' wr' l1 ha1 hw1
    | _ => cases h

/-- A computation that writes nothing. -/
inductive RO : {α : Type} → Sem α → Prop
  | pure {α : Type} (a : α) : RO (.pure a)
  | load {α : Type} (m : Mode) (a : Addr) (k : Value → Sem α) : (∀ v, RO (k v)) → RO (.load m a k)
  | program {α : Type} (k : Program → Sem α) : (∀ p, RO (k p)) → RO (.program k)
  | mark {α : Type} (m : Mark) (k : Sem α) : RO k → RO (.mark m k)
  | halt {α : Type} (h : Halt) : RO (.halt h : Sem α)
theorem RO.same {α : Type} {s : Sem α} (h : RO s) : ∀ {w w' : World} {a : α}, s.run P w = .ok a w' → w' = w := by
  induction h with
  | pure a => intro w w' b hr; simp only [Sem.run, Result.ok.injEq] at hr; exact hr.2.symm
  | load m a k _ ih =>
    intro w w' b hr
    simp only [Sem.run] at hr
    split at hr
    · exact ih _ hr
    · split at hr
      · exact ih _ hr
      · cases hr
  | program k _ ih => intro w w' b hr; exact ih P hr
  | mark m k _ ih => intro w w' b hr; exact ih hr
  | halt h => intro w w' b hr; cases hr
theorem RO.bind {α β : Type} {s : Sem α} (h : RO s) {f : α → Sem β} (hf : ∀ a, RO (f a)) : RO (s.bind f) := by
  induction h with
  | pure a => exact hf a
  | load m a k _ ih => exact .load m a _ (fun v => ih v)
  | program k _ ih => exact .program _ (fun v => ih v)
  | mark m k _ ih => exact .mark m _ ih
  | halt h => exact .halt h
theorem RO.then {α β : Type} {s : Sem α} (h : RO s) {f : α → Sem β} (hf : ∀ a, RO (f a)) : RO (s >>= f) := RO.bind h hf
theorem ro_typeInfo (t : TypeId) : RO (typeInfo t) := RO.then (.program _ (fun p => .pure p)) (fun p => by split <;> first | exact .pure _ | exact .halt _)
theorem ro_underlying (t : TypeId) : RO (underlying t) := RO.then (.program _ (fun p => .pure p)) (fun p => by split <;> first | exact .pure _ | exact .halt _)
theorem ro_cells : ∀ (n : Nat) (a : Addr) (i : Nat) (xs : Array Value), RO (loadCellsFrom a i n xs)
  | 0, a, i, xs => .pure _
  | n + 1, a, i, xs => RO.then (.load _ _ _ (fun v => .pure v)) (fun v => ro_cells n a (i + 1) _)
theorem ro_loadVar (t : TypeId) (a : Addr) : RO (loadVar t a) := by
  refine RO.then (RO.then (ro_underlying t) (fun d => by split <;> exact .pure _)) (fun b => ?_)
  split
  · refine RO.then (RO.then (ro_typeInfo t) (fun i => .pure _)) (fun n => RO.then (ro_cells n a 0 _) (fun xs => .pure _))
  · exact .load _ _ _ (fun v => .pure v)
theorem ro_mapM {α β : Type} {f : α → Sem β} (hf : ∀ x, RO (f x)) : ∀ l : List α, RO (l.mapM f)
  | [] => by rw [List.mapM_nil]; exact .pure _
  | x :: l => by rw [List.mapM_cons]; exact RO.then (hf x) (fun a => RO.then (ro_mapM hf l) (fun b => .pure _))
theorem ro_results (fn : Func) (xs : Array Value) : RO (results fn xs) := by
  unfold results
  refine RO.then ?_ (fun vs => .pure _)
  rw [Array.mapM_eq_mapM_toList]
  refine RO.then (ro_mapM (fun x => ?_) _) (fun l => .pure _)
  cases x with
  | tmp t => exact .pure _
  | cell a t =>
    refine RO.then ?_ (fun a => ro_loadVar t a)
    unfold asAddr
    split
    · exact .pure _
    · unfold runtimePanic
      exact RO.then (.program _ (fun p => .pure p)) (fun p => .halt _)
    · exact .halt _

theorem sim_mapM {τ : Rel} {α : Type} {f g : α → Sem Value} : ∀ (l : List α) {τ' : Rel}, τ.le τ' → (∀ x ∈ l, ∀ τ', τ.le τ' → Sim P RV τ' (f x) (g x)) → Sim P (fun τ (a b : List Value) => AR τ ⟨a⟩ ⟨b⟩) τ' (l.mapM f) (l.mapM g) := by
  intro l
  induction l with
  | nil => intro τ' h _; rw [List.mapM_nil, List.mapM_nil]; exact Sim.pure _ _ _ (AR.nil _)
  | cons x l ih =>
    intro τ' h hf
    rw [List.mapM_cons, List.mapM_cons]
    refine Sim.andThen (hf x (by simp) τ' h) ?_
    intro τ1 a b h1 hab
    refine Sim.andThen (ih (h.trans h1) (fun y hy => hf y (by simp [hy]))) ?_
    intro τ2 as bs h2 hs
    refine Sim.pure _ _ _ ?_
    have := (AR.one (hab.mono h2)).append hs
    simpa using this
theorem sim_results (fn : Func) {τ : Rel} {xs ys : Array Value} (h : ∀ r ∈ fn.results, match r with | .tmp t => VR τ (xs.getD t undef) (ys.getD t undef) | .cell t _ => VR τ (xs.getD t undef) (ys.getD t undef)) : Sim P RV τ (results fn xs) (results fn ys) := by
  unfold results
  refine Sim.andThen (R := fun τ a b => AR τ a b) ?_ ?_
  · rw [Array.mapM_eq_mapM_toList, Array.mapM_eq_mapM_toList]
    refine Sim.andThen (sim_mapM fn.results.toList (Rel.le.refl τ) ?_) ?_
    · intro x hx τ' hl
      have hxx := h x (by simpa using hx)
      cases x with
      | tmp t => exact Sim.pure _ _ _ (VR.mono hl hxx)
      | cell a t =>
        refine Sim.andThen (R := RA) ?_ ?_
        · have hx : VR τ' (xs.getD a undef) (ys.getD a undef) := VR.mono hl hxx
          clear hxx
          generalize xs.getD a undef = p at hx ⊢
          generalize ys.getD a undef = q at hx ⊢
          cases hx with
          | ptr k r o i t => exact Sim.pure _ _ _ ⟨k, r, o, i, rfl, rfl, t⟩
          | ptr0 => exact Sim.never _ _ _ (by unfold asAddr; exact never_runtime _)
          | _ => exact Sim.halt _ _ _
        · intro τ2 a b h2 hab
          exact sim_loadVar t hab
    · intro τ1 a b h1 hab
      exact Sim.pure _ _ _ hab
  · intro τ1 a b h1 hab
    refine Sim.pure _ _ _ ?_
    by_cases h1 : a.size = 1
    · have h2 : b.size = 1 := by rw [← hab.1]; exact h1
      rw [dif_pos h1, dif_pos h2]
      exact hab.2 0 _ _ (Array.getElem?_eq_getElem (by omega)) (Array.getElem?_eq_getElem (by omega))
    · have h2 : b.size ≠ 1 := by rw [← hab.1]; exact h1
      rw [dif_neg h1, dif_neg h2]
      exact VR.tuple_ hab

/-- The temporaries of an answer, as a row. -/
def resTmps (fn : Func) : List Nat := fn.results.toList.map fun | .tmp t => t | .cell t _ => t
def Env.row (e : Env) (ts : List Nat) : Array Value := (ts.foldl (fun (r : Array Value) t => match look e.l t with | some v => r.setIfInBounds t v | none => r) (Array.replicate ((ts.foldl max 0) + 1) undef))
def Env.has (e : Env) (ts : List Nat) : Bool := ts.all fun t => (look e.l t).isSome
theorem row_get (e : Env) : ∀ (ts : List Nat) (r : Array Value) (t : Nat), (∀ x ∈ ts, (look e.l x).isSome = true ∧ x < r.size) →
    (ts.foldl (fun (r : Array Value) t => match look e.l t with | some v => r.setIfInBounds t v | none => r) r)[t]? = if t ∈ ts then look e.l t else r[t]?
  | [], r, t, _ => by simp
  | x :: ts, r, t, h => by
    obtain ⟨h1, h2⟩ := h x (by simp)
    obtain ⟨v, hv⟩ := Option.isSome_iff_exists.1 h1
    rw [List.foldl_cons, hv]
    dsimp only
    rw [row_get e ts _ t (fun y hy => ⟨(h y (by simp [hy])).1, by simpa using (h y (by simp [hy])).2⟩)]
    by_cases ht : t ∈ ts
    · rw [if_pos ht, if_pos (by simp [ht])]
    · rw [if_neg ht]
      by_cases hx : x = t
      · subst hx
        rw [if_pos (by simp), Array.getElem?_setIfInBounds_self, if_pos h2, hv]
      · rw [if_neg (by simp [ht]; exact fun e => hx e.symm), Array.getElem?_setIfInBounds_ne hx]
theorem foldl_max : ∀ (ts : List Nat) (m : Nat), m ≤ ts.foldl max m ∧ ∀ x ∈ ts, x ≤ ts.foldl max m
  | [], m => ⟨Nat.le_refl _, fun x h => by cases h⟩
  | y :: ts, m => by
    obtain ⟨h1, h2⟩ := foldl_max ts (max m y)
    rw [List.foldl_cons]
    refine ⟨Nat.le_trans (Nat.le_max_left _ _) h1, fun x hx => ?_⟩
    rcases List.mem_cons.1 hx with rfl | hx
    · exact Nat.le_trans (Nat.le_max_right _ _) h1
    · exact h2 x hx
theorem row_vr {τ : Rel} {e : Env} {a' : Act} (ha : EnvR τ e a') {ts : List Nat} (hs : e.has ts = true) (t : Nat) (ht : t ∈ ts) : VR τ ((e.row ts).getD t undef) (a'.tmps.getD t undef) := by
  unfold Env.has at hs
  rw [List.all_eq_true] at hs
  obtain ⟨v, hv⟩ := Option.isSome_iff_exists.1 (hs t ht)
  have e1 : (e.row ts)[t]? = some v := by
    unfold Env.row
    rw [row_get e ts _ t (fun x hx => ⟨hs x hx, by have := (foldl_max ts 0).2 x hx; simp; omega⟩), if_pos ht, hv]
  rw [Array.getD_eq_getD_getElem?, e1]
  exact ha.tmps t v hv

def argsL : Nat → List Value → List (Nat × Value)
  | _, [] => []
  | i, v :: vs => (i, v) :: argsL (i + 1) vs
theorem argsL_look : ∀ (vs : List Value) (i t : Nat), look (argsL i vs) t = if i ≤ t then vs[t - i]? else none
  | [], i, t => by simp [argsL, look]
  | v :: vs, i, t => by
    unfold argsL look
    by_cases h : i = t
    · subst h
      rw [Nat.beq_refl]; simp
    · have hb : Nat.beq i t = false := by
        cases hq : Nat.beq i t with
        | false => rfl
        | true => exact absurd (Nat.eq_of_beq_eq_true hq) h
      rw [hb]
      dsimp only
      rw [argsL_look vs (i + 1) t]
      by_cases h2 : i + 1 ≤ t
      · rw [if_pos h2, if_pos (by omega)]
        rw [show t - i = (t - (i + 1)) + 1 by omega, List.getElem?_cons_succ]
      · rw [if_neg h2, if_neg (by omega)]

/-- A function's run; what is known already is taken from a book. -/
def evalFn (P : Program) (G : Gl) (sp : Spec) (dr : Ev → Drawn) (book : Ev) (fuel : Nat) : Nat → Ev
  | 0, _, _, _ => none
  | n + 1, f, args, w => match book f args w with
    | some r => some r
    | none => match P.funcs[f]? with
      | none => none
      | some fn => match fn.body with
        | none => none
        | some body =>
          match evalCode P G sp (evalFn P G sp dr book fuel n) (dr (evalFn P G sp dr book fuel n)) fuel body ⟨args.size + (fn.ntmps - args.size), argsL 0 args.toList⟩ w with
          | some (.ret, e, w) => match e.has (resTmps fn) with
            | true => match (results fn (e.row (resTmps fn))).run P w with
              | .ok v w => forceV 20 v fun v => some (v, w)
              | _ => none
            | false => none
          | some (.normal, e, w) => match e.has (resTmps fn) with
            | true => match (results fn (e.row (resTmps fn))).run P w with
              | .ok v w => forceV 20 v fun v => some (v, w)
              | _ => none
            | false => none
          | _ => none

theorem evalFn_sound (hsp : SpecOk P G sp) {dr : Ev → Drawn} (hdr : ∀ ev, EvOk P G ev → DrOk P G (dr ev)) {book : Ev} (hb : EvOk P G book) (fuel : Nat) : ∀ n, EvOk P G (evalFn P G sp dr book fuel n) := by
  intro n
  induction n with
  | zero => intro f args wa v wa2 h; cases h
  | succ n ih =>
    intro f args wa v wa2 h B w0 τ args' wr hA hw
    unfold evalFn at h
    split at h
    · rename_i r hr
      cases h
      exact hb f args wa v wa2 hr B w0 τ args' wr hA hw
    · split at h
      · cases h
      · rename_i fn hfn
        split at h
        · cases h
        · rename_i body hbody
          have ha : EnvR τ ⟨args.size + (fn.ntmps - args.size), argsL 0 args.toList⟩ ⟨args' ++ Array.replicate (fn.ntmps - args'.size) undef, []⟩ := by
            refine ⟨fun t u hu => ?_, ?_, rfl⟩
            · rw [argsL_look, if_pos (Nat.zero_le _), Nat.sub_zero, Array.getElem?_toList] at hu
              obtain ⟨u', e, hv⟩ := hA.get hu
              have hlt := (Array.getElem?_eq_some_iff.1 e).1
              rw [Array.getD_eq_getD_getElem?, Array.getElem?_append, if_pos hlt, e]
              exact hv
            · simp [hA.1]
          have fin : ∀ {ex e1 w1}, (ex = Exit.ret ∨ ex = Exit.normal) → evalCode P G sp (evalFn P G sp dr book fuel n) (dr (evalFn P G sp dr book fuel n)) fuel body ⟨args.size + (fn.ntmps - args.size), argsL 0 args.toList⟩ wa = some (ex, e1, w1) → e1.has (resTmps fn) = true →
              (results fn (e1.row (resTmps fn))).run P w1 = .ok v wa2 → Calls P f args' wr fun e wr' => ∃ τ' v', e = .returned v' ∧ τ.le τ' ∧ VR τ' v v' ∧ WR G B w0 τ' wa2.heap wr' := by
            intro ex e1 w1 hex hc hhas hr
            refine calls_of_wp hfn hbody ?_
            refine evalCode_sound hsp ih (hdr _ ih) fuel hc ha hw ?_
            intro τ1 a1' wr1 l1 ha1 hw1
            have hres : ∀ r ∈ fn.results, match r with | .tmp t => VR τ1 ((e1.row (resTmps fn)).getD t undef) (a1'.tmps.getD t undef) | .cell t _ => VR τ1 ((e1.row (resTmps fn)).getD t undef) (a1'.tmps.getD t undef) := by
              intro r hrm
              cases r with
              | tmp t => exact row_vr ha1 hhas t (by unfold resTmps; rw [List.mem_map]; exact ⟨.tmp t, by simpa using hrm, rfl⟩)
              | cell t x => exact row_vr ha1 hhas t (by unfold resTmps; rw [List.mem_map]; exact ⟨.cell t x, by simpa using hrm, rfl⟩)
            obtain ⟨τ2, v', wr2, l2, h2, h3, h4⟩ := (sim_results fn hres).run hw1 hr
            have e2 := (ro_results fn a1'.tmps).same h2
            subst e2
            have e3 := (ro_results fn (e1.row (resTmps fn))).same hr
            subst e3
            have key : a1'.defers = [] ∧ ∃ u, (results fn a1'.tmps).run P wr2 = .ok u wr2 ∧ (∃ τ' v', Ending.returned u = .returned v' ∧ τ.le τ' ∧ VR τ' v v' ∧ WR G B w0 τ' wa2.heap wr2) :=
              ⟨ha1.d', v', h2, τ2, v', rfl, l1.trans l2, h3, h4⟩
            rcases hex with rfl | rfl
            · exact key
            · exact key
          split at h
          · rename_i e1 w1 hc
            split at h
            · rename_i hhas
              split at h
              · rename_i v1 w2 hr
                rw [forceV_eq] at h
                cases h
                exact fin (.inl rfl) hc hhas hr
              · cases h
            · cases h
          · rename_i e1 w1 hc
            split at h
            · rename_i hhas
              split at h
              · rename_i v1 w2 hr
                rw [forceV_eq] at h
                cases h
                exact fin (.inr rfl) hc hhas hr
              · cases h
            · cases h
          · cases h
end sound
end Go.Ev
namespace Go.Ev
open Go.RowKit
set_option linter.unusedVariables false
set_option linter.unusedSimpArgs false

def oeq (a b : Obj) : Bool := match a, b with
  | .cells a e f, .cells b e' f' => leq (veq 20) a.toList b.toList && e == e' && f == f'
  | .map a c, .map b d => leq (fun (x y : MapEntry) => veq 20 x.key y.key && veq 20 x.val y.val && x.born == y.born) a.toList b.toList && c == d
  | .stringIter s p, .stringIter t q => bytesEq s t && p == q
  | _, _ => false
theorem oeq_eq (a b : Obj) (h : oeq a b = true) : a = b := by
  unfold oeq at h
  split at h
  · simp only [Bool.and_eq_true, beq_iff_eq] at h
    rw [Array.toList_inj.1 (leq_eq _ (veq_eq 20) _ _ h.1.1), h.1.2, h.2]
  · simp only [Bool.and_eq_true, beq_iff_eq] at h
    rw [Array.toList_inj.1 (leq_eq _ (fun x y hxy => ?_) _ _ h.1), h.2]
    simp only [Bool.and_eq_true, beq_iff_eq] at hxy
    obtain ⟨k, v, b⟩ := x
    obtain ⟨k', v', b'⟩ := y
    have e1 := veq_eq _ _ _ hxy.1.1
    have e2 := veq_eq _ _ _ hxy.1.2
    have e3 := hxy.2
    dsimp only at e1 e2 e3
    rw [e1, e2, e3]
  · simp only [Bool.and_eq_true, beq_iff_eq] at h
    rw [bytesEq_eq _ _ h.1, h.2]
  · cases h
def optVeq : Option Value → Option Value → Bool
  | some a, some b => veq 20 a b
  | _, _ => false
/-- Does the second state hold what the first holds? -/
def sameB (r s : Env × World) : Bool := Nat.beq r.1.n s.1.n && r.1.l.all (fun p => optVeq (look r.1.l p.1) (look s.1.l p.1)) && leq oeq r.2.heap.toList s.2.heap.toList
theorem look_mem : ∀ (l : List (Nat × Value)) (t : Nat) (v : Value), look l t = some v → ∃ p ∈ l, p.1 = t
  | (k, u) :: r, t, v, h => by
    unfold look at h
    cases hb : Nat.beq k t with
    | true => exact ⟨(k, u), by simp, Nat.eq_of_beq_eq_true hb⟩
    | false =>
      rw [hb] at h
      obtain ⟨p, h1, h2⟩ := look_mem r t v h
      exact ⟨p, by simp [h1], h2⟩
theorem sameB_spec {r s : Env × World} (h : sameB r s = true) {τ : Rel} {a' : Act} (ha : EnvR τ s.1 a') : EnvR τ r.1 a' ∧ r.2.heap = s.2.heap := by
  simp only [sameB, Bool.and_eq_true] at h
  obtain ⟨⟨h1, h2⟩, h3⟩ := h
  refine ⟨⟨fun t v hv => ?_, ha.size.trans (Nat.eq_of_beq_eq_true h1).symm, ha.d'⟩, Array.toList_inj.1 (leq_eq _ oeq_eq _ _ h3)⟩
  obtain ⟨p, hp, rfl⟩ := look_mem _ _ _ hv
  have hq := List.all_eq_true.1 h2 p hp
  rw [hv] at hq
  cases hs : look s.1.l p.1 with
  | none => rw [hs] at hq; cases hq
  | some u =>
    rw [hs] at hq
    have := veq_eq _ _ _ hq
    subst this
    exact ha.tmps _ _ hs
theorem sameB_heap {r s : Env × World} (h : sameB r s = true) : r.2.heap = s.2.heap := by
  simp only [sameB, Bool.and_eq_true] at h
  exact Array.toList_inj.1 (leq_eq _ oeq_eq _ _ h.2)

section ev
variable (P : Program) (G : Gl) (sp : Spec) (ev : Ev)

def stillOp (H : Array Obj) (e : Env) (o : Oper) : Option Value :=
  if o.op.operands.toList.all (e.ok G) then
    match evalAF P e.eval o with
    | some v => some v
    | none =>
      if kindOk P e.eval o && cutB H e.eval o then
        match still P (execOp e.eval o) with
        | some (.value v) => some v
        | _ => none
      else none
  else none
def takeOne (ops : Array Oper) (listed : Array Bool) (e : Env) (H : Array Obj) : List Nat → Option (Nat × Oper × Value)
  | [] => none
  | i :: rs => match ops[i]? with
    | none => takeOne ops listed e H rs
    | some o => match Region.free .any ops listed i && e.fits o.dst with
      | false => takeOne ops listed e H rs
      | true => match wantedE ops e o with
        | some true => match stillOp P G H e o with
          | some v => some (i, o, v)
          | none => takeOne ops listed e H rs
        | some false => some (i, o, undef)
        | none => takeOne ops listed e H rs
def forceB {β : Type} (xs : Array Bool) (k : Array Bool → β) : β := match xs with | ⟨l⟩ => spine l fun l => k ⟨l⟩
theorem forceB_eq {β : Type} (xs : Array Bool) (k : Array Bool → β) : forceB xs k = k xs := by cases xs; simp [forceB, spine_eq]
def branchB (ops : Array Oper) (go : Env → World → Option (Env × World)) (e : Env) (w : World) (i : Nat) : Option (Env × World) := match ops[i]? with
  | none => none
  | some o => match wantedE ops e o with
    | some true => match stepB P G sp ev o e w with
      | some (e', w') => go e' w'
      | none => none
    | some false => match e.fits o.dst with
      | true => putK e o.dst undef fun e' => go e' w
      | false => none
    | none => none
def evalAny (ops : Array Oper) : Nat → Array Bool → Env → World → Option (Env × World)
  | 0, listed, e, w => if (Region.ready .any ops listed).isEmpty then some (e, w) else none
  | n + 1, listed, e, w => match Region.ready .any ops listed with
    | [] => some (e, w)
    | r :: rs => match takeOne P G ops listed e w.heap (r :: rs) with
      | some (i, o, v) => forceV 20 v fun v => forceB (listed.setIfInBounds i true) fun l' => putK e o.dst v fun e' => evalAny ops n l' e' w
      | none => match branchB P G sp ev ops (fun e w => forceB (listed.setIfInBounds r true) fun l' => evalAny ops n l' e w) e w r with
        | none => none
        | some x => if rs.all (fun j => match branchB P G sp ev ops (fun e w => forceB (listed.setIfInBounds j true) fun l' => evalAny ops n l' e w) e w j with
            | some y => sameB x y
            | none => false) then some x else none
def evalDrawn : Drawn := fun ops e w => if Region.noSelect ops then evalAny P G sp ev ops ops.size (Array.replicate ops.size false) e w else none
end ev

section sound
variable {P : Program} {G : Gl} {sp : Spec} {ev : Ev}

/-- Nothing panics. -/
def QN (Q : Exit → Act → World → Prop) : Exit → Act → World → Prop
  | .panic _, _, _ => False
  | e, a, w => Q e a w
theorem QN.imp {Q : Exit → Act → World → Prop} (e : Exit) (a : Act) (w : World) (h : QN Q e a w) : Q e a w := by
  cases e <;> first | exact h | exact h.elim

theorem stillOp_spec {e : Env} {a' : Act} {o : Oper} {v : Value} {τ : Rel} {B : FM} {w0 : World} {H : Array Obj} {wr : World} (ha : EnvR τ e a') (hw : WR G B w0 τ H wr) (h : stillOp P G H e o = some v) :
    ∃ v', VR τ v v' ∧ ∀ w, (execOp a'.eval o).run P w = .ok (.value v') w := by
  unfold stillOp at h
  split at h
  · rename_i ho
    have hv : ∀ x ∈ o.op.operands, VR τ (e.eval x) (a'.eval x) := fun x hx => ha.eval hw.glob x (List.all_eq_true.1 ho x (by simpa using hx))
    split at h
    · rename_i u he
      cases h
      obtain ⟨h1, h2⟩ := evalAF_spec hv he
      exact ⟨_, AFb.vr _ _ h1, h2⟩
    · split at h
      · rename_i hk
        rw [Bool.and_eq_true] at hk
        have hs : Sim P NR τ (execOp e.eval o) (execOp a'.eval o) := by
          refine sim_exec e.eval a'.eval o hv hk.1 ?_
          intro t x lo hi mx hop
          have hc := hk.2
          unfold cutB at hc
          rw [hop] at hc
          dsimp only at hc
          unfold cutOk
          split
          · rename_i ad l c hx
            rw [hx] at hc
            simp only [Bool.or_eq_true] at hc
            rcases hc with hc | hc
            · exact .inl (hw.exact hc)
            · exact .inr (zeroV_spec hc)
          · rename_i ad hx
            rw [hx] at hc
            exact hw.exact hc
          · trivial
        split at h
        · rename_i u hu
          cases h
          obtain ⟨b, h1, h2⟩ := hs.still hu
          cases h2 with
          | value v v' hvv => exact ⟨v', hvv, fun w => still_run _ h1 w⟩
        · cases h
      · cases h
  · cases h

theorem takeOne_spec {ops : Array Oper} {listed : Array Bool} {e : Env} {H : Array Obj} : ∀ (rs : List Nat) {i : Nat} {o : Oper} {v : Value}, takeOne P G ops listed e H rs = some (i, o, v) →
    i ∈ rs ∧ ops[i]? = some o ∧ Region.free .any ops listed i = true ∧ e.fits o.dst = true ∧ ((wantedE ops e o = some true ∧ stillOp P G H e o = some v) ∨ (wantedE ops e o = some false ∧ v = undef)) := by
  intro rs
  induction rs with
  | nil => intro i o v h; cases h
  | cons r rs ih =>
    intro i o v h
    have up : takeOne P G ops listed e H rs = some (i, o, v) → i ∈ r :: rs ∧ ops[i]? = some o ∧ Region.free .any ops listed i = true ∧ e.fits o.dst = true ∧ ((wantedE ops e o = some true ∧ stillOp P G H e o = some v) ∨ (wantedE ops e o = some false ∧ v = undef)) := by
      intro h
      obtain ⟨h1, h2⟩ := ih h
      exact ⟨List.mem_cons_of_mem _ h1, h2⟩
    unfold takeOne at h
    split at h
    · exact up h
    · rename_i o2 ho
      split at h
      · exact up h
      · rename_i hf
        rw [Bool.and_eq_true] at hf
        split at h
        · rename_i hwt
          split at h
          · rename_i u hu
            cases h
            exact ⟨List.mem_cons_self, ho, hf.1, hf.2, .inl ⟨hwt, hu⟩⟩
          · exact up h
        · rename_i hwt
          cases h
          exact ⟨List.mem_cons_self, ho, hf.1, hf.2, .inr ⟨hwt, rfl⟩⟩
        · exact up h

theorem branchB_sound (hsp : SpecOk P G sp) (hev : EvOk P G ev) {ops : Array Oper} {go : Env → World → Option (Env × World)} {Kp : Act → World → Prop} {e e2 : Env} {a' : Act} {wa wa2 wr : World} {i : Nat} {τ : Rel} {B : FM} {w0 : World} {Q : Exit → Act → World → Prop}
    (hgo : ∀ {a1 w1}, go a1 w1 = some (e2, wa2) → ∀ {τ' a1' wr'}, τ.le τ' → EnvR τ' a1 a1' → WR G B w0 τ' w1.heap wr' → Kp a1' wr')
    (ha : EnvR τ e a') (hw : WR G B w0 τ wa.heap wr) (h : branchB P G sp ev ops go e wa i = some (e2, wa2)) : wpOp P ops Q i Kp a' wr := by
  unfold branchB at h
  unfold wpOp
  cases ho : ops[i]? with
  | none => rw [ho] at h; cases h
  | some o =>
    rw [ho] at h
    dsimp only at h ⊢
    split at h
    · rename_i hwant
      rw [if_pos (wantedE_spec hwant ha)]
      split at h
      · rename_i a1 w1 hs
        exact .inl (stepB_sound hsp hev hs ha hw (fun τ' a1' wr' l1 ha1 hw1 => hgo h l1 ha1 hw1))
      · cases h
    · rename_i hwant
      rw [if_neg (by rw [wantedE_spec hwant ha]; simp)]
      split at h
      · rename_i hfit
        rw [putK_eq] at h
        exact hgo h (Rel.le.refl _) (ha.put o.dst hfit (undef_vr _)) hw
      · cases h
    · cases h

theorem evalAny_sound (hsp : SpecOk P G sp) (hev : EvOk P G ev) {ops : Array Oper} (hns : Region.noSelect ops = true) : ∀ (n : Nat) {listed : Array Bool} {e e2 : Env} {wa wa2 : World}, evalAny P G sp ev ops n listed e wa = some (e2, wa2) → ∀ {B : FM} {w0 : World} {τ : Rel} {a' : Act} {wr : World}, EnvR τ e a' → WR G B w0 τ wa.heap wr →
    ∀ {Q : Exit → Act → World → Prop}, (∀ τ' a2' wr', τ.le τ' → EnvR τ' e2 a2' → WR G B w0 τ' wa2.heap wr' → Q .normal a2' wr') → wpAny P .any ops (QN Q) n listed a' wr := by
  intro n
  induction n with
  | zero =>
    intro listed a a2 wa wa2 h B w0 τ a' wr ha hw Q hQ
    unfold evalAny at h
    split at h
    · rename_i he
      cases h
      exact wpAny_done (P := P) (Q := QN Q) (by simpa using he) (hQ τ _ _ (Rel.le.refl _) ha hw) 0
    · cases h
  | succ n ih =>
    intro listed a a2 wa wa2 h B w0 τ a' wr ha hw Q hQ
    unfold evalAny at h
    split at h
    · rename_i he
      cases h
      exact wpAny_done (P := P) (Q := QN Q) he (hQ τ _ _ (Rel.le.refl _) ha hw) (n + 1)
    · rename_i r rs he
      split at h
      · rename_i i o v ht
        simp only [forceV_eq, forceB_eq, putK_eq] at h
        obtain ⟨h1, h2, h3, hfit, h4⟩ := takeOne_spec _ ht
        have hy : ∃ v', VR τ v v' ∧ Yields P ops o v' a' := by
          rcases h4 with ⟨hwt, hs⟩ | ⟨hwt, rfl⟩
          · obtain ⟨v', hv, hr⟩ := stillOp_spec ha hw hs
            exact ⟨v', hv, .inl ⟨wantedE_spec hwt ha, hr⟩⟩
          · exact ⟨undef, undef_vr _, .inr ⟨wantedE_spec hwt ha, rfl⟩⟩
        obtain ⟨v', hv, hy⟩ := hy
        refine wpAny_take h2 hns h3 (by rw [he]; simpa using h1) (fun c a w hp => hp.elim) hy ?_
        exact ih h (ha.put o.dst hfit hv) hw hQ
      · split at h
        · cases h
        · rename_i x hx
          split at h
          · rename_i hall
            cases h
            refine wpAny_all he (by simp) ?_
            intro j hj
            have one : ∀ {j a3 w3}, branchB P G sp ev ops (fun a w => forceB (listed.setIfInBounds j true) fun l' => evalAny P G sp ev ops n l' a w) a wa j = some (a3, w3) → (∀ τ a', EnvR τ a3 a' → EnvR τ a2 a') → w3.heap = wa2.heap →
                wpOp P ops (QN Q) j (wpAny P .any ops (QN Q) n (listed.setIfInBounds j true)) a' wr := by
              intro j a3 w3 hb e1 e2
              refine branchB_sound hsp hev ?_ ha hw hb
              intro a1 w1 hg τ' a1' wr' l1 ha1 hw1
              rw [forceB_eq] at hg
              exact ih hg ha1 hw1 (fun τ2 a2' wr2 l2 h2 h3 => hQ τ2 a2' wr2 (l1.trans l2) (e1 _ _ h2) (e2 ▸ h3))
            rcases List.mem_cons.1 hj with rfl | hj
            · exact one hx (fun _ _ h => h) rfl
            · have hb := List.all_eq_true.1 hall j hj
              split at hb
              · rename_i y hy
                exact one (a3 := y.1) (w3 := y.2) hy (fun τ a' h => (sameB_spec hb h).1) (sameB_heap hb).symm
              · cases hb
          · cases h

theorem WR.drewn {B : FM} {w0 : World} {τ : Rel} {H : Array Obj} {w : World} (h : WR G B w0 τ H w) (n : Nat) : WR G B w0 τ H { w with drawn := n } :=
  ⟨h.blk, h.fn, h.inj, h.dom, h.ok, h.old, h.glob, h.kp.drewn n, h.sy⟩

theorem evalDrawn_ok (hm : P.follows .mixedOrders = true) (hsp : SpecOk P G sp) (ev : Ev) (hev : EvOk P G ev) : DrOk P G (evalDrawn P G sp ev) := by
  intro id ops a a2 wa wa2 h B w0 τ a' wr ha hw Q hQ
  unfold evalDrawn at h
  split at h
  · rename_i hns
    refine Code.wp_mono (Q := QN Q) QN.imp ?_
    refine wp_region_any hm ?_
    exact evalAny_sound hsp hev hns _ h ha (hw.drewn _) hQ
  · cases h
end sound
end Go.Ev
namespace Go.Ev
open Go.RowKit
set_option linter.unusedVariables false
set_option linter.unusedSimpArgs false

section run
variable {P : Program}
theorem run_underlying {t : TypeId} {d : TypeDesc} (h : P.underlying t = some d) (w : World) : (underlying t).run P w = .ok d w := by
  simp [underlying, program, Sem.run, h]
theorem run_typeInfo {t : TypeId} {i : TypeInfo} (h : P.info? t = some i) (w : World) : (typeInfo t).run P w = .ok i w := by
  simp [typeInfo, program, Sem.run, h]
theorem run_sizeOf {t : TypeId} {i : TypeInfo} (h : P.info? t = some i) (w : World) : (sizeOf t).run P w = .ok i.size w := by
  simp [sizeOf, run_typeInfo h]
theorem run_zero {t : TypeId} {i : TypeInfo} {z : Value} (h : P.info? t = some i) (hz : i.zero = some z) (w : World) : (zeroValue t).run P w = .ok z w := by
  simp [zeroValue, run_typeInfo h, hz]
theorem run_askRoom (n : Nat) (w : World) : (askRoom n).run P w = .ok () w := by
  unfold askRoom; split <;> rfl
end run

def lenV : Value → Option Nat
  | .slice _ n _ => some n
  | .string s => some s.size
  | _ => none
def isIntT (P : Program) (t : TypeId) : Bool := match P.underlying t with | some (.int _) => true | _ => false

section sim
variable {P : Program} {τ : Rel}
theorem sim_firstCells (size n : Nat) {v v' : Value} (h : VR τ v v') : Sim P (fun τ a b => AR τ a b) τ (Builtin.firstCells size n v) (Builtin.firstCells size n v') := by
  cases h with
  | sl0 l c => exact Sim.pure _ _ _ (AR.nil _)
  | sl k r o l c c' i t hc => exact sim_loadCellsFrom (n * size) 0 ⟨k, r, o, i, rfl, rfl, t⟩ (AR.nil _)
  | string s =>
    refine Sim.pure _ _ _ (AR.refl_of (fun i u hu => ?_))
    rw [Array.getElem?_map] at hu
    cases hx : (s.extract 0 n).data[i]? with
    | none => rw [hx] at hu; cases hu
    | some b => rw [hx] at hu; cases hu; exact .int _ _
  | _ => exact Sim.halt _ _ _
theorem ro_firstCells (size n : Nat) (v : Value) : RO (Builtin.firstCells size n v) := by
  unfold Builtin.firstCells
  split
  · exact ro_cells _ _ _ _
  · exact .pure _
  · exact .pure _
  · exact .halt _
theorem lenV_eq {v v' : Value} (h : VR τ v v') {n : Nat} (hn : lenV v = some n) : lenV v' = some n := by
  cases h with
  | sym l xs ys v' h hb => cases hn
  | _ => exact hn
theorem lenOf_run {v : Value} {n : Nat} (h : lenV v = some n) (w : World) : (Builtin.lenOf v).run P w = .ok n w := by
  cases v <;> first | (cases h; done) | skip
  · cases h; rfl
  · cases h; rfl
end sim

/-- A row with other cells from a place on. -/
def over (cs : Array Value) (o : Nat) : List Value → Array Value
  | [] => cs
  | v :: vs => over (cs.setIfInBounds o v) (o + 1) vs
theorem over_size : ∀ (vs : List Value) (cs : Array Value) (o : Nat), (over cs o vs).size = cs.size
  | [], _, _ => rfl
  | v :: vs, cs, o => by rw [over, over_size vs]; simp
theorem over_get : ∀ (vs : List Value) (cs : Array Value) (o j : Nat), o + vs.length ≤ cs.size → (over cs o vs)[j]? = if o ≤ j ∧ j < o + vs.length then vs[j - o]? else cs[j]?
  | [], cs, o, j, h => by simp [over]; omega
  | v :: vs, cs, o, j, h => by
    simp only [List.length_cons] at h
    rw [over, over_get vs _ _ _ (by simp; omega)]
    by_cases hj : o = j
    · subst hj
      rw [if_neg (by omega), if_pos (by simp), Array.getElem?_setIfInBounds_self, if_pos (by omega)]
      simp
    · rw [Array.getElem?_setIfInBounds_ne hj]
      by_cases h1 : o + 1 ≤ j ∧ j < o + 1 + vs.length
      · rw [if_pos h1, if_pos (by simp; omega)]
        rw [show j - o = (j - (o + 1)) + 1 by omega, List.getElem?_cons_succ]
      · rw [if_neg h1, if_neg (by simp; omega)]

theorem run_storeCells {P : Program} : ∀ (vs : List Value) (w : World) (r o i : Nat) (cs : Array Value) (e : TypeId), w.heap[r]? = some (.cells cs e (0, 0)) → o + i + vs.length ≤ cs.size → (∀ v ∈ vs, Value.plainCell v = true) →
    ∃ w', (storeCells ⟨r, o, none⟩ vs i).run P w = .ok () w' ∧ w'.heap = w.heap.setIfInBounds r (.cells (over cs (o + i) vs) e (0, 0)) ∧ w'.os = w.os ∧ w'.tape = w.tape ∧ w'.output = w.output
  | [], w, r, o, i, cs, e, h, hl, hp => by
    refine ⟨w, rfl, ?_, rfl, rfl, rfl⟩
    apply Array.ext_getElem?
    intro j
    by_cases hj : r = j
    · subst hj
      obtain ⟨hlt, _⟩ := Array.getElem?_eq_some_iff.1 h
      rw [Array.getElem?_setIfInBounds_self, if_pos hlt, h]; rfl
    · rw [Array.getElem?_setIfInBounds_ne hj]
  | v :: vs, w, r, o, i, cs, e, h, hl, hp => by
    simp only [List.length_cons] at hl
    have hc : w.cell? ⟨r, o + i, none⟩ = some cs[o + i] := by
      simp only [World.cell?, h]
      simp
    have hf : w.frozen? ⟨r, o + i, none⟩ = false := by simp [World.frozen?, h]
    have h2 : (w.setCell ⟨r, o + i, none⟩ v).heap[r]? = some (.cells (cs.setIfInBounds (o + i) v) e (0, 0)) := by
      obtain ⟨hlt, _⟩ := Array.getElem?_eq_some_iff.1 h
      rw [setCell_heap w r (o + i) v h, Array.getElem?_setIfInBounds_self, if_pos hlt]
    obtain ⟨w', a1, a2, a3, a4, a5⟩ := run_storeCells (P := P) vs (w.setCell ⟨r, o + i, none⟩ v) r o (i + 1) (cs.setIfInBounds (o + i) v) e h2 (by simp; omega) (fun u hu => hp u (by simp [hu]))
    refine ⟨w', ?_, ?_, a3, a4, a5⟩
    · show (Sem.bind (store ((⟨r, o, none⟩ : Addr).add i) v) fun _ => storeCells ⟨r, o, none⟩ vs (i + 1)).run P w = _
      rw [add_eq]
      show (Sem.store .plain ⟨r, o + i, none⟩ v ((Sem.pure ()).bind fun _ => storeCells ⟨r, o, none⟩ vs (i + 1))).run P w = _
      rw [run_store_of (hp v (by simp)) hc hf]
      exact a1
    · rw [a2, setCell_heap w r (o + i) v h]
      rw [Array.setIfInBounds_setIfInBounds]
      rfl

section wr
variable {G : Gl} {B : FM} {w0 : World}
/-- A block is given up. -/
theorem WR.kill {τ : Rel} {H : Array Obj} {w : World} (h : WR G B w0 τ H w) (k : Nat) : WR G B w0 τ (H.setIfInBounds k dead) w := by
  have hal : ∀ j, alive (H.setIfInBounds k dead) j → alive H j ∧ j ≠ k := by
    rintro j ⟨u, hu, hl⟩
    by_cases e : k = j
    · subst e
      rw [Array.getElem?_setIfInBounds_self] at hu
      split at hu
      · cases hu; simp [live] at hl
      · cases hu
    · rw [Array.getElem?_setIfInBounds_ne e] at hu; exact ⟨⟨u, hu, hl⟩, fun x => e x.symm⟩
  have hne : ∀ (j : Nat) (u : Obj), (H.setIfInBounds k dead)[j]? = some u → u = dead ∨ H[j]? = some u := by
    intro j u hu
    by_cases e : k = j
    · subst e
      rw [Array.getElem?_setIfInBounds_self] at hu
      split at hu
      · cases hu; exact .inl rfl
      · cases hu
    · rw [Array.getElem?_setIfInBounds_ne e] at hu; exact .inr hu
  refine ⟨fun j u hj hu => ?_, h.fn, fun a b c d e h1 h2 l1 l2 => h.inj a b c d e h1 h2 (hal _ l1).1 (hal _ l2).1, fun a b c x => ?_, fun j u hj => ?_, fun j cs e hj => ?_, h.glob, h.kp, h.sy⟩
  · rcases hne j u hj with rfl | hj
    · simp [live] at hu
    · exact h.blk j u hj hu
  · have := h.dom _ _ _ x
    exact ⟨by simpa using this.1, this.2.1, fun l => this.2.2 (hal _ l).1⟩
  · rcases hne j u hj with rfl | hj
    · exact .inr (.inl rfl)
    · exact h.ok j u hj
  · rcases hne j _ hj with hd | hj
    · simp only [dead, oldB, Obj.cells.injEq, Prod.mk.injEq] at hd
      omega
    · obtain ⟨r, i, cs', e', f, h1, h2, h3, h4, h5⟩ := h.old j cs e hj
      exact ⟨r, i, cs', e', f, h1, h2, h3, fun k' i' q l => h4 k' i' q (hal _ l).1, h5⟩

/-- A new block of the small world that lies in an old place of the great one. -/
theorem WR.newAt {τ : Rel} {H : Array Obj} {w w' : World} {r m z : Nat} {cs c1 c2 : Array Value} {e : TypeId} (h : WR G B w0 τ H w) (hr : w.heap[r]? = some (.cells c1 e (0, 0))) (hB : B r = none)
    (hno : ∀ k i, τ k r i → ¬ alive H k) (hold : ∀ (k : Nat) (cs : Array Value) (e : TypeId) i, H[k]? = some (oldB cs e) → ¬ τ k r i) (hw : w'.heap = w.heap.setIfInBounds r (.cells c2 e (0, 0))) (hb : Kp B w0 w') (ho : OR τ (some (m, z)) (.cells cs e (z + 2, 1)) (.cells c2 e (0, 0))) :
    ∃ τ' : Rel, τ.le τ' ∧ τ' H.size r (some (m, z)) ∧ WR G B w0 τ' (H.push (.cells cs e (z + 2, 1))) w' := by
  have hrl := (Array.getElem?_eq_some_iff.1 hr).1
  refine ⟨⟨fun k u i => τ.r k u i ∨ (k = H.size ∧ u = r ∧ i = some (m, z)), τ.s⟩, ⟨fun k r i x => .inl x, fun _ _ x => x⟩, .inr ⟨rfl, rfl, rfl⟩, ?_⟩
  have hle : τ.le (⟨fun k u i => τ.r k u i ∨ (k = H.size ∧ u = r ∧ i = some (m, z)), τ.s⟩ : Rel) := ⟨fun k r i x => .inl x, fun _ _ x => x⟩
  have hal : ∀ k, k < H.size → alive (H.push (.cells cs e (z + 2, 1))) k → alive H k := by
    rintro k hk ⟨u, hu, hl⟩
    rw [Array.getElem?_push, if_neg (by omega)] at hu
    exact ⟨u, hu, hl⟩
  refine ⟨fun k u hk hu => ?_, ?_, ?_, ?_, ?_, ?_, fun g hg => .inl (h.glob g hg), hb, h.sy⟩
  · rw [Array.getElem?_push] at hk
    by_cases he : k = H.size
    · rw [if_pos he] at hk
      cases hk
      exact ⟨r, _, _, .inr ⟨he, rfl, rfl⟩, by rw [hw, Array.getElem?_setIfInBounds_self, if_pos hrl], ho.mono hle⟩
    · rw [if_neg he] at hk
      obtain ⟨r2, i, u', h1, h2, h3⟩ := h.blk k u hk hu
      have hne : r ≠ r2 := fun er => hno k i (er ▸ h1) ⟨u, hk, hu⟩
      exact ⟨r2, i, u', .inl h1, by rw [hw, Array.getElem?_setIfInBounds_ne hne]; exact h2, h3.mono hle⟩
  · rintro k u i u' i' (h1 | ⟨rfl, rfl, rfl⟩) (h2 | ⟨e, rfl, rfl⟩)
    · exact h.fn _ _ _ _ _ h1 h2
    · have := (h.dom _ _ _ h1).1; omega
    · have := (h.dom _ _ _ h2).1; omega
    · exact ⟨rfl, rfl⟩
  · rintro k k' u i i' (h1 | ⟨rfl, rfl, rfl⟩) (h2 | ⟨rfl, e, rfl⟩) l1 l2
    · exact h.inj _ _ _ _ _ h1 h2 (hal _ (h.dom _ _ _ h1).1 l1) (hal _ (h.dom _ _ _ h2).1 l2)
    · subst e; exact absurd (hal _ (h.dom _ _ _ h1).1 l1) (hno _ _ h1)
    · exact absurd (hal _ (h.dom _ _ _ h2).1 l2) (hno _ _ h2)
    · rfl
  · rintro k u i (h1 | ⟨rfl, rfl, rfl⟩)
    · have := h.dom _ _ _ h1
      rw [hw]
      refine ⟨by simp; omega, by simp; omega, fun l => this.2.2 (hal _ this.1 l)⟩
    · rw [hw]
      refine ⟨by simp, by simpa using hrl, fun _ => hB⟩
  · intro k u hk
    rw [Array.getElem?_push] at hk
    by_cases he : k = H.size
    · rw [if_pos he] at hk; cases hk; exact .inl (or_live ho)
    · rw [if_neg he] at hk; exact h.ok k u hk
  · intro k cs2 e2 hk
    rw [Array.getElem?_push] at hk
    by_cases he : k = H.size
    · rw [if_pos he] at hk
      have := or_live ho
      rw [Option.some.inj hk, not_live_old] at this; cases this
    · rw [if_neg he] at hk
      obtain ⟨r2, i, cs', e', f, h1, h2, h3, h4, h5⟩ := h.old k cs2 e2 hk
      have hne : r ≠ r2 := fun e => hold k cs2 e2 i hk (e ▸ h1)
      refine ⟨r2, i, cs', e', f, .inl h1, ?_, h3.mono hle, ?_, h5⟩
      rotate_left
      · rintro k' i' (q | ⟨rfl, q, rfl⟩) ha
        · exact h4 k' i' q (hal _ (h.dom _ _ _ q).1 ha)
        · exact hne q.symm
      rw [hw, Array.getElem?_setIfInBounds_ne hne]; exact h2
end wr
end Go.Ev
namespace Go.Ev
open Go.RowKit
set_option linter.unusedVariables false
set_option linter.unusedSimpArgs false

section run
variable {P : Program}
set_option maxRecDepth 100000 in
theorem run_append {ts : Array TypeId} {ty t0 t1 elem : TypeId} {d1 : TypeDesc} {i : TypeInfo} {z x : Value} {n sLen sCap : Nat} {base : Option Addr} (h0 : ts[0]? = some t0) (h1 : ts[1]? = some t1) (hu0 : P.underlying t0 = some (.slice elem)) (hu1 : P.underlying t1 = some d1) (hd1 : ∀ k, d1 ≠ .int k)
    (hi : P.info? elem = some i) (hz : i.zero = some z) (hlen : lenV x = some n) (hneed : sCap < sLen + n) (hb : sLen + n < 256) (hby : i.bytes ≤ 1073741824) (w : World) :
    ∃ newCap, sLen + n ≤ newCap ∧ ∀ old new, (Builtin.firstCells i.size sLen (.slice base sLen sCap)).run P w.drew = .ok old w.drew → (Builtin.firstCells i.size n x).run P w.drew = .ok new w.drew →
      (Builtin.append_ ts ty #[.slice base sLen sCap, x]).run P w = .ok (.slice (some ⟨w.heap.size, 0, none⟩) (sLen + n) newCap) { w.drew with heap := w.heap.push (.cells (old ++ new ++ Builtin.zeroCells z.cells (newCap - (sLen + n))) elem) } := by
  refine ⟨(Question.appendCap (sLen + n) sCap elem).cut (w.tape w.drawn (Question.appendCap (sLen + n) sCap elem)), by simp only [Question.cut]; omega, ?_⟩
  intro old new ho hn
  have hnx : Builtin.nextslicecap (sLen + n) sCap ≤ 512 := by
    unfold Builtin.nextslicecap
    split
    · omega
    · rw [if_pos (by omega)]; omega
  have hmul : ¬ (Builtin.nextslicecap (sLen + n) sCap * i.bytes > 2 ^ 48) := by
    have : Builtin.nextslicecap (sLen + n) sCap * i.bytes ≤ 512 * 1073741824 := Nat.mul_le_mul hnx hby
    omega
  have hz0 : (match d1 with | .int _ => true | _ => false) = false := by
    cases d1 <;> first | rfl | exact absurd rfl (hd1 _)
  have hle : ¬ (sLen + n ≤ sCap) := by omega
  have hmax : ¬ (((sLen + n : Nat) : Int) > IntKind.i64.max ∧ (False ∨ i.bytes = 0)) := by
    intro h
    have := h.1
    simp [IntKind.max, IntKind.signed, IntKind.bits] at this
    omega
  have hch : ∀ w : World, (choose (Question.appendCap (sLen + n) sCap elem)).run P w = .ok ((Question.appendCap (sLen + n) sCap elem).cut (w.tape w.drawn (Question.appendCap (sLen + n) sCap elem))) w.drew := fun w => rfl
  have hnr : ∀ (xs : Array Value) (w : World), (newRow elem xs).run P w = .ok ⟨w.heap.size, 0, none⟩ { w with heap := w.heap.push (.cells xs elem) } := fun xs w => by simp [newRow, newObj, Sem.run]
  simp only [Builtin.append_, h0, h1]
  have hm1 : ∀ {α : Type} (x y : Sem α), (if ((sLen + n : Nat) : Int) > IntKind.i64.max ∧ (False ∨ i.bytes = 0) then x else y) = y := fun x y => if_neg hmax
  have hm2 : ∀ {α : Type} (x y : Sem α), (if Builtin.nextslicecap (sLen + n) sCap * i.bytes > 2 ^ 48 then x else y) = y := fun x y => if_neg hmul
  simp only [List.getElem?_toArray, List.getElem?_cons_zero, List.getElem?_cons_succ, Sem.run_bind, run_underlying hu0, run_underlying hu1, run_sizeOf hi, Result.andThen_ok, Sem.run_pure, hz0, Bool.false_eq_true, if_false, lenOf_run hlen, hle]
  simp only [run_typeInfo hi, Result.andThen_ok]
  rw [hm1]
  simp only [Sem.run_bind, run_typeInfo hi, Result.andThen_ok]
  rw [hm2]
  simp only [Sem.run_bind, hch, run_typeInfo hi, run_askRoom, Result.andThen_ok]
  rw [ho]
  simp only [Result.andThen_ok, Bool.not_false, if_true]
  rw [hn]
  simp only [Result.andThen_ok, run_zero hi hz, hnr, Sem.run_bind, Sem.run_pure]
  rfl
end run

def notInt : TypeDesc → Bool
  | .int _ => false
  | _ => true
def killB (H : Array Obj) (size : Nat) (elem : TypeId) : Option Addr → Option (Array Obj)
  | none => some H
  | some a => match H[a.block]? with
    | some (.cells _ e f) => if f == (0, 0) then some H else if f == (size + 2, 1) && a.off == 0 && a.spot.isNone && e == elem then some (H.setIfInBounds a.block dead) else none
    | _ => none
/-- append to a slice that is full here. -/
def growB (P : Program) (H : Array Obj) (wa : World) (ts : Array TypeId) (s x : Value) : Option (Value × Array Obj) :=
  match ts[0]?, ts[1]?, s, lenV x with
  | some t0, some t1, .slice base sLen sCap, some n =>
    match P.underlying t0, P.underlying t1 with
    | some (.slice elem), some d1 =>
      match P.info? elem with
      | some i => match i.zero with
        | some z =>
          if notInt d1 && decide (sCap < sLen + n) && decide (sLen + n < 256) && decide (i.bytes ≤ 1073741824) && z.cells.size == i.size && zeroOk P elem then
            match (Builtin.firstCells i.size sLen s).run P wa, (Builtin.firstCells i.size n x).run P wa, killB H i.size elem base with
            | .ok old _, .ok new _, some H' =>
              if old.size == sLen * i.size && new.size == n * i.size && new.toList.all Value.plainCell then
                some (.slice (some ⟨H.size, 0, none⟩) (sLen + n) (sLen + n), H'.push (.cells (old ++ new) elem (i.size + 2, 1)))
              else none
            | _, _, _ => none
          else none
        | none => none
      | none => none
    | _, _ => none
  | _, _, _, _ => none

section sound
variable {P : Program} {G : Gl} {B : FM} {w0 : World}

theorem killB_spec {τ : Rel} {H H' : Array Obj} {w : World} {size : Nat} {elem : TypeId} {base : Option Addr} (hw : WR G B w0 τ H w) (h : killB H size elem base = some H') : WR G B w0 τ H' w ∧ H'.size = H.size := by
  cases base with
  | none => cases h; exact ⟨hw, rfl⟩
  | some a =>
    unfold killB at h
    dsimp only at h
    split at h
    · split at h
      · cases h; exact ⟨hw, rfl⟩
      · split at h
        · cases h; exact ⟨hw.kill _, by simp⟩
        · cases h
    · cases h

theorem run_cells : ∀ (n : Nat) (w : World) (r o i : Nat) (acc c : Array Value) (e : TypeId) (f : Nat × Nat), w.heap[r]? = some (.cells c e f) → o + i + n ≤ c.size →
    (loadCellsFrom ⟨r, o, none⟩ i n acc).run P w = .ok (acc ++ c.extract (o + i) (o + i + n)) w
  | 0, w, r, o, i, acc, c, e, f, h, hl => by
    have : c.extract (o + i) (o + i + 0) = #[] := by simp; omega
    rw [this]; simp [loadCellsFrom]
  | n + 1, w, r, o, i, acc, c, e, f, h, hl => by
    have hc : w.cell? ⟨r, o + i, none⟩ = some (c[o + i]'(by omega)) := by
      simp only [World.cell?, h]
      simp
    show (Sem.bind (load ((⟨r, o, none⟩ : Addr).add i)) fun v => loadCellsFrom ⟨r, o, none⟩ (i + 1) n (acc.push v)).run P w = _
    rw [add_eq]
    show (Sem.load .plain ⟨r, o + i, none⟩ fun v => loadCellsFrom ⟨r, o, none⟩ (i + 1) n (acc.push v)).run P w = _
    simp only [Sem.run, hc]
    rw [run_cells n w r o (i + 1) _ c e f h (by omega)]
    congr 1
    apply Array.ext_getElem?
    intro j
    simp only [Array.getElem?_append, Array.getElem?_push, Array.size_push, Array.getElem?_extract]
    by_cases h1 : j < acc.size
    · rw [if_pos (by omega), if_neg (by omega), if_pos h1]
    · rw [if_neg h1]
      by_cases h2 : j = acc.size
      · subst h2
        rw [if_pos (by omega), if_pos rfl, if_pos (by omega)]
        rw [show o + i + (acc.size - acc.size) = o + i by omega, Array.getElem?_eq_getElem (by omega)]
      · rw [if_neg (by omega)]
        by_cases h3 : j - acc.size < n + 1
        · rw [if_pos (by omega), if_pos (by omega)]
          congr 1; omega
        · rw [if_neg (by omega), if_neg (by omega)]

theorem run_append_in {ts : Array TypeId} {ty t0 t1 elem : TypeId} {d1 : TypeDesc} {i : TypeInfo} {x : Value} {n sLen sCap r : Nat} {c new : Array Value} {e : TypeId} (h0 : ts[0]? = some t0) (h1 : ts[1]? = some t1) (hu0 : P.underlying t0 = some (.slice elem)) (hu1 : P.underlying t1 = some d1) (hd1 : ∀ k, d1 ≠ .int k)
    (hi : P.info? elem = some i) (hlen : lenV x = some n) (hneed : sLen + n ≤ sCap) (w : World) (hn : (Builtin.firstCells i.size n x).run P w = .ok new w) (hr : w.heap[r]? = some (.cells c e (0, 0))) (hl : sLen * i.size + new.size ≤ c.size) (hp : ∀ v ∈ new.toList, Value.plainCell v = true) :
    ∃ w', (Builtin.append_ ts ty #[.slice (some ⟨r, 0, none⟩) sLen sCap, x]).run P w = .ok (.slice (some ⟨r, 0, none⟩) (sLen + n) sCap) w' ∧ w'.heap = w.heap.setIfInBounds r (.cells (over c (sLen * i.size) new.toList) e (0, 0)) ∧ w'.os = w.os ∧ w'.tape = w.tape ∧ w'.output = w.output := by
  obtain ⟨w', a1, a2, a3, a4, a5⟩ := run_storeCells (P := P) new.toList w r (sLen * i.size) 0 c e hr (by simpa using hl) hp
  refine ⟨w', ?_, by simpa using a2, a3, a4, a5⟩
  have hz0 : (match d1 with | .int _ => true | _ => false) = false := by
    cases d1 <;> first | rfl | exact absurd rfl (hd1 _)
  simp only [Builtin.append_, h0, h1]
  simp only [List.getElem?_toArray, List.getElem?_cons_zero, List.getElem?_cons_succ, Sem.run_bind, run_underlying hu0, run_underlying hu1, run_sizeOf hi, Result.andThen_ok, Sem.run_pure, hz0, Bool.false_eq_true, if_false, lenOf_run hlen, hneed, if_true, Bool.not_false]
  rw [hn]
  have e1 : (⟨r, 0, none⟩ : Addr).add (sLen * i.size) = ⟨r, sLen * i.size, none⟩ := by rw [add_eq]; simp
  rw [e1, Result.andThen_ok, a1]
  rfl

theorem zeroCells_size (z : Array Value) (n : Nat) : (Builtin.zeroCells z n).size = n * z.size := by simp [Builtin.zeroCells]

theorem growB_sound {τ : Rel} {wa wr : World} {ts : Array TypeId} {ty : TypeId} {s x s' x' v : Value} {H' : Array Obj} (h : growB P wa.heap wa ts s x = some (v, H')) (hs : VR τ s s') (hx : VR τ x x') (hw : WR G B w0 τ wa.heap wr) :
    ∃ τ' v' wr', τ.le τ' ∧ (Builtin.append_ ts ty #[s', x']).run P wr = .ok v' wr' ∧ VR τ' v v' ∧ WR G B w0 τ' H' wr' := by
  unfold growB at h
  split at h <;> first | (cases h; done) | skip
  rename_i t0 t1 base sLen sCap n h0 h1 hlen
  split at h <;> first | (cases h; done) | skip
  rename_i elem d1 hu0 hu1
  split at h <;> first | (cases h; done) | skip
  rename_i i hi
  split at h <;> first | (cases h; done) | skip
  rename_i z hz
  split at h <;> first | (cases h; done) | skip
  rename_i hc
  simp only [Bool.and_eq_true, decide_eq_true_eq, beq_iff_eq] at hc
  obtain ⟨⟨⟨⟨⟨c1, c2⟩, c3⟩, c4⟩, c5⟩, c6⟩ := hc
  split at h <;> first | (cases h; done) | skip
  rename_i old wo new wn Hk ho hn hk
  split at h <;> first | (cases h; done) | skip
  rename_i hsz
  simp only [Bool.and_eq_true, beq_iff_eq, List.all_eq_true] at hsz
  obtain ⟨⟨s1, s2⟩, s3⟩ := hsz
  cases h
  have hd1 : ∀ k, d1 ≠ .int k := by rintro k rfl; cases c1
  have hlen' : lenV x' = some n := lenV_eq hx hlen
  -- what is read there
  have rd : ∀ wq : World, WR G B w0 τ wa.heap wq → ∃ τ1 old' new', τ.le τ1 ∧ (Builtin.firstCells i.size sLen s').run P wq = .ok old' wq ∧ (Builtin.firstCells i.size n x').run P wq = .ok new' wq ∧ AR τ1 old old' ∧ AR τ1 new new' ∧ WR G B w0 τ1 wa.heap wq := by
    intro wq hq
    obtain ⟨τo, old', wo', l1, r1, a1, q1⟩ := (sim_firstCells i.size sLen hs).run hq ho
    have e0 := (ro_firstCells i.size sLen (.slice base sLen sCap)).same ho
    have e1 := (ro_firstCells i.size sLen s').same r1
    subst e0 e1
    obtain ⟨τn, new', wn', l2, r2, a2, q2⟩ := (sim_firstCells i.size n (hx.mono l1)).run q1 hn
    have e3 := (ro_firstCells i.size n x).same hn
    have e2 := (ro_firstCells i.size n x').same r2
    subst e2 e3
    exact ⟨τn, old', new', l1.trans l2, r1, r2, a1.mono l2, a2, q2⟩
  -- a new row
  have grow : ∀ (base' : Option Addr) (sCap' : Nat), s' = .slice base' sLen sCap' → sCap' < sLen + n → ∃ τ' v' wr', τ.le τ' ∧ (Builtin.append_ ts ty #[s', x']).run P wr = .ok v' wr' ∧ VR τ' (.slice (some ⟨wa.heap.size, 0, none⟩) (sLen + n) (sLen + n)) v' ∧ WR G B w0 τ' (Hk.push (.cells (old ++ new) elem (i.size + 2, 1))) wr' := by
    intro base' sCap' hse hlt
    subst hse
    obtain ⟨newCap, hnc, hrun⟩ := run_append (P := P) (ty := ty) (base := base') h0 h1 hu0 hu1 hd1 hi hz hlen' hlt c3 c4 wr
    obtain ⟨τ1, old', new', l1, r1, r2, a1, a2, q⟩ := rd wr.drew (hw.drewn _)
    have hrun := hrun old' new' r1 r2
    obtain ⟨hkw, hks⟩ := killB_spec q hk
    have hcs : (old' ++ new' ++ Builtin.zeroCells z.cells (newCap - (sLen + n))).size = newCap * i.size := by
      rw [Array.size_append, Array.size_append, zeroCells_size, ← a1.1, ← a2.1, s1, s2, c5, ← Nat.add_mul, ← Nat.add_mul]
      congr 1; omega
    have hor : OR τ1 (some (newCap * i.size, i.size)) (.cells (old ++ new) elem (i.size + 2, 1)) (.cells (old' ++ new' ++ Builtin.zeroCells z.cells (newCap - (sLen + n))) elem (0, 0)) := by
      refine .more _ _ _ _ _ ?_ hcs ?_
      · rw [Array.size_append, s1, s2, ← Nat.add_mul]
        exact Nat.mul_le_mul_right _ hnc
      · intro j u u' h1 h2
        have hj := (Array.getElem?_eq_some_iff.1 h1).1
        have haa := a1.append a2
        rw [Array.getElem?_append, if_pos (by rw [← haa.1]; exact hj)] at h2
        exact haa.2 j u u' h1 h2
    obtain ⟨τ2, l2, t2, w2⟩ := hkw.new hor
    refine ⟨τ2, _, _, l1.trans l2, hrun, ?_, w2⟩
    rw [hks] at t2
    exact .sl _ _ 0 _ _ _ _ t2 ⟨hnc, by omega⟩
  generalize hbe : (Value.slice base sLen sCap) = s at hs
  cases hs <;> first | (cases hbe; done) | skip
  · cases hbe
    exact grow none _ rfl c2
  · rename_i k r o l c c' ii ht hcap
    cases hbe
    unfold killB at hk
    dsimp only at hk
    split at hk <;> first | (cases hk; done) | skip
    rename_i cc ee ff hh
    split at hk
    · rename_i hf
      have hf : ff = (0, 0) := by simpa using hf
      subst hf
      have hi0 : ii = none := hw.exact (by simp [exactB, hh]) _ _ ht
      subst hi0
      have hcap : sCap = c' := hcap
      subst hcap
      exact grow _ _ rfl c2
    · split at hk <;> first | (cases hk; done) | skip
      rename_i hf
      simp only [Bool.and_eq_true, beq_iff_eq] at hf
      obtain ⟨⟨⟨hf, hoo⟩, _⟩, hee⟩ := hf
      subst hf hoo hee
      have hlive : live (.cells cc ee (i.size + 2, 1)) = true := by simp [live]
      obtain ⟨r2, i2, o', b1, b2, b3⟩ := hw.blk k _ hh hlive
      obtain ⟨rfl, rfl⟩ := hw.fn _ _ _ _ _ ht b1
      cases b3 with
      | more _ c1 _ m zz m1 m2 m3 =>
        by_cases hfit : sLen + n ≤ c'
        · obtain ⟨τ1, old', new', l1, r1, r2, a1, a2, q⟩ := rd wr hw
          have hal : alive wa.heap k := ⟨_, hh, hlive⟩
          have hBr := (hw.dom _ _ _ ht).2.2 hal
          have hm : c' * i.size ≤ m := by have := hcap.2; omega
          have hmul : (sLen + n) * i.size ≤ c' * i.size := Nat.mul_le_mul_right _ hfit
          rw [Nat.add_mul] at hmul
          have hl : sLen * i.size + new'.size ≤ c1.size := by rw [← a2.1, s2, m2]; omega
          have hp : ∀ v ∈ new'.toList, Value.plainCell v = true := by
            intro v hv
            obtain ⟨j, hj, hjv⟩ := List.getElem_of_mem hv
            have hj' : j < new'.size := by simpa using hj
            have hj2 : j < new.size := by rw [a2.1]; exact hj'
            have e1 : new'[j]? = some v := by rw [← Array.getElem?_toList, List.getElem?_eq_getElem hj, hjv]
            have e2 := Array.getElem?_eq_getElem hj2
            have hvv := a2.2 j _ _ e2 e1
            rw [← hvv.plain]
            exact s3 _ (by simp)
          obtain ⟨w', hrun, hheap, hos, htp, hou⟩ := run_append_in (P := P) (ty := ty) h0 h1 hu0 hu1 hd1 hi hlen' hfit wr r2 b2 hl hp
          have hold : old' = c1.extract 0 (sLen * i.size) := by
            have hrc := run_cells (P := P) (sLen * i.size) wr r 0 0 #[] c1 ee (0, 0) b2 (by rw [m2]; omega)
            have : (Builtin.firstCells i.size sLen (.slice (some ⟨r, 0, none⟩) sLen c')).run P wr = .ok (#[] ++ c1.extract (0 + 0) (0 + 0 + sLen * i.size)) wr := hrc
            rw [this] at r1
            simp only [Result.ok.injEq] at r1
            rw [← r1.1]; simp
          have hkq : WR G B w0 τ1 (wa.heap.setIfInBounds k dead) wr := q.kill k
          have hHk : Hk = wa.heap.setIfInBounds k dead := by simpa using hk.symm
          have hno : ∀ k2 i2, τ1 k2 r i2 → ¬ alive (wa.heap.setIfInBounds k dead) k2 := by
            rintro k2 i2 h2 ⟨u, hu, hlu⟩
            by_cases e : k = k2
            · subst e
              rw [Array.getElem?_setIfInBounds_self] at hu
              split at hu
              · cases hu; simp [live] at hlu
              · cases hu
            · rw [Array.getElem?_setIfInBounds_ne e] at hu
              exact e (q.inj k k2 r _ i2 (l1 _ _ _ ht) h2 hal ⟨u, hu, hlu⟩)
          have hbel : Kp B w0 w' := by
            refine ⟨hos.trans hw.kp.os, htp.trans hw.kp.tape, hou.trans hw.kp.output, by rw [hheap]; simpa using hw.kp.size, fun j u hj => ?_⟩
            rw [hheap, Array.getElem?_setIfInBounds_ne (fun e => by rw [e, hj] at hBr; cases hBr)]
            exact hw.kp.block j u hj
          have hosz : old.size = old'.size := a1.1
          have hor : OR τ1 (some (m, i.size)) (.cells (old ++ new) ee (i.size + 2, 1)) (.cells (over c1 (sLen * i.size) new'.toList) ee (0, 0)) := by
            refine .more _ _ _ _ _ (by rw [Array.size_append, s1, s2]; omega) (by rw [over_size, m2]) ?_
            intro j u u' h1 h2
            rw [over_get _ _ _ _ (by simpa using hl)] at h2
            have hj := (Array.getElem?_eq_some_iff.1 h1).1
            rw [Array.size_append] at hj
            by_cases hjo : j < old.size
            · rw [Array.getElem?_append, if_pos hjo] at h1
              rw [if_neg (by omega)] at h2
              refine a1.2 j u u' h1 ?_
              rw [hold, Array.getElem?_extract, if_pos (by omega), Nat.zero_add]
              exact h2
            · rw [Array.getElem?_append, if_neg hjo] at h1
              rw [if_pos (by have := a2.1; simp; omega)] at h2
              rw [Array.getElem?_toList] at h2
              rw [s1] at h1
              exact a2.2 _ u u' h1 h2
          have hold : ∀ (k2 : Nat) (cs : Array Value) (e : TypeId) (i2 : Option (Nat × Nat)), (wa.heap.setIfInBounds k dead)[k2]? = some (oldB cs e) → ¬ τ1 k2 r i2 := by
            intro k2 cs e i2 hk2 h2
            have hk2' : wa.heap[k2]? = some (oldB cs e) := by
              by_cases ek : k = k2
              · subst ek
                rw [Array.getElem?_setIfInBounds_self] at hk2
                split at hk2
                · simp only [dead, oldB, Option.some.injEq, Obj.cells.injEq, Prod.mk.injEq] at hk2; omega
                · cases hk2
              · rw [Array.getElem?_setIfInBounds_ne ek] at hk2; exact hk2
            obtain ⟨r2, i3, cs', e', f, g1, g2, g3, g4, _⟩ := q.old k2 cs e hk2'
            obtain ⟨rfl, _⟩ := q.fn _ _ _ _ _ g1 h2
            exact g4 k _ (l1 _ _ _ ht) hal
          obtain ⟨τ2, l2, t2, w2⟩ := hkq.newAt b2 hBr hno hold hheap hbel hor
          refine ⟨τ2, _, _, l1.trans l2, hrun, ?_, hHk ▸ w2⟩
          rw [show (wa.heap.setIfInBounds k dead).size = wa.heap.size by simp] at t2
          exact .sl _ _ 0 _ _ _ _ t2 ⟨hfit, by omega⟩
        · exact grow _ _ rfl (by omega)
end sound
end Go.Ev
namespace Go.Ev
open Go.RowKit
set_option linter.unusedVariables false
set_option linter.unusedSimpArgs false

section find
variable {P : Program} {τ : Rel}
theorem still_bind {α β : Type} {s : Sem α} {f : α → Sem β} : ∀ {b : β}, still P (s >>= f) = some b → ∃ a, still P s = some a ∧ still P (f a) = some b := by
  show ∀ {b : β}, still P (s.bind f) = some b → _
  induction s with
  | pure a => intro b h; exact ⟨a, rfl, h⟩
  | program k ih => intro b h; exact ih P h
  | mark m k ih => intro b h; exact ih h
  | load => intro b h; simp [Sem.bind, still] at h
  | store => intro b h; simp [Sem.bind, still] at h
  | new => intro b h; simp [Sem.bind, still] at h
  | shape => intro b h; simp [Sem.bind, still] at h
  | freeze => intro b h; simp [Sem.bind, still] at h
  | frozen => intro b h; simp [Sem.bind, still] at h
  | getObj => intro b h; simp [Sem.bind, still] at h
  | setObj => intro b h; simp [Sem.bind, still] at h
  | choose => intro b h; simp [Sem.bind, still] at h
  | sys => intro b h; simp [Sem.bind, still] at h
  | halt => intro b h; simp [Sem.bind, still] at h
theorem still_bind_of {α β : Type} {s : Sem α} {f : α → Sem β} : ∀ {a : α}, still P s = some a → still P (s >>= f) = still P (f a) := by
  show ∀ {a : α}, still P s = some a → still P (s.bind f) = still P (f a)
  induction s with
  | pure a => intro b h; simp only [still, Option.some.injEq] at h; subst h; rfl
  | program k ih => intro b h; exact ih P h
  | mark m k ih => intro b h; exact ih h
  | load => intro b h; simp [still] at h
  | store => intro b h; simp [still] at h
  | new => intro b h; simp [still] at h
  | shape => intro b h; simp [still] at h
  | freeze => intro b h; simp [still] at h
  | frozen => intro b h; simp [still] at h
  | getObj => intro b h; simp [still] at h
  | setObj => intro b h; simp [still] at h
  | choose => intro b h; simp [still] at h
  | sys => intro b h; simp [still] at h
  | halt => intro b h; simp [still] at h

/-- Entries with the same keys, and values that agree. -/
def LE (τ : Rel) : List MapEntry → List MapEntry → Prop
  | [], [] => True
  | e :: es, f :: fs => e.key = f.key ∧ VR τ e.val f.val ∧ e.born = f.born ∧ LE τ es fs
  | _, _ => False
def FR (τ : Rel) : Option (Nat × Value) → Option (Nat × Value) → Prop
  | none, none => True
  | some (i, v), some (j, u) => i = j ∧ VR τ v u
  | _, _ => False
theorem findAsking_le (kt : TypeId) (k : Value) : ∀ (es fs : List MapEntry) (i : Nat) {r : Option (Nat × Value)}, LE τ es fs → still P (Instr.findAsking kt k es i) = some r → ∃ r', still P (Instr.findAsking kt k fs i) = some r' ∧ FR τ r r'
  | [], [], i, r, _, h => by
    simp only [Instr.findAsking] at h ⊢
    cases h; exact ⟨none, rfl, trivial⟩
  | e :: es, f :: fs, i, r, ⟨h1, h2, h3, h4⟩, h => by
    unfold Instr.findAsking at h ⊢
    obtain ⟨b, hb, hr⟩ := still_bind h
    rw [← h1, still_bind_of hb]
    cases b
    · exact findAsking_le kt k es fs (i + 1) h4 hr
    · cases hr
      exact ⟨some (i, f.val), rfl, rfl, h2⟩
  | [], _ :: _, _, _, x, _ => x.elim
  | _ :: _, [], _, _, x, _ => x.elim
theorem findNow_le (d : TypeDesc) (k : Value) : ∀ (es fs : List MapEntry) (i : Nat), LE τ es fs → (Instr.findNow d k es i = none ∧ Instr.findNow d k fs i = none) ∨ ∃ r r', Instr.findNow d k es i = some r ∧ Instr.findNow d k fs i = some r' ∧ FR τ r r'
  | [], [], i, _ => .inr ⟨none, none, rfl, rfl, trivial⟩
  | e :: es, f :: fs, i, ⟨h1, h2, h3, h4⟩ => by
    unfold Instr.findNow
    rw [← h1]
    cases Instr.sameNow d k e.key with
    | none => exact .inl ⟨rfl, rfl⟩
    | some b =>
      cases b
      · exact findNow_le d k es fs (i + 1) h4
      · exact .inr ⟨_, _, rfl, rfl, rfl, h2⟩
  | [], _ :: _, _, x => x.elim
  | _ :: _, [], _, x => x.elim
theorem findKey_le (kt : TypeId) (k : Value) (es fs : List MapEntry) {r : Option (Nat × Value)} (h : LE τ es fs) (hr : still P (Instr.findKey kt k es) = some r) : ∃ r', still P (Instr.findKey kt k fs) = some r' ∧ FR τ r r' := by
  unfold Instr.findKey at hr ⊢
  obtain ⟨d, hd, hr⟩ := still_bind hr
  rw [still_bind_of hd]
  rcases findNow_le (τ := τ) d k es fs 0 h with ⟨e1, e2⟩ | ⟨q, q', e1, e2, hq⟩
  · rw [e1] at hr; rw [e2]
    exact findAsking_le kt k es fs 0 h hr
  · rw [e1] at hr; rw [e2]
    cases hr
    exact ⟨q', rfl, hq⟩

theorem ER.le {es fs : Array MapEntry} (h : ER τ es fs) (hk : es.toList.all (fun e => AFb 10 e.key) = true) : LE τ es.toList fs.toList := by
  obtain ⟨es⟩ := es
  obtain ⟨fs⟩ := fs
  simp only at hk ⊢
  induction es generalizing fs with
  | nil =>
    cases fs with
    | nil => trivial
    | cons => have := h.1; simp at this
  | cons e es ih =>
    cases fs with
    | nil => have := h.1; simp at this
    | cons f fs =>
      simp only [List.all_cons, Bool.and_eq_true] at hk
      obtain ⟨h1, h2, h3⟩ := h.2 0 e f rfl rfl
      refine ⟨AFb.eq _ _ _ hk.1 h1, h2, h3, ih hk.2 fs ⟨by have := h.1; simpa using this, fun i a b ha hb => h.2 (i + 1) a b (by simpa using ha) (by simpa using hb)⟩⟩
end find

/-- Where a key lies. -/
def findB (P : Program) (kt : TypeId) (key : Value) (empty : Bool) (es : Array MapEntry) : Option (Option (Nat × Value)) :=
  if AFb 10 key && es.toList.all (fun e => AFb 10 e.key) then
    match still P (Instr.checkKey empty 10000 kt key), still P (Instr.findKey kt key es.toList) with
    | some _, some r => some r
    | _, _ => none
  else none
theorem findB_spec {P : Program} {τ : Rel} {kt : TypeId} {key key' : Value} {empty : Bool} {es fs : Array MapEntry} {r : Option (Nat × Value)} (h : findB P kt key empty es = some r) (hk : VR τ key key') (he : ER τ es fs) :
    key' = key ∧ AFb 10 key = true ∧ (∀ w, (Instr.checkKey empty 10000 kt key).run P w = .ok () w) ∧ ∃ r', (∀ w, (Instr.findKey kt key fs.toList).run P w = .ok r' w) ∧ FR τ r r' := by
  unfold findB at h
  split at h <;> first | (cases h; done) | skip
  rename_i hc
  rw [Bool.and_eq_true] at hc
  split at h <;> first | (cases h; done) | skip
  rename_i u r2 h1 h2
  cases h
  obtain ⟨r', e1, e2⟩ := findKey_le (τ := τ) kt key es.toList fs.toList (he.le hc.2) h2
  exact ⟨(AFb.eq _ _ _ hc.1 hk).symm, hc.1, still_run _ h1, r', still_run _ e1, e2⟩

/-- What a map's block holds there. -/
theorem WR.map {G : Gl} {B : FM} {w0 : World} {τ : Rel} {H : Array Obj} {w : World} (h : WR G B w0 τ H w) {k r : Nat} {i : Option (Nat × Nat)} (ht : τ k r i) {es : Array MapEntry} {c : Nat} (hk : H[k]? = some (.map es c)) :
    ∃ fs, w.heap[r]? = some (.map fs c) ∧ ER τ es fs ∧ i = none := by
  obtain ⟨r2, i2, o', h1, h2, h3⟩ := h.blk k _ hk rfl
  obtain ⟨rfl, rfl⟩ := h.fn _ _ _ _ _ ht h1
  cases h3 with
  | map _ fs _ he => exact ⟨fs, h2, he, rfl⟩

def lookB (P : Program) (H : Array Obj) (t : TypeId) (m key : Value) (ok : Bool) : Option Value :=
  match P.underlying t with
  | some (.map kt et) =>
    match (match m with | .map none => some #[] | .map (some k) => (match H[k]? with | some (.map es _) => some es | _ => none) | _ => none) with
    | some es => match findB P kt key es.isEmpty es with
      | some (some (_, v)) => some (if ok then .tuple #[v, .bool true] else v)
      | some none => match P.info? et with
        | some i => match i.zero with
          | some z => if AFb 10 z then some (if ok then .tuple #[z, .bool false] else z) else none
          | none => none
        | none => none
      | none => none
    | none => none
  | _ => none

section sound
variable {P : Program} {G : Gl} {B : FM} {w0 : World}
theorem ER.empty {τ : Rel} {es fs : Array MapEntry} (h : ER τ es fs) : es.isEmpty = fs.isEmpty := by
  simp [Array.isEmpty, h.1]
theorem run_look {t kt et : TypeId} {m key : Value} {ok : Bool} {fs : Array MapEntry} {w : World} (hu : P.underlying t = some (.map kt et)) (hm : (m = .map none ∧ fs = #[]) ∨ ∃ r c, m = .map (some r) ∧ w.heap[r]? = some (.map fs c))
    (hc : ∀ w, (Instr.checkKey fs.isEmpty 10000 kt key).run P w = .ok () w) {q : Option (Nat × Value)} (hf : ∀ w, (Instr.findKey kt key fs.toList).run P w = .ok q w) :
    (Instr.lookup t m key ok).run P w = match q with
      | some (_, v) => .ok (if ok then .tuple #[v, .bool true] else v) w
      | none => ((zeroValue et).run P w).andThen fun z w => .ok (if ok then .tuple #[z, .bool false] else z) w := by
  rcases hm with ⟨rfl, rfl⟩ | ⟨r, c, rfl, hr⟩
  · simp only [Instr.lookup, Sem.run_bind, run_underlying hu, Result.andThen_ok, Sem.run_pure, hc, hf]
    cases q with
    | none => dsimp only; rw [Sem.run_bind]; rfl
    | some x => rfl
  · simp only [Instr.lookup, Sem.run_bind, run_underlying hu, Result.andThen_ok, Sem.run_pure, getObj, Sem.run, hr, hc, hf]
    cases q with
    | none => dsimp only; rw [Sem.run_bind]; rfl
    | some x => rfl
theorem lookB_sound {τ : Rel} {H : Array Obj} {wr : World} {t : TypeId} {m m' key key' v : Value} {ok : Bool} (h : lookB P H t m key ok = some v) (hm : VR τ m m') (hk : VR τ key key') (hw : WR G B w0 τ H wr) :
    ∃ v', (Instr.lookup t m' key' ok).run P wr = .ok v' wr ∧ VR τ v v' := by
  unfold lookB at h
  split at h <;> first | (cases h; done) | skip
  rename_i kt et hu
  split at h <;> first | (cases h; done) | skip
  rename_i es hes
  have hfs : ∃ fs, ER τ es fs ∧ ((m' = .map none ∧ fs = #[]) ∨ ∃ r c, m' = .map (some r) ∧ wr.heap[r]? = some (.map fs c)) := by
    cases hm with
    | map0 =>
      cases hes
      exact ⟨#[], ⟨rfl, fun i e f h => by simp at h⟩, .inl ⟨rfl, rfl⟩⟩
    | map k r i ht =>
      dsimp only at hes
      split at hes <;> first | (cases hes; done) | skip
      rename_i es2 c hh
      cases hes
      obtain ⟨fs, e1, e2, _⟩ := hw.map ht hh
      exact ⟨fs, e2, .inr ⟨r, c, rfl, e1⟩⟩
    | _ => cases hes
  obtain ⟨fs, her, hmm⟩ := hfs
  split at h <;> first | (cases h; done) | skip
  · rename_i i u hq
    obtain ⟨rfl, hak, hcc, q', hff, hr⟩ := findB_spec hq hk her
    rw [her.empty] at hcc
    have hrun := run_look (ok := ok) hu hmm hcc hff
    cases q' with
    | none => exact hr.elim
    | some x =>
      obtain ⟨j, u'⟩ := x
      cases h
      refine ⟨_, hrun, ?_⟩
      cases ok
      · exact hr.2
      · exact VR.tuple_ (((AR.nil _).push hr.2).push (.bool true))
  · rename_i hq
    obtain ⟨rfl, hak, hcc, q', hff, hr⟩ := findB_spec hq hk her
    rw [her.empty] at hcc
    have hrun := run_look (ok := ok) hu hmm hcc hff
    cases q' with
    | some x => exact hr.elim
    | none =>
      split at h <;> first | (cases h; done) | skip
      rename_i inf hi
      split at h <;> first | (cases h; done) | skip
      rename_i z hz
      split at h <;> first | (cases h; done) | skip
      rename_i haz
      cases h
      rw [run_zero hi hz] at hrun
      refine ⟨_, hrun, ?_⟩
      have hvz := AFb.vr (τ := τ) _ _ haz
      cases ok
      · exact hvz
      · exact VR.tuple_ (((AR.nil _).push hvz).push (.bool false))
end sound
end Go.Ev
namespace Go.Ev
open Go.RowKit
set_option linter.unusedVariables false
set_option linter.unusedSimpArgs false

section er
variable {τ : Rel}
theorem ER.push {es fs : Array MapEntry} (h : ER τ es fs) {e f : MapEntry} (hk : VR τ e.key f.key) (hv : VR τ e.val f.val) (hb : e.born = f.born) : ER τ (es.push e) (fs.push f) := by
  refine ⟨by simp [h.1], fun i a b ha hb2 => ?_⟩
  rw [Array.getElem?_push] at ha hb2
  rw [h.1] at ha
  by_cases hi : i = fs.size
  · rw [if_pos hi] at ha hb2
    cases ha; cases hb2; exact ⟨hk, hv, hb⟩
  · rw [if_neg hi] at ha hb2
    exact h.2 i a b ha hb2
theorem ER.modify {es fs : Array MapEntry} (h : ER τ es fs) (j : Nat) {key key' v v' : Value} (hk : VR τ key key') (hv : VR τ v v') : ER τ (es.modify j fun e => { e with key := key, val := v }) (fs.modify j fun e => { e with key := key', val := v' }) := by
  refine ⟨by simp [h.1], fun i a b ha hb => ?_⟩
  rw [Array.getElem?_modify] at ha hb
  by_cases hi : j = i
  · rw [if_pos hi] at ha hb
    cases h1 : es[i]? with
    | none => rw [h1] at ha; cases ha
    | some e =>
      cases h2 : fs[i]? with
      | none => rw [h2] at hb; cases hb
      | some f =>
        rw [h1] at ha; rw [h2] at hb
        cases ha; cases hb
        exact ⟨hk, hv, (h.2 i e f h1 h2).2.2⟩
  · rw [if_neg hi] at ha hb
    exact h.2 i a b ha hb
theorem erase_get (es : Array MapEntry) (i j : Nat) (hi : i < es.size) : (es.eraseIdxIfInBounds i)[j]? = if j < i then es[j]? else es[j + 1]? := by
  unfold Array.eraseIdxIfInBounds
  rw [dif_pos hi]
  rw [Array.getElem?_eraseIdx]
theorem ER.erase {es fs : Array MapEntry} (h : ER τ es fs) (i : Nat) : ER τ (es.eraseIdxIfInBounds i) (fs.eraseIdxIfInBounds i) := by
  by_cases hi : i < es.size
  · have hi2 : i < fs.size := by rw [← h.1]; exact hi
    refine ⟨by unfold Array.eraseIdxIfInBounds; rw [dif_pos hi, dif_pos hi2]; simp [h.1], fun j a b ha hb => ?_⟩
    rw [erase_get _ _ _ hi] at ha
    rw [erase_get _ _ _ hi2] at hb
    split at ha
    · rename_i hj; rw [if_pos hj] at hb; exact h.2 _ a b ha hb
    · rename_i hj; rw [if_neg hj] at hb; exact h.2 _ a b ha hb
  · have hi2 : ¬ i < fs.size := by rw [← h.1]; exact hi
    unfold Array.eraseIdxIfInBounds
    rw [dif_neg hi, dif_neg hi2]
    exact h
end er

def updB (P : Program) (H : Array Obj) (t : TypeId) (m key v : Value) : Option (Array Obj) :=
  match P.underlying t, m with
  | some (.map kt _), .map (some k) => match H[k]? with
    | some (.map es c) => match findB P kt key false es with
      | some (some (i, _)) => match es[i]? with
        | some e => if AFb 10 e.key && Instr.sameBits 10000 e.key key then some (H.setIfInBounds k (.map (es.modify i fun e => { e with key := key, val := v }) c)) else none
        | none => none
      | some none => some (H.setIfInBounds k (.map (es.push { key, val := v, born := c }) (c + 1)))
      | none => none
    | _ => none
  | _, _ => none
def delB (P : Program) (H : Array Obj) (t : TypeId) (m key : Value) : Option (Array Obj) :=
  match P.underlying t, m with
  | some (.map kt _), .map (some k) => match H[k]? with
    | some (.map es c) => match findB P kt key es.isEmpty es with
      | some (some (i, _)) => some (H.setIfInBounds k (.map (es.eraseIdxIfInBounds i) c))
      | some none => some (H.setIfInBounds k (.map es c))
      | none => none
    | _ => none
  | _, _ => none

section sound
variable {P : Program} {G : Gl} {B : FM} {w0 : World}

theorem run_setObj {w : World} {r : Nat} {fs : Array MapEntry} {c : Nat} (h : w.heap[r]? = some (.map fs c)) (o : Obj) : (setObj r o).run P w = .ok () { w with heap := w.heap.setIfInBounds r o } := by
  simp [setObj, Sem.run, h]
theorem run_upd {t kt et : TypeId} {key v : Value} {fs : Array MapEntry} {c r : Nat} {w : World} (hu : P.underlying t = some (.map kt et)) (hr : w.heap[r]? = some (.map fs c)) (hc : ∀ w, (Instr.checkKey false 10000 kt key).run P w = .ok () w) {q : Option (Nat × Value)} (hf : ∀ w, (Instr.findKey kt key fs.toList).run P w = .ok q w)
    (hs : ∀ i u, q = some (i, u) → Instr.sameBits 10000 (((fs[i]?).map (·.key)).getD key) key = true) :
    (Instr.mapUpdate t (.map (some r)) key v).run P w = .ok () { w with heap := w.heap.setIfInBounds r (match q with | some (i, _) => .map (fs.modify i fun e => { e with key := key, val := v }) c | none => .map (fs.push { key, val := v, born := c }) (c + 1)) } := by
  simp only [Instr.mapUpdate, Sem.run_bind, run_underlying hu, Result.andThen_ok, getObj, Sem.run, hr, hc, hf]
  cases q with
  | none => exact run_setObj hr _
  | some x =>
    obtain ⟨i, u⟩ := x
    have := hs i u rfl
    simp only [Instr.keyThatStays, this, if_true, Sem.run_bind, Sem.run_pure, Result.andThen_ok]
    exact run_setObj hr _
theorem run_del {t kt et ty : TypeId} {ts : Array TypeId} {key : Value} {fs : Array MapEntry} {c r : Nat} {w : World} (h0 : ts[0]? = some t) (hu : P.underlying t = some (.map kt et)) (hr : w.heap[r]? = some (.map fs c)) (hc : ∀ w, (Instr.checkKey fs.isEmpty 10000 kt key).run P w = .ok () w) {q : Option (Nat × Value)} (hf : ∀ w, (Instr.findKey kt key fs.toList).run P w = .ok q w) :
    (Builtin.delete_ ts ty #[.map (some r), key]).run P w = .ok (.tuple #[]) { w with heap := w.heap.setIfInBounds r (match q with | some (i, _) => .map (fs.eraseIdxIfInBounds i) c | none => .map fs c) } := by
  simp only [Builtin.delete_, h0, List.getElem?_toArray, List.getElem?_cons_zero, List.getElem?_cons_succ, Sem.run_bind, run_underlying hu, Result.andThen_ok, getObj, Sem.run, hr, hc, hf]
  cases q with
  | none => dsimp only; rw [Sem.run_bind, run_setObj hr]; rfl
  | some x => dsimp only; rw [Sem.run_bind, run_setObj hr]; rfl

theorem WR.putMap {τ : Rel} {H : Array Obj} {w : World} {k r : Nat} {es fs : Array MapEntry} {c c0 : Nat} {es0 : Array MapEntry} (h : WR G B w0 τ H w) (ht : τ k r none) (hk : H[k]? = some (.map es0 c0)) (he : ER τ es fs) :
    WR G B w0 τ (H.setIfInBounds k (.map es c)) { w with heap := w.heap.setIfInBounds r (.map fs c) } := by
  have hal : alive H k := ⟨_, hk, rfl⟩
  exact h.put ht hal (.map _ _ c he) rfl (h.kp.put ((h.dom _ _ _ ht).2.2 hal) _)

theorem updB_sound {τ : Rel} {H H' : Array Obj} {wr : World} {t : TypeId} {m m' key key' v v' : Value} (h : updB P H t m key v = some H') (hm : VR τ m m') (hk : VR τ key key') (hv : VR τ v v') (hw : WR G B w0 τ H wr) :
    ∃ wr', (Instr.mapUpdate t m' key' v').run P wr = .ok () wr' ∧ WR G B w0 τ H' wr' := by
  unfold updB at h
  split at h <;> first | (cases h; done) | skip
  rename_i kt et k hu
  split at h <;> first | (cases h; done) | skip
  rename_i es c hh
  cases hm with
  | map _ r i ht =>
    obtain ⟨fs, e1, her, rfl⟩ := hw.map ht hh
    split at h <;> first | (cases h; done) | skip
    · rename_i j u hq
      obtain ⟨rfl, hak, hcc, q', hff, hr⟩ := findB_spec hq hk her
      cases q' with
      | none => exact hr.elim
      | some x =>
        obtain ⟨j', u'⟩ := x
        obtain ⟨rfl, _⟩ := hr
        split at h <;> first | (cases h; done) | skip
        rename_i e hej
        split at h <;> first | (cases h; done) | skip
        rename_i hsb
        rw [Bool.and_eq_true] at hsb
        cases h
        have hfj : ∃ f, fs[j]? = some f ∧ f.key = e.key := by
          have hj := (Array.getElem?_eq_some_iff.1 hej).1
          have hj2 : j < fs.size := by rw [← her.1]; exact hj
          have e2 := Array.getElem?_eq_getElem hj2
          exact ⟨_, e2, (AFb.eq _ _ _ hsb.1 (her.2 j e _ hej e2).1).symm⟩
        obtain ⟨f, hfj, hfk⟩ := hfj
        refine ⟨_, run_upd hu e1 hcc hff (fun i u hiu => ?_), hw.putMap ht hh (her.modify j hk hv)⟩
        cases hiu
        rw [hfj]
        simpa [hfk] using hsb.2
    · rename_i hq
      obtain ⟨rfl, hak, hcc, q', hff, hr⟩ := findB_spec hq hk her
      cases q' with
      | some x => exact hr.elim
      | none =>
        cases h
        exact ⟨_, run_upd hu e1 hcc hff (fun i u hiu => by cases hiu), hw.putMap ht hh (her.push hk hv rfl)⟩
theorem delB_sound {τ : Rel} {H H' : Array Obj} {wr : World} {t ty : TypeId} {ts : Array TypeId} {m m' key key' : Value} (h0 : ts[0]? = some t) (h : delB P H t m key = some H') (hm : VR τ m m') (hk : VR τ key key') (hw : WR G B w0 τ H wr) :
    ∃ wr', (Builtin.delete_ ts ty #[m', key']).run P wr = .ok (.tuple #[]) wr' ∧ WR G B w0 τ H' wr' := by
  unfold delB at h
  split at h <;> first | (cases h; done) | skip
  rename_i kt et k hu
  split at h <;> first | (cases h; done) | skip
  rename_i es c hh
  cases hm with
  | map _ r i ht =>
    obtain ⟨fs, e1, her, rfl⟩ := hw.map ht hh
    split at h <;> first | (cases h; done) | skip
    · rename_i j u hq
      obtain ⟨rfl, hak, hcc, q', hff, hr⟩ := findB_spec hq hk her
      rw [her.empty] at hcc
      cases q' with
      | none => exact hr.elim
      | some x =>
        obtain ⟨j', u'⟩ := x
        obtain ⟨rfl, _⟩ := hr
        cases h
        exact ⟨_, run_del h0 hu e1 hcc hff, hw.putMap ht hh (her.erase j)⟩
    · rename_i hq
      obtain ⟨rfl, hak, hcc, q', hff, hr⟩ := findB_spec hq hk her
      rw [her.empty] at hcc
      cases q' with
      | some x => exact hr.elim
      | none =>
        cases h
        exact ⟨_, run_del h0 hu e1 hcc hff, hw.putMap ht hh her⟩
end sound
end Go.Ev
namespace Go.Ev
open Go.RowKit
set_option linter.unusedVariables false
set_option linter.unusedSimpArgs false

/-- append of nothing. -/
def same0 (P : Program) (ts : Array TypeId) (s x : Value) : Option Value :=
  match ts[0]?, ts[1]?, s, lenV x with
  | some t0, some t1, .slice base sLen sCap, some 0 =>
    match P.underlying t0, P.underlying t1 with
    | some (.slice elem), some d1 => match P.info? elem with
      | some i => if notInt d1 && decide (sLen ≤ sCap) then some s else none
      | none => none
    | _, _ => none
  | _, _, _, _ => none
theorem run_append0 {P : Program} {ts : Array TypeId} {ty t0 t1 elem : TypeId} {d1 : TypeDesc} {i : TypeInfo} {x : Value} {sLen sCap : Nat} {base : Option Addr} (h0 : ts[0]? = some t0) (h1 : ts[1]? = some t1) (hu0 : P.underlying t0 = some (.slice elem)) (hu1 : P.underlying t1 = some d1) (hd1 : ∀ k, d1 ≠ .int k)
    (hi : P.info? elem = some i) (hlen : lenV x = some 0) (hneed : sLen ≤ sCap) (w : World) (hn : (Builtin.firstCells i.size 0 x).run P w = .ok #[] w) :
    (Builtin.append_ ts ty #[.slice base sLen sCap, x]).run P w = .ok (.slice base sLen sCap) w := by
  have hz0 : (match d1 with | .int _ => true | _ => false) = false := by
    cases d1 <;> first | rfl | exact absurd rfl (hd1 _)
  simp only [Builtin.append_, h0, h1]
  simp only [List.getElem?_toArray, List.getElem?_cons_zero, List.getElem?_cons_succ, Sem.run_bind, run_underlying hu0, run_underlying hu1, run_sizeOf hi, Result.andThen_ok, Sem.run_pure, hz0, Bool.false_eq_true, if_false, lenOf_run hlen, Nat.add_zero, hneed, if_true, Bool.not_false]
  rw [hn]
  cases base <;> rfl
theorem same0_sound {P : Program} {τ : Rel} {ts : Array TypeId} {ty : TypeId} {s x s' x' v : Value} {wr : World} (h : same0 P ts s x = some v) (hs : VR τ s s') (hx : VR τ x x') : ∃ v', (Builtin.append_ ts ty #[s', x']).run P wr = .ok v' wr ∧ VR τ v v' := by
  unfold same0 at h
  split at h <;> first | (cases h; done) | skip
  rename_i t0 t1 base sLen sCap h0 h1 hlen
  split at h <;> first | (cases h; done) | skip
  rename_i elem d1 hu0 hu1
  split at h <;> first | (cases h; done) | skip
  rename_i i hi
  split at h <;> first | (cases h; done) | skip
  rename_i hc
  rw [Bool.and_eq_true, decide_eq_true_eq] at hc
  cases h
  have hd1 : ∀ k, d1 ≠ .int k := by rintro k rfl; cases hc.1
  have hlen' : lenV x' = some 0 := lenV_eq hx hlen
  have hn : (Builtin.firstCells i.size 0 x').run P wr = .ok #[] wr := by
    cases hx with
    | sl0 l c => rfl
    | sl k r o l c c' ii t hcap =>
      show (loadCells ⟨r, o, none⟩ (0 * i.size)).run P wr = _
      rw [Nat.zero_mul]; rfl
    | string b =>
      show Result.ok _ wr = _
      have : b.extract 0 0 = ByteArray.empty := by simp
      simp [this]
    | _ => cases hlen
  generalize hb : (Value.slice base sLen sCap) = q at hs
  cases hs <;> first | (cases hb; done) | skip
  · cases hb
    exact ⟨_, run_append0 h0 h1 hu0 hu1 hd1 hi hlen' hc.2 wr hn, .sl0 _ _⟩
  · rename_i k r o l c c' ii t hcap
    cases hb
    have hcc : sCap ≤ c' := by
      cases ii with
      | none => exact Nat.le_of_eq hcap
      | some q => exact hcap.1
    exact ⟨_, run_append0 h0 h1 hu0 hu1 hd1 hi hlen' (Nat.le_trans hc.2 hcc) wr hn, .sl _ _ _ _ _ _ ii t hcap⟩

/-- The special operations. -/
def spec (P : Program) : Spec := fun ρ o wa => match o.op with
  | .lookup t m k ok => match lookB P wa.heap t (ρ m) (ρ k) ok with
    | some v => some (.value v, wa)
    | none => none
  | .mapUpdate t m k v => match updB P wa.heap t (ρ m) (ρ k) (ρ v) with
    | some H => some (.skip, { wa with heap := H })
    | none => none
  | .insert t m k v => match updB P wa.heap t (ρ m) (ρ k) (ρ v) with
    | some H => some (.skip, { wa with heap := H })
    | none => none
  | .call ⟨.builtin .append, args, ts⟩ => match args.toList with
    | [s, x] => match growB P wa.heap wa ts (ρ s) (ρ x) with
      | some (v, H) => some (.value v, { wa with heap := H })
      | none => match same0 P ts (ρ s) (ρ x) with
        | some v => some (.value v, wa)
        | none => none
    | _ => none
  | .call ⟨.builtin .delete, args, ts⟩ => match args.toList, ts.toList with
    | [m, k], t :: _ => match delB P wa.heap t (ρ m) (ρ k) with
      | some H => some (.value (.tuple #[]), { wa with heap := H })
      | none => none
    | _, _ => none
  | _ => none

theorem args2 {ρ : Operand → Value} {args : Array Operand} {a b : Operand} (h : args.toList = [a, b]) : args.map ρ = #[ρ a, ρ b] := by
  cases args with
  | mk l => simp only at h; subst h; simp
theorem mem2 {args : Array Operand} {a b : Operand} (h : args.toList = [a, b]) : a ∈ args ∧ b ∈ args := by
  cases args with
  | mk l => simp only at h; subst h; simp

theorem spec_ok (P : Program) (G : Gl) : SpecOk P G (spec P) := by
  intro ρ ρ' o wa wa' n h B w0 τ wr hv hw
  obtain ⟨dst, op, type, pos, after, guard⟩ := o
  dsimp only at hv
  unfold spec at h
  dsimp only at h
  split at h <;> first | (cases h; done) | skip
  · rename_i t m k ok
    split at h <;> first | (cases h; done) | skip
    rename_i v hl
    cases h
    obtain ⟨v', h1, h2⟩ := lookB_sound hl (hv m (by simp [Op.operands])) (hv k (by simp [Op.operands])) hw
    refine ⟨τ, _, wr, Rel.le.refl _, ?_, .value _ _ h2, hw⟩
    show ((do pure (Next.value (← Instr.lookup t (ρ' m) (ρ' k) ok))) : Sem Next).run P wr = _
    rw [Sem.run_bind, h1]; rfl
  · rename_i t m k v
    split at h <;> first | (cases h; done) | skip
    rename_i H hu
    cases h
    obtain ⟨wr', h1, h2⟩ := updB_sound hu (hv m (by simp [Op.operands])) (hv k (by simp [Op.operands])) (hv v (by simp [Op.operands])) hw
    refine ⟨τ, _, wr', Rel.le.refl _, ?_, .skip, h2⟩
    show ((do Instr.mapUpdate t (ρ' m) (ρ' k) (ρ' v); pure Next.skip) : Sem Next).run P wr = _
    rw [Sem.run_bind, h1]; rfl
  · rename_i t m k v
    split at h <;> first | (cases h; done) | skip
    rename_i H hu
    cases h
    obtain ⟨wr', h1, h2⟩ := updB_sound hu (hv m (by simp [Op.operands])) (hv k (by simp [Op.operands])) (hv v (by simp [Op.operands])) hw
    refine ⟨τ, _, wr', Rel.le.refl _, ?_, .skip, h2⟩
    show ((do Instr.mapUpdate t (ρ' m) (ρ' k) (ρ' v); pure Next.skip) : Sem Next).run P wr = _
    rw [Sem.run_bind, h1]; rfl
  · rename_i args ts
    split at h <;> first | (cases h; done) | skip
    rename_i s x ha
    obtain ⟨m1, m2⟩ := mem2 ha
    split at h
    · rename_i v H hg
      cases h
      obtain ⟨τ', v', wr', l1, h1, h2, h3⟩ := growB_sound (ty := type) hg (hv s (by simp [Op.operands, Call.operands, m1])) (hv x (by simp [Op.operands, Call.operands, m2])) hw
      refine ⟨τ', _, wr', l1, ?_, .value _ _ h2, h3⟩
      show ((do pure (Next.value (← Builtin.append_ ts type (args.map ρ')))) : Sem Next).run P wr = _
      rw [args2 ha, Sem.run_bind, h1]; rfl
    · split at h <;> first | (cases h; done) | skip
      rename_i v hg
      cases h
      obtain ⟨v', h1, h2⟩ := same0_sound (ty := type) (wr := wr) hg (hv s (by simp [Op.operands, Call.operands, m1])) (hv x (by simp [Op.operands, Call.operands, m2]))
      refine ⟨τ, _, wr, Rel.le.refl _, ?_, .value _ _ h2, hw⟩
      show ((do pure (Next.value (← Builtin.append_ ts type (args.map ρ')))) : Sem Next).run P wr = _
      rw [args2 ha, Sem.run_bind, h1]; rfl
  · rename_i args ts
    split at h <;> first | (cases h; done) | skip
    rename_i m k t rest ha ht
    split at h <;> first | (cases h; done) | skip
    rename_i H hg
    cases h
    obtain ⟨m1, m2⟩ := mem2 ha
    have h0 : ts[0]? = some t := by rw [← Array.getElem?_toList, ht]; rfl
    obtain ⟨wr', h1, h2⟩ := delB_sound (ty := type) h0 hg (hv m (by simp [Op.operands, Call.operands, m1])) (hv k (by simp [Op.operands, Call.operands, m2])) hw
    refine ⟨τ, _, wr', Rel.le.refl _, ?_, .value _ _ (VR.tuple_ (AR.nil _)), h2⟩
    show ((do pure (Next.value (← Builtin.delete_ ts type (args.map ρ')))) : Sem Next).run P wr = _
    rw [args2 ha, Sem.run_bind, h1]; rfl
end Go.Ev
namespace Go.Ev
open Go.RowKit
set_option linter.unusedVariables false
set_option linter.unusedSimpArgs false

section
variable {P : Program} {G : Gl} {B : FM} {w0 : World}

/-- Behind a callee that leaves what lay as it lay. -/
theorem WR.belowed {τ : Rel} {H : Array Obj} {w w' : World} (h : WR G B w0 τ H w) (hb : Below w.heap.size w w') : WR G B w0 τ H w' := by
  have hk : ∀ (k r : Nat) (i : Option (Nat × Nat)), τ k r i → w'.heap[r]? = w.heap[r]? := fun k r i ht => hb.block r (h.dom _ _ _ ht).2.1
  refine ⟨fun k o hk2 hl => ?_, h.fn, h.inj, fun k r i ht => ?_, h.ok, fun k cs e hk2 => ?_, h.glob, h.kp.belowed hb, h.sy⟩
  · obtain ⟨r, i, o', h1, h2, h3⟩ := h.blk k o hk2 hl
    exact ⟨r, i, o', h1, by rw [hk _ _ _ h1]; exact h2, h3⟩
  · have := h.dom _ _ _ ht
    exact ⟨this.1, Nat.lt_of_lt_of_le this.2.1 hb.size, this.2.2⟩
  · obtain ⟨r, i, cs', e', f, h1, h2, h3, h4, h5⟩ := h.old k cs e hk2
    exact ⟨r, i, cs', e', f, h1, by rw [hk _ _ _ h1]; exact h2, h3, h4, h5⟩

/-- A block that a callee has left is one of the small world's from now on. -/
theorem WR.addAt {τ : Rel} {H : Array Obj} {w : World} {g : Nat} {i : Option (Nat × Nat)} {o o' : Obj} (h : WR G B w0 τ H w) (hg : w.heap[g]? = some o') (hB : B g = none) (hno : ∀ k i, ¬ τ k g i) (ho : OR τ i o o') :
    ∃ τ' : Rel, τ.le τ' ∧ τ' H.size g i ∧ WR G B w0 τ' (H.push o) w := by
  have hgl := (Array.getElem?_eq_some_iff.1 hg).1
  refine ⟨⟨fun k u j => τ.r k u j ∨ (k = H.size ∧ u = g ∧ j = i), τ.s⟩, ⟨fun k r j x => .inl x, fun _ _ x => x⟩, .inr ⟨rfl, rfl, rfl⟩, ?_⟩
  have hle : τ.le (⟨fun k u j => τ.r k u j ∨ (k = H.size ∧ u = g ∧ j = i), τ.s⟩ : Rel) := ⟨fun k r j x => .inl x, fun _ _ x => x⟩
  have hal : ∀ k, k < H.size → alive (H.push o) k → alive H k := by
    rintro k hk ⟨u, hu, hl⟩
    rw [Array.getElem?_push, if_neg (by omega)] at hu
    exact ⟨u, hu, hl⟩
  refine ⟨fun k u hk hu => ?_, ?_, ?_, ?_, ?_, ?_, fun q hq => .inl (h.glob q hq), h.kp, h.sy⟩
  · rw [Array.getElem?_push] at hk
    by_cases he : k = H.size
    · rw [if_pos he] at hk
      cases hk
      exact ⟨g, _, _, .inr ⟨he, rfl, rfl⟩, hg, ho.mono hle⟩
    · rw [if_neg he] at hk
      obtain ⟨r2, j, u', h1, h2, h3⟩ := h.blk k u hk hu
      exact ⟨r2, j, u', .inl h1, h2, h3.mono hle⟩
  · rintro k u j u' j' (h1 | ⟨rfl, rfl, rfl⟩) (h2 | ⟨e, rfl, rfl⟩)
    · exact h.fn _ _ _ _ _ h1 h2
    · have := (h.dom _ _ _ h1).1; omega
    · have := (h.dom _ _ _ h2).1; omega
    · exact ⟨rfl, rfl⟩
  · rintro k k' u j j' (h1 | ⟨rfl, rfl, rfl⟩) (h2 | ⟨rfl, e, rfl⟩) l1 l2
    · exact h.inj _ _ _ _ _ h1 h2 (hal _ (h.dom _ _ _ h1).1 l1) (hal _ (h.dom _ _ _ h2).1 l2)
    · subst e; exact absurd h1 (hno _ _)
    · exact absurd h2 (hno _ _)
    · rfl
  · rintro k u j (h1 | ⟨rfl, rfl, rfl⟩)
    · have := h.dom _ _ _ h1
      refine ⟨by simp; omega, this.2.1, fun l => this.2.2 (hal _ this.1 l)⟩
    · exact ⟨by simp, hgl, fun _ => hB⟩
  · intro k u hk
    rw [Array.getElem?_push] at hk
    by_cases he : k = H.size
    · rw [if_pos he] at hk; cases hk; exact .inl (or_live ho)
    · rw [if_neg he] at hk; exact h.ok k u hk
  · intro k cs2 e2 hk
    rw [Array.getElem?_push] at hk
    by_cases he : k = H.size
    · rw [if_pos he] at hk
      have := or_live ho
      rw [Option.some.inj hk, not_live_old] at this; cases this
    · rw [if_neg he] at hk
      obtain ⟨r2, j, cs', e', f, h1, h2, h3, h4, h5⟩ := h.old k cs2 e2 hk
      refine ⟨r2, j, cs', e', f, .inl h1, h2, h3.mono hle, ?_, h5⟩
      rintro k' i' (q | ⟨rfl, q, rfl⟩) ha
      · exact h4 k' i' q (hal _ (h.dom _ _ _ q).1 ha)
      · subst q; exact absurd h1 (hno _ _)

/-- The package variables that are read lie in their places. -/
def Laid (G : Gl) (H : Array Obj) (w : World) : Prop := H.size = G ∧ G ≤ w.heap.size ∧ ∀ (g : Nat) (o : Obj), H[g]? = some o → o = dead ∨ ∃ cs e f, o = oldB cs e ∧ w.heap[g]? = some (.cells cs e f) ∧ cs.toList.all (AFb 10) = true
theorem WR.start {H : Array Obj} {w : World} (h : Laid G H w) : WR G (fun r => w.heap[r]?) w ⟨fun k r i => k = r ∧ k < G.n ∧ i = none, G.s⟩ H w := by
  obtain ⟨h1, h2, h3⟩ := h
  have hnl : ∀ (g : Nat) (o : Obj), H[g]? = some o → live o = false := by
    intro g o ho
    rcases h3 g o ho with rfl | ⟨cs, e, f, rfl, _⟩
    · rfl
    · exact not_live_old cs e
  refine ⟨fun k o hk hl => ?_, ?_, ?_, ?_, fun k o hk => ?_, fun k cs e hk => ?_, fun g hg => ⟨rfl, hg, rfl⟩, Kp.start w, rfl⟩
  · rw [hnl k o hk] at hl; cases hl
  · rintro k r i r' i' ⟨rfl, _, rfl⟩ ⟨rfl, _, rfl⟩; exact ⟨rfl, rfl⟩
  · rintro k k' r i i' ⟨rfl, _, rfl⟩ ⟨rfl, _, rfl⟩ _ _; rfl
  · rintro k r i ⟨rfl, hk, rfl⟩
    refine ⟨by omega, by omega, ?_⟩
    rintro ⟨o, ho, hl⟩
    rw [hnl k o ho] at hl; cases hl
  · rcases h3 k o hk with rfl | ⟨cs, e, f, rfl, _⟩
    · exact .inr (.inl rfl)
    · exact .inr (.inr ⟨cs, e, rfl⟩)
  · have hk' := (Array.getElem?_eq_some_iff.1 hk).1
    rcases h3 k _ hk with hd | ⟨cs', e', f, he, hw, ha⟩
    · simp only [dead, oldB, Obj.cells.injEq, Prod.mk.injEq] at hd
      omega
    · simp only [oldB, Obj.cells.injEq] at he
      obtain ⟨rfl, rfl, _⟩ := he
      refine ⟨k, none, cs, _, f, ⟨rfl, by omega, rfl⟩, hw, (AR.refl_of (fun i v hv => ?_)).lr, ?_, .inl (by omega)⟩
      rotate_left
      · rintro k' i' ⟨rfl, _, rfl⟩ ⟨u, hu, hl⟩
        rw [hnl _ _ hu] at hl; cases hl
      refine AFb.vr 10 v (List.all_eq_true.1 ha v ?_)
      rw [← Array.getElem?_toList] at hv
      exact List.mem_of_getElem? hv

/-- What the kernel reckons of a call without arguments holds in whatever world. -/
theorem run_closed {ev : Ev} (hev : EvOk P G ev) {f : FuncId} {H : Array Obj} {wa wa2 w : World} {b : Bool} (hH : wa.heap = H) (h : ev f #[] wa = some (.bool b, wa2)) (hl : Laid G H w) :
    Calls P f #[] w fun e w' => e = .returned (.bool b) ∧ Below w.heap.size w w' := by
  refine (hev f #[] wa _ _ h _ w _ #[] w (AR.nil _) (hH ▸ WR.start hl)).mono ?_
  rintro e w' ⟨τ', v', rfl, _, hv, hw⟩
  cases hv
  exact ⟨rfl, hw.kp.below⟩
end
end Go.Ev
