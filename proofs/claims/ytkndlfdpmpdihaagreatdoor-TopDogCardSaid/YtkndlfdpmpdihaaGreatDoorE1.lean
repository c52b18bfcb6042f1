/- A run on a small closed world stands for the run on any world that holds the same blocks elsewhere: values, blocks, worlds, and the simple operations. No conditions beyond those that each statement shows. -/
import Derived.Calls
import Derived.Orders
import Derived.LoopN
import Derived.Below
import Derived.Laws.Sem
namespace Go.Ev
open Go.RowKit
set_option linter.unusedVariables false
set_option linter.unusedSimpArgs false

/-- Block k of the small world lies at r; none: as large as there; some (m, z): it has m cells, and its slices' places have z cells. -/
structure Rel where
  r : Nat → Nat → Option (Nat × Nat) → Prop
  /-- What a symbol stands for. -/
  s : Value → Value → Prop
instance : CoeFun Rel (fun _ => Nat → Nat → Option (Nat × Nat) → Prop) := ⟨Rel.r⟩
structure Rel.le (τ τ' : Rel) : Prop where
  r : ∀ k r i, τ k r i → τ' k r i
  s : ∀ e v, τ.s e v → τ'.s e v
instance (τ τ' : Rel) : CoeFun (τ.le τ') (fun _ => ∀ k r i, τ k r i → τ' k r i) := ⟨Rel.le.r⟩
theorem Rel.le.refl (τ : Rel) : τ.le τ := ⟨fun _ _ _ h => h, fun _ _ h => h⟩
theorem Rel.le.trans {a b c : Rel} (h : a.le b) (h2 : b.le c) : a.le c := ⟨fun k r i x => h2.r k r i (h.r k r i x), fun e v x => h2.s e v (h.s e v x)⟩
/-- What a symbol may stand for: a number or a truth. -/
def sb : Value → Bool
  | .int _ _ => true
  | .bool _ => true
  | _ => false

/-- .. or a slice that is only handed on. -/
def sb2 : Value → Bool
  | .int _ _ => true
  | .bool _ => true
  | .slice _ _ _ => true
  | _ => false
theorem sb_sb2 {v : Value} (h : sb v = true) : sb2 v = true := by cases v <;> first | rfl | cases h

def capOk (c c' o : Nat) : Option (Nat × Nat) → Prop
  | none => c = c'
  | some (m, z) => c ≤ c' ∧ o + c' * z ≤ m

inductive VR (τ : Rel) : Value → Value → Prop
  | bool (b : Bool) : VR τ (.bool b) (.bool b)
  | int (k : IntKind) (n : Int) : VR τ (.int k n) (.int k n)
  | float (k : FloatKind) (b : Nat) : VR τ (.float k b) (.float k b)
  | complex (k : FloatKind) (a b : Nat) : VR τ (.complex k a b) (.complex k a b)
  | string (s : ByteArray) : VR τ (.string s) (.string s)
  | ptr0 : VR τ (.pointer none) (.pointer none)
  | ptr (k r o : Nat) (i : Option (Nat × Nat)) : τ k r i → VR τ (.pointer (some ⟨k, o, none⟩)) (.pointer (some ⟨r, o, none⟩))
  | sl0 (l c : Nat) : VR τ (.slice none l c) (.slice none l c)
  | sl (k r o l c c' : Nat) (i : Option (Nat × Nat)) : τ k r i → capOk c c' o i → VR τ (.slice (some ⟨k, o, none⟩) l c) (.slice (some ⟨r, o, none⟩) l c')
  | map0 : VR τ (.map none) (.map none)
  | map (k r : Nat) (i : Option (Nat × Nat)) : τ k r i → VR τ (.map (some k)) (.map (some r))
  | chan0 : VR τ (.chan none) (.chan none)
  | func (fn : Fn) (xs ys us vs : Array Value) : (∀ l, fn ≠ .yield l) → xs.size = us.size → ys.size = vs.size →
      (∀ (i : Nat) (v v' : Value), xs[i]? = some v → us[i]? = some v' → VR τ v v') → (∀ (i : Nat) (v v' : Value), ys[i]? = some v → vs[i]? = some v' → VR τ v v') → VR τ (.func fn xs ys) (.func fn us vs)
  | sym (l : Nat) (xs ys : Array Value) (v' : Value) : τ.s (.func (.yield l) xs ys) v' → sb2 v' = true → VR τ (.func (.yield l) xs ys) v'
  | nilFunc : VR τ .nilFunc .nilFunc
  | iface (t : TypeId) (v v' : Value) : VR τ v v' → VR τ (.iface t v) (.iface t v')
  | nilIface : VR τ .nilIface .nilIface
  | agg (xs ys : Array Value) : xs.size = ys.size → (∀ (i : Nat) (v v' : Value), xs[i]? = some v → ys[i]? = some v' → VR τ v v') → VR τ (.agg xs) (.agg ys)
  | tuple (xs ys : Array Value) : xs.size = ys.size → (∀ (i : Nat) (v v' : Value), xs[i]? = some v → ys[i]? = some v' → VR τ v v') → VR τ (.tuple xs) (.tuple ys)

theorem VR.mono {τ τ' : Rel} (hτ : τ.le τ') {v v' : Value} (h : VR τ v v') : VR τ' v v' := by
  induction h with
  | bool b => exact .bool b
  | int k n => exact .int k n
  | float k b => exact .float k b
  | complex k a b => exact .complex k a b
  | string s => exact .string s
  | ptr0 => exact .ptr0
  | ptr k r o i h => exact .ptr k r o i (hτ _ _ _ h)
  | sl0 l c => exact .sl0 l c
  | sl k r o l c c' i h hc => exact .sl k r o l c c' i (hτ _ _ _ h) hc
  | map0 => exact .map0
  | map k r i h => exact .map k r i (hτ _ _ _ h)
  | chan0 => exact .chan0
  | func fn xs ys us vs hf h1 h2 _ _ i1 i2 => exact .func fn xs ys us vs hf h1 h2 i1 i2
  | sym l xs ys v' h hb => exact .sym l xs ys v' (hτ.s _ _ h) hb
  | nilFunc => exact .nilFunc
  | iface t v v' _ ih => exact .iface t v v' ih
  | nilIface => exact .nilIface
  | agg xs ys h _ ih => exact .agg xs ys h ih
  | tuple xs ys h _ ih => exact .tuple xs ys h ih

/-- Rows of values. -/
def AR (τ : Rel) (xs ys : Array Value) : Prop := xs.size = ys.size ∧ ∀ (i : Nat) (v v' : Value), xs[i]? = some v → ys[i]? = some v' → VR τ v v'
theorem AR.mono {τ τ' : Rel} (hτ : τ.le τ') {xs ys : Array Value} (h : AR τ xs ys) : AR τ' xs ys := ⟨h.1, fun i v v' a b => (h.2 i v v' a b).mono hτ⟩
theorem AR.nil (τ : Rel) : AR τ #[] #[] := ⟨rfl, fun i v v' h => by simp at h⟩
theorem AR.push {τ : Rel} {xs ys : Array Value} (h : AR τ xs ys) {v v' : Value} (hv : VR τ v v') : AR τ (xs.push v) (ys.push v') := by
  refine ⟨by simp [h.1], fun i a b ha hb => ?_⟩
  rw [Array.getElem?_push] at ha hb
  rw [h.1] at ha
  by_cases hi : i = ys.size
  · rw [if_pos hi] at ha hb
    cases ha; cases hb; exact hv
  · rw [if_neg hi] at ha hb
    exact h.2 i a b ha hb
theorem AR.get {τ : Rel} {xs ys : Array Value} (h : AR τ xs ys) {i : Nat} {v : Value} (hv : xs[i]? = some v) : ∃ v', ys[i]? = some v' ∧ VR τ v v' := by
  have hi := (Array.getElem?_eq_some_iff.1 hv).1
  have hi' : i < ys.size := by rw [← h.1]; exact hi
  exact ⟨ys[i], Array.getElem?_eq_getElem hi', h.2 i v _ hv (Array.getElem?_eq_getElem hi')⟩
theorem AR.none {τ : Rel} {xs ys : Array Value} (h : AR τ xs ys) {i : Nat} (hv : xs[i]? = none) : ys[i]? = none := by
  rw [Array.getElem?_eq_none_iff] at hv ⊢; rw [← h.1]; exact hv
theorem AR.append {τ : Rel} {xs ys us vs : Array Value} (h : AR τ xs ys) (h2 : AR τ us vs) : AR τ (xs ++ us) (ys ++ vs) := by
  refine ⟨by simp [h.1, h2.1], fun i a b ha hb => ?_⟩
  rw [Array.getElem?_append] at ha hb
  rw [h.1] at ha
  by_cases hi : i < ys.size
  · rw [if_pos hi] at ha hb; exact h.2 i a b ha hb
  · rw [if_neg hi] at ha hb; exact h2.2 _ a b ha hb
theorem AR.set {τ : Rel} {xs ys : Array Value} (h : AR τ xs ys) {v v' : Value} (hv : VR τ v v') (j : Nat) : AR τ (xs.setIfInBounds j v) (ys.setIfInBounds j v') := by
  refine ⟨by simp [h.1], fun i a b ha hb => ?_⟩
  by_cases hi : j = i
  · subst hi
    rw [Array.getElem?_setIfInBounds_self] at ha hb
    rw [h.1] at ha
    split at ha <;> simp_all
  · rw [Array.getElem?_setIfInBounds_ne hi] at ha hb
    exact h.2 i a b ha hb
theorem AR.one {τ : Rel} {v v' : Value} (hv : VR τ v v') : AR τ #[v] #[v'] := (AR.nil τ).push hv
theorem VR.agg_ {τ : Rel} {xs ys : Array Value} (h : AR τ xs ys) : VR τ (.agg xs) (.agg ys) := .agg xs ys h.1 h.2
theorem VR.tuple_ {τ : Rel} {xs ys : Array Value} (h : AR τ xs ys) : VR τ (.tuple xs) (.tuple ys) := .tuple xs ys h.1 h.2
theorem VR.cells {τ : Rel} {v v' : Value} (h : VR τ v v') : AR τ v.cells v'.cells := by
  cases h with
  | agg xs ys h hv => exact ⟨h, hv⟩
  | bool b => exact AR.one (.bool b)
  | int k n => exact AR.one (.int k n)
  | float k b => exact AR.one (.float k b)
  | complex k a b => exact AR.one (.complex k a b)
  | string s => exact AR.one (.string s)
  | ptr0 => exact AR.one .ptr0
  | ptr k r o i h => exact AR.one (.ptr k r o i h)
  | sl0 l c => exact AR.one (.sl0 l c)
  | sl k r o l c c' i h hc => exact AR.one (.sl k r o l c c' i h hc)
  | map0 => exact AR.one .map0
  | map k r i h => exact AR.one (.map k r i h)
  | chan0 => exact AR.one .chan0
  | func fn xs ys us vs hf h1 h2 i1 i2 => exact AR.one (.func fn xs ys us vs hf h1 h2 i1 i2)
  | sym l xs ys v' h hb => cases v' <;> first | (cases hb; done) | exact AR.one (.sym l xs ys _ h hb)
  | nilFunc => exact AR.one .nilFunc
  | iface t v v' ih => exact AR.one (.iface t v v' ih)
  | nilIface => exact AR.one .nilIface
  | tuple xs ys h ih => exact AR.one (.tuple xs ys h ih)

/-- Entries of maps. -/
def ER (τ : Rel) (es fs : Array MapEntry) : Prop := es.size = fs.size ∧ ∀ (i : Nat) (e f : MapEntry), es[i]? = some e → fs[i]? = some f → VR τ e.key f.key ∧ VR τ e.val f.val ∧ e.born = f.born

/-- Blocks. -/
inductive OR (τ : Rel) : Option (Nat × Nat) → Obj → Obj → Prop
  | cells (cs cs' : Array Value) (e : TypeId) : AR τ cs cs' → OR τ none (.cells cs e (0, 0)) (.cells cs' e (0, 0))
  | more (cs cs' : Array Value) (e : TypeId) (m z : Nat) : cs.size ≤ m → cs'.size = m → (∀ (i : Nat) (v v' : Value), cs[i]? = some v → cs'[i]? = some v' → VR τ v v') → OR τ (some (m, z)) (.cells cs e (z + 2, 1)) (.cells cs' e (0, 0))
  | map (es fs : Array MapEntry) (c : Nat) : ER τ es fs → OR τ none (.map es c) (.map fs c)
  | str (s : ByteArray) (p : Nat) : OR τ none (.stringIter s p) (.stringIter s p)

theorem ER.mono {τ τ' : Rel} (hτ : τ.le τ') {es fs : Array MapEntry} (h : ER τ es fs) : ER τ' es fs :=
  ⟨h.1, fun i e f a b => ⟨(h.2 i e f a b).1.mono hτ, (h.2 i e f a b).2.1.mono hτ, (h.2 i e f a b).2.2⟩⟩
theorem OR.mono {τ τ' : Rel} (hτ : τ.le τ') {i : Option (Nat × Nat)} {o o' : Obj} (h : OR τ i o o') : OR τ' i o o' := by
  cases h with
  | cells cs cs' e h => exact .cells _ _ _ (h.mono hτ)
  | more cs cs' e m z h1 h2 h => exact .more _ _ _ _ _ h1 h2 (fun i v v' a b => (h i v v' a b).mono hτ)
  | map es fs c h => exact .map _ _ _ (h.mono hτ)
  | str s p => exact .str s p

/-- Is a block of the small world in use? -/
def live : Obj → Bool
  | .cells _ _ f => f == (0, 0) || (2 ≤ f.1 && f.2 == 1)
  | .map _ _ => true
  | .stringIter _ _ => true
  | _ => false

/-- A block that is given up. -/
abbrev dead : Obj := .cells #[] 0 (1, 1)

def alive (H : Array Obj) (k : Nat) : Prop := ∃ o, H[k]? = some o ∧ live o = true

/-- The first ones agree. -/
def LR (τ : Rel) (xs ys : Array Value) : Prop := ∀ (i : Nat) (v : Value), xs[i]? = some v → ∃ v', ys[i]? = some v' ∧ VR τ v v'
theorem LR.mono {τ τ' : Rel} (hτ : τ.le τ') {xs ys : Array Value} (h : LR τ xs ys) : LR τ' xs ys := fun i v hv => let ⟨v', e, r⟩ := h i v hv; ⟨v', e, r.mono hτ⟩
theorem AR.lr {τ : Rel} {xs ys : Array Value} (h : AR τ xs ys) : LR τ xs ys := fun i v hv => h.get hv
/-- A block that is there already, and is only read. -/
abbrev oldB (cs : Array Value) (e : TypeId) : Obj := .cells cs e (0, cs.size + 1)

/-- Blocks of the great world that nothing of this touches, and what lies there. -/
abbrev FM := Nat → Option Obj
/-- They lie as they lay. -/
structure Kp (B : FM) (w0 w : World) : Prop where
  os : w.os = w0.os
  tape : w.tape = w0.tape
  output : w.output = w0.output
  size : w0.heap.size ≤ w.heap.size
  block : ∀ (j : Nat) (o : Obj), B j = some o → w.heap[j]? = some o
theorem Kp.lt {B : FM} {w0 w : World} (h : Kp B w0 w) {j : Nat} (hj : B j ≠ none) : j < w.heap.size := by
  cases e : B j with
  | none => exact absurd e hj
  | some o => exact (Array.getElem?_eq_some_iff.1 (h.block j o e)).1
theorem Kp.new {B : FM} {w0 w : World} (h : Kp B w0 w) : B w.heap.size = none := by
  cases e : B w.heap.size with
  | none => rfl
  | some o => have := (Array.getElem?_eq_some_iff.1 (h.block _ o e)).1; omega
theorem Kp.alloc {B : FM} {w0 w : World} (h : Kp B w0 w) (o : Obj) : Kp B w0 { w with heap := w.heap.push o } := by
  refine ⟨h.os, h.tape, h.output, by simpa using Nat.le_succ_of_le h.size, fun j u hj => ?_⟩
  have := h.lt (j := j) (by rw [hj]; simp)
  show (w.heap.push o)[j]? = _
  rw [Array.getElem?_push, if_neg (by omega)]; exact h.block j u hj
theorem Kp.put {B : FM} {w0 w : World} (h : Kp B w0 w) {r : Nat} (hr : B r = none) (o : Obj) : Kp B w0 { w with heap := w.heap.setIfInBounds r o } := by
  refine ⟨h.os, h.tape, h.output, by simpa using h.size, fun j u hj => ?_⟩
  have hne : r ≠ j := fun e => by rw [e, hj] at hr; cases hr
  show (w.heap.setIfInBounds r o)[j]? = _
  rw [Array.getElem?_setIfInBounds_ne hne]; exact h.block j u hj
theorem Kp.setCell {B : FM} {w0 w : World} (h : Kp B w0 w) {a : Addr} (hr : B a.block = none) (v : Value) : Kp B w0 (w.setCell a v) := by
  refine ⟨h.os, h.tape, h.output, by simpa [World.setCell] using h.size, fun j u hj => ?_⟩
  have hne : j ≠ a.block := fun e => by rw [← e, hj] at hr; cases hr
  rw [Below.heap_setCell _ _ _ _ hne]; exact h.block j u hj
theorem Kp.drewn {B : FM} {w0 w : World} (h : Kp B w0 w) (n : Nat) : Kp B w0 { w with drawn := n } := ⟨h.os, h.tape, h.output, h.size, h.block⟩
theorem Kp.belowed {B : FM} {w0 w w' : World} (h : Kp B w0 w) (hb : Below w.heap.size w w') : Kp B w0 w' :=
  ⟨hb.os.trans h.os, hb.tape.trans h.tape, hb.output.trans h.output, Nat.le_trans h.size hb.size, fun j o hj => by rw [hb.block j (h.lt (by rw [hj]; simp))]; exact h.block j o hj⟩
/-- What lay when it began lies as it lay. -/
theorem Kp.below {w0 w : World} (h : Kp (fun r => w0.heap[r]?) w0 w) : Below w0.heap.size w0 w := by
  refine ⟨h.os, h.tape, h.output, h.size, fun j hj => ?_⟩
  rw [h.block j _ (Array.getElem?_eq_getElem hj)]
  exact (Array.getElem?_eq_getElem hj).symm
theorem Kp.start (w : World) : Kp (fun r => w.heap[r]?) w w := ⟨rfl, rfl, rfl, Nat.le_refl _, fun _ _ h => h⟩

/-- Symbols: what stands for a number, or a truth, that isn't told. A symbol is a value .func (.yield l) xs ys: l is its kind (0: a given one; 1: an operation with two operands; 2: a conversion; 3: not; 4: and; 5: are two truths equal?; 6: bits.Add), xs its operands,
    ys its number and a value of its type. -/
def sameTy : Value → Value → Bool
  | .int k _, .int k' _ => decide (k = k')
  | .bool _, .bool _ => true
  | _, _ => false
def symTy : Value → Option Value
  | .func (.yield _) _ ⟨[_, t]⟩ => some t
  | _ => none
def binC : BinOp → Nat
  | .add => 0 | .sub => 1 | .mul => 2 | .quo => 3 | .rem => 4 | .and => 5 | .or => 6 | .xor => 7 | .shl => 8 | .shr => 9 | .andNot => 10
  | .eql => 11 | .neq => 12 | .lss => 13 | .leq => 14 | .gtr => 15 | .geq => 16
def binD : Nat → BinOp
  | 0 => .add | 1 => .sub | 2 => .mul | 3 => .quo | 4 => .rem | 5 => .and | 6 => .or | 7 => .xor | 8 => .shl | 9 => .shr | 10 => .andNot
  | 11 => .eql | 12 => .neq | 13 => .lss | 14 => .leq | 15 => .gtr | _ => .geq
theorem binD_C (b : BinOp) : binD (binC b) = b := by cases b <;> rfl
/-- What an operation on two numbers gives. -/
def binI (b : BinOp) (k : IntKind) (x y : Int) : Option Value := match b with
  | .add => some (.int k (k.wrap (x + y)))
  | .sub => some (.int k (k.wrap (x - y)))
  | .mul => some (.int k (k.wrap (x * y)))
  | .quo => if y = 0 then none else some (.int k (k.wrap (x.tdiv y)))
  | .rem => if y = 0 then none else some (.int k (x.tmod y))
  | .and => some (.int k (k.wrap (BitVec.ofInt k.bits x &&& BitVec.ofInt k.bits y).toNat))
  | .or => some (.int k (k.wrap (BitVec.ofInt k.bits x ||| BitVec.ofInt k.bits y).toNat))
  | .xor => some (.int k (k.wrap (BitVec.ofInt k.bits x ^^^ BitVec.ofInt k.bits y).toNat))
  | .andNot => some (.int k (k.wrap (BitVec.ofInt k.bits x &&& ~~~ BitVec.ofInt k.bits y).toNat))
  | .eql => some (.bool (x == y))
  | .neq => some (.bool (x != y))
  | .lss => some (.bool (decide (x < y)))
  | .leq => some (.bool (decide (x ≤ y)))
  | .gtr => some (.bool (decide (x > y)))
  | .geq => some (.bool (decide (x ≥ y)))
  | .shl => if y < 0 then none else some (.int k (k.wrap (x * 2 ^ min y.toNat k.bits)))
  | .shr => if y < 0 then none else some (.int k (x.fdiv (2 ^ min y.toNat k.bits)))
def shiftB : BinOp → Bool
  | .shl => true
  | .shr => true
  | _ => false
def binV (b : BinOp) : Value → Value → Option Value
  | .int k x, .int k' y => if k = k' ∨ shiftB b = true then binI b k x y else none
  | _, _ => none
/-- The sum of two words; all ones where it is too great. -/
def addN (a b : Int) : Int := if (a.toNat + b.toNat) / 18446744073709551616 = 0 then (((a.toNat + b.toNat) % 18446744073709551616 : Nat) : Int) else 18446744073709551615
/-- What a symbol's kind makes of what its operands stand for. -/
def symApp : Nat → List Value → Value → Value → Option Value
  | 1, [x, y], .int .u64 (.ofNat b), _ => binV (binD b) x y
  | 2, [.int _ n], _, .int k _ => some (.int k (k.wrap n))
  | 3, [.bool b], _, _ => some (.bool (!b))
  | 4, [.bool a, .bool b], _, _ => some (.bool (a && b))
  | 5, [.bool a, .bool b], _, _ => some (.bool (a == b))
  | 6, [.int .u64 a, .int .u64 b], _, _ => some (.int .u64 (addN a b))
  | _, _, _, _ => none
/-- A number or a truth itself, or a symbol. -/
def symArg (s : Value → Value → Prop) (x v : Value) : Prop := (x = v ∧ sb v = true) ∨ s x v
inductive symArgs (s : Value → Value → Prop) : List Value → List Value → Prop
  | nil : symArgs s [] []
  | cons (x v : Value) (xs vs : List Value) : symArg s x v → symArgs s xs vs → symArgs s (x :: xs) (v :: vs)
/-- How many package variables there are; what symbols stand for; which truths are taken for known. -/
structure Gl where
  n : Nat
  s : Value → Value → Prop
  dl : List (Value × Bool)
  ty : ∀ e v t, s e v → symTy e = some t → sameTy t v = true
  cl : ∀ l xs vs c t v, symArgs s xs vs → symApp (l + 1) vs c t = some v → sameTy t v = true → s (.func (.yield (l + 1)) ⟨xs⟩ ⟨[c, t]⟩) v
  dec : ∀ e b v, (e, b) ∈ dl → s e v → v = .bool b
  fn : ∀ e v v', s e v → s e v' → v = v'
instance : CoeOut Gl Nat := ⟨Gl.n⟩

structure WR (G : Gl) (B : FM) (w0 : World) (τ : Rel) (H : Array Obj) (w : World) : Prop where
  blk : ∀ (k : Nat) (o : Obj), H[k]? = some o → live o = true → ∃ r i o', τ k r i ∧ w.heap[r]? = some o' ∧ OR τ i o o'
  fn : ∀ k r i r' i', τ k r i → τ k r' i' → r = r' ∧ i = i'
  inj : ∀ k k' r i i', τ k r i → τ k' r i' → alive H k → alive H k' → k = k'
  dom : ∀ k r i, τ k r i → k < H.size ∧ r < w.heap.size ∧ (alive H k → B r = none)
  ok : ∀ (k : Nat) (o : Obj), H[k]? = some o → live o = true ∨ o = dead ∨ ∃ cs e, o = oldB cs e
  old : ∀ (k : Nat) (cs : Array Value) (e : TypeId), H[k]? = some (oldB cs e) → ∃ r i cs' e' f, τ k r i ∧ w.heap[r]? = some (.cells cs' e' f) ∧ LR τ cs cs' ∧ (∀ k' i', τ k' r i' → ¬ alive H k') ∧ (r < w0.heap.size ∨ B r = none)
  glob : ∀ g : Nat, g < G.n → τ g g none
  kp : Kp B w0 w
  sy : τ.s = G.s

theorem not_live_old (cs : Array Value) (e : TypeId) : live (oldB cs e) = false := by simp [live]
end Go.Ev
namespace Go.Ev
open Go.RowKit
set_option linter.unusedVariables false
set_option linter.unusedSimpArgs false

/-- It never comes to an answer. -/
def Never (P : Program) {α : Type} (s : Sem α) : Prop := ∀ w a w', s.run P w ≠ .ok a w'
theorem Never.bind {P : Program} {α β : Type} {s : Sem α} (h : Never P s) (f : α → Sem β) : Never P (s.bind f) := by
  intro w a w' he
  rw [Sem.run_bind' P s f w] at he
  cases hs : s.run P w with
  | ok x w1 => exact h w x w1 hs
  | halt x w1 => rw [hs] at he; cases he
theorem Never.then {P : Program} {α β : Type} (s : Sem α) {f : α → Sem β} (h : ∀ x, Never P (f x)) : Never P (s >>= f) := by
  intro w a w' he
  rw [Sem.run_bind P w s f] at he
  cases hs : s.run P w with
  | ok x w1 => rw [hs] at he; exact h x w1 a w' he
  | halt x w1 => rw [hs] at he; cases he
theorem never_halt {P : Program} {α : Type} (h : Halt) : Never P (.halt h : Sem α) := fun w a w' he => by simp [Sem.run] at he
theorem never_runtime {P : Program} {α : Type} (e : RuntimeError) : Never P (runtimePanic e : Sem α) := by
  unfold runtimePanic
  refine Never.then _ (fun p => ?_)
  cases e with
  | bounds x y s c => exact never_halt _
  | error m => exact never_halt _
  | plain m => exact never_halt _
  | nilDeref => exact never_halt _
  | typeAssertion i c a m => exact Never.then _ (fun x => Never.then _ (fun y => never_halt _))
  | panicNil => exact Never.then _ (fun x => Never.then _ (fun y => never_halt _))
  | unhashable t => exact never_halt _
theorem never_bounds {P : Program} {α : Type} (k : IntKind) (x y : Int) (c : BoundsCode) : Never P (boundsPanic k x y c : Sem α) := by
  unfold boundsPanic
  split
  · exact Never.then _ (fun s => never_runtime _)
  · exact Never.then _ (fun s => never_runtime _)

inductive Sim (P : Program) {α β : Type} (R : Rel → α → β → Prop) : Rel → Sem α → Sem β → Prop
  | pure (τ : Rel) (a : α) (b : β) : R τ a b → Sim P R τ (.pure a) (.pure b)
  | load (τ : Rel) (m : Mode) (k r o : Nat) (i : Option (Nat × Nat)) (f : Value → Sem α) (g : Value → Sem β) : τ k r i → (∀ v v', VR τ v v' → Sim P R τ (f v) (g v')) → Sim P R τ (.load m ⟨k, o, none⟩ f) (.load m ⟨r, o, none⟩ g)
  | store (τ : Rel) (m : Mode) (k r o : Nat) (i : Option (Nat × Nat)) (v v' : Value) (f : Sem α) (g : Sem β) : τ k r i → VR τ v v' → Sim P R τ f g → Sim P R τ (.store m ⟨k, o, none⟩ v f) (.store m ⟨r, o, none⟩ v' g)
  | new (τ : Rel) (o o' : Obj) (f : Nat → Sem α) (g : Nat → Sem β) : OR τ none o o' → (∀ τ' k r, τ.le τ' → τ' k r none → Sim P R τ' (f k) (g r)) → Sim P R τ (.new o f) (.new o' g)
  | getObj (τ : Rel) (k r : Nat) (i : Option (Nat × Nat)) (f : Obj → Sem α) (g : Obj → Sem β) : τ k r i → (∀ o o', OR τ i o o' → Sim P R τ (f o) (g o')) → Sim P R τ (.getObj k f) (.getObj r g)
  | setObj (τ : Rel) (k r : Nat) (o o' : Obj) (f : Sem α) (g : Sem β) : τ k r none → OR τ none o o' → Sim P R τ f g → Sim P R τ (.setObj k o f) (.setObj r o' g)
  | choose (τ : Rel) (q : Question) (f : Nat → Sem α) (g : Nat → Sem β) : q.forced = true → Sim P R τ (f 0) (g 0) → Sim P R τ (.choose q f) (.choose q g)
  | program (τ : Rel) (f : Program → Sem α) (g : Program → Sem β) : Sim P R τ (f P) (g P) → Sim P R τ (.program f) (.program g)
  | mark (τ : Rel) (m m' : Mark) (f : Sem α) (g : Sem β) : Sim P R τ f g → Sim P R τ (.mark m f) (.mark m' g)
  | halt (τ : Rel) (h : Halt) (s : Sem β) : Sim P R τ (.halt h) s
  | never (τ : Rel) (s : Sem α) (s' : Sem β) : Never P s → Sim P R τ s s'

theorem Sim.mono {P : Program} {α β : Type} {R R2 : Rel → α → β → Prop} {τ0 τ : Rel} {s : Sem α} {s' : Sem β} (h : Sim P R τ s s') (h0 : τ0.le τ) (hR : ∀ τ' a b, τ0.le τ' → R τ' a b → R2 τ' a b) : Sim P R2 τ s s' := by
  induction h with
  | pure τ a b h => exact .pure τ a b (hR _ _ _ h0 h)
  | load τ m k r o i f g ht _ ih => exact .load τ m k r o i f g ht (fun v v' hv => ih v v' hv h0)
  | store τ m k r o i v v' f g ht hv _ ih => exact .store τ m k r o i v v' f g ht hv (ih h0)
  | new τ o o' f g ho _ ih => exact .new τ o o' f g ho (fun τ' k r hl hk => ih τ' k r hl hk (h0.trans hl))
  | getObj τ k r i f g ht _ ih => exact .getObj τ k r i f g ht (fun o o' ho => ih o o' ho h0)
  | setObj τ k r o o' f g ht ho _ ih => exact .setObj τ k r o o' f g ht ho (ih h0)
  | choose τ q f g hq _ ih => exact .choose τ q f g hq (ih h0)
  | program τ f g _ ih => exact .program τ f g (ih h0)
  | mark τ m m' f g _ ih => exact .mark τ m m' f g (ih h0)
  | halt τ h s => exact .halt τ h s
  | never τ s s' hn => exact .never τ s s' hn

theorem Sim.bind {P : Program} {α β γ δ : Type} {R : Rel → α → β → Prop} {R2 : Rel → γ → δ → Prop} {τ0 τ : Rel} {s : Sem α} {s' : Sem β} {f : α → Sem γ} {g : β → Sem δ}
    (h : Sim P R τ s s') (h0 : τ0.le τ) (hf : ∀ τ' a b, τ0.le τ' → R τ' a b → Sim P R2 τ' (f a) (g b)) : Sim P R2 τ (s.bind f) (s'.bind g) := by
  induction h with
  | pure τ a b h => exact hf _ _ _ h0 h
  | load τ m k r o i f g ht _ ih => exact .load τ m k r o i _ _ ht (fun v v' hv => ih v v' hv h0)
  | store τ m k r o i v v' f g ht hv _ ih => exact .store τ m k r o i v v' _ _ ht hv (ih h0)
  | new τ o o' f g ho _ ih => exact .new τ o o' _ _ ho (fun τ' k r hl hk => ih τ' k r hl hk (h0.trans hl))
  | getObj τ k r i f g ht _ ih => exact .getObj τ k r i _ _ ht (fun o o' ho => ih o o' ho h0)
  | setObj τ k r o o' f g ht ho _ ih => exact .setObj τ k r o o' _ _ ht ho (ih h0)
  | choose τ q f g hq _ ih => exact .choose τ q _ _ hq (ih h0)
  | program τ f g _ ih => exact .program τ _ _ (ih h0)
  | mark τ m m' f g _ ih => exact .mark τ m m' _ _ (ih h0)
  | halt τ h s => exact .halt τ h _
  | never τ s s' hn => exact .never τ _ _ (hn.bind _)

theorem Sim.andThen {P : Program} {α β γ δ : Type} {R : Rel → α → β → Prop} {R2 : Rel → γ → δ → Prop} {τ : Rel} {s : Sem α} {s' : Sem β} {f : α → Sem γ} {g : β → Sem δ}
    (h : Sim P R τ s s') (hf : ∀ τ' a b, τ.le τ' → R τ' a b → Sim P R2 τ' (f a) (g b)) : Sim P R2 τ (s >>= f) (s' >>= g) := Sim.bind h (Rel.le.refl τ) hf

section sound
variable {P : Program} {G : Gl} {B : FM} {w0 : World}

theorem or_live {τ : Rel} {i : Option (Nat × Nat)} {o o' : Obj} (h : OR τ i o o') : live o = true := by
  cases h <;> simp [live]

/-- A block more. -/
theorem WR.new {τ : Rel} {H : Array Obj} {wr : World} {o o' : Obj} {q : Option (Nat × Nat)} (h : WR G B w0 τ H wr) (ho : OR τ q o o') :
    ∃ τ' : Rel, τ.le τ' ∧ τ' H.size wr.heap.size q ∧ WR G B w0 τ' (H.push o) { wr with heap := wr.heap.push o' } := by
  refine ⟨⟨fun k r i => τ.r k r i ∨ (k = H.size ∧ r = wr.heap.size ∧ i = q), τ.s⟩, ⟨fun k r i x => .inl x, fun _ _ x => x⟩, .inr ⟨rfl, rfl, rfl⟩, ?_⟩
  have hle : τ.le (⟨fun k r i => τ.r k r i ∨ (k = H.size ∧ r = wr.heap.size ∧ i = q), τ.s⟩ : Rel) := ⟨fun k r i x => .inl x, fun _ _ x => x⟩
  have hal : ∀ k, k < H.size → alive (H.push o) k → alive H k := by
    rintro k hk ⟨u, hu, hl⟩
    rw [Array.getElem?_push, if_neg (by omega)] at hu
    exact ⟨u, hu, hl⟩
  refine ⟨fun k u hk hu => ?_, ?_, ?_, ?_, ?_, ?_, fun g hg => .inl (h.glob g hg), h.kp.alloc o', h.sy⟩
  · rw [Array.getElem?_push] at hk
    by_cases he : k = H.size
    · rw [if_pos he] at hk
      cases hk
      exact ⟨wr.heap.size, q, o', .inr ⟨he, rfl, rfl⟩, by simp, ho.mono hle⟩
    · rw [if_neg he] at hk
      obtain ⟨r, i, u', h1, h2, h3⟩ := h.blk k u hk hu
      refine ⟨r, i, u', .inl h1, ?_, h3.mono hle⟩
      have := (h.dom _ _ _ h1).2.1
      show (wr.heap.push o')[r]? = _
      rw [Array.getElem?_push, if_neg (by omega)]; exact h2
  · rintro k r i r' i' (h1 | ⟨rfl, rfl, rfl⟩) (h2 | ⟨e, rfl, rfl⟩)
    · exact h.fn _ _ _ _ _ h1 h2
    · have := (h.dom _ _ _ h1).1; omega
    · have := (h.dom _ _ _ h2).1; omega
    · exact ⟨rfl, rfl⟩
  · rintro k k' r i i' (h1 | ⟨rfl, rfl, rfl⟩) (h2 | ⟨rfl, e, rfl⟩) l1 l2
    · exact h.inj _ _ _ _ _ h1 h2 (hal _ (h.dom _ _ _ h1).1 l1) (hal _ (h.dom _ _ _ h2).1 l2)
    · have := (h.dom _ _ _ h1).2.1; omega
    · have := (h.dom _ _ _ h2).2.1; omega
    · rfl
  · rintro k r i (h1 | ⟨rfl, rfl, rfl⟩)
    · have := h.dom _ _ _ h1
      refine ⟨by simp; omega, by simp; omega, fun l => this.2.2 (hal _ this.1 l)⟩
    · refine ⟨by simp, by simp, fun _ => h.kp.new⟩
  · intro k u hk
    rw [Array.getElem?_push] at hk
    by_cases he : k = H.size
    · rw [if_pos he] at hk; cases hk; exact .inl (or_live ho)
    · rw [if_neg he] at hk; exact h.ok k u hk
  · intro k cs e hk
    rw [Array.getElem?_push] at hk
    by_cases he : k = H.size
    · rw [if_pos he] at hk
      cases hk
      have := or_live ho
      rw [not_live_old] at this; cases this
    · rw [if_neg he] at hk
      obtain ⟨r, i, cs', e', f, h1, h2, h3, h4, h5⟩ := h.old k cs e hk
      have := (h.dom _ _ _ h1).2.1
      refine ⟨r, i, cs', e', f, .inl h1, ?_, h3.mono hle, ?_, h5⟩
      rotate_left
      · rintro k' i' (q | ⟨rfl, q, rfl⟩) ha
        · exact h4 k' i' q (hal _ (h.dom _ _ _ q).1 ha)
        · omega
      show (wr.heap.push o')[r]? = _
      rw [Array.getElem?_push, if_neg (by omega)]; exact h2

/-- A block is another one. -/
theorem WR.put {τ : Rel} {H : Array Obj} {w w' : World} {k r : Nat} {i : Option (Nat × Nat)} {o o' : Obj} (h : WR G B w0 τ H w) (ht : τ k r i) (hk : alive H k) (ho : OR τ i o o')
    (hw : w'.heap = w.heap.setIfInBounds r o') (hb : Kp B w0 w') : WR G B w0 τ (H.setIfInBounds k o) w' := by
  obtain ⟨d1, d2, d3⟩ := h.dom _ _ _ ht
  have hr := d3 hk
  have hal : ∀ j, alive (H.setIfInBounds k o) j → alive H j := by
    rintro j ⟨u, hu, hl⟩
    by_cases e : k = j
    · subst e; exact hk
    · rw [Array.getElem?_setIfInBounds_ne e] at hu; exact ⟨u, hu, hl⟩
  refine ⟨fun j u hj hu => ?_, h.fn, fun a b c d e h1 h2 l1 l2 => h.inj a b c d e h1 h2 (hal _ l1) (hal _ l2), fun a b c x => ?_, ?_, ?_, h.glob, hb, h.sy⟩
  · by_cases e : k = j
    · subst e
      rw [Array.getElem?_setIfInBounds_self] at hj
      rw [if_pos d1] at hj
      cases hj
      refine ⟨r, i, o', ht, ?_, ho⟩
      rw [hw, Array.getElem?_setIfInBounds_self, if_pos d2]
    · rw [Array.getElem?_setIfInBounds_ne e] at hj
      obtain ⟨r2, i2, u', h1, h2, h3⟩ := h.blk j u hj hu
      refine ⟨r2, i2, u', h1, ?_, h3⟩
      have : r ≠ r2 := fun er => e (h.inj k j r i i2 ht (er ▸ h1) hk ⟨u, hj, hu⟩)
      rw [hw, Array.getElem?_setIfInBounds_ne this]; exact h2
  · have := h.dom _ _ _ x
    rw [hw]
    refine ⟨by simp; omega, by simp; omega, fun l => this.2.2 (hal _ l)⟩
  · intro j u hj
    by_cases e : k = j
    · subst e
      rw [Array.getElem?_setIfInBounds_self, if_pos d1] at hj
      cases hj; exact .inl (or_live ho)
    · rw [Array.getElem?_setIfInBounds_ne e] at hj; exact h.ok j u hj
  · intro j cs t hj
    by_cases e : k = j
    · subst e
      rw [Array.getElem?_setIfInBounds_self, if_pos d1] at hj
      cases hj
      have := or_live ho
      rw [not_live_old] at this; cases this
    · rw [Array.getElem?_setIfInBounds_ne e] at hj
      obtain ⟨r2, i2, cs', e', f, h1, h2, h3, h4, h5⟩ := h.old j cs t hj
      refine ⟨r2, i2, cs', e', f, h1, ?_, h3, fun k' i' q l => h4 k' i' q (hal _ l), h5⟩
      rw [hw, Array.getElem?_setIfInBounds_ne (fun e => h4 k i (by rw [← e]; exact ht) hk)]; exact h2

theorem setCell_heap (w : World) (r o : Nat) (v : Value) {c : Array Value} {e : TypeId} {f : Nat × Nat} (h : w.heap[r]? = some (.cells c e f)) :
    (w.setCell ⟨r, o, none⟩ v).heap = w.heap.setIfInBounds r (.cells (c.setIfInBounds o v) e f) := by
  unfold World.setCell
  apply Array.ext_getElem?
  intro j
  by_cases hj : r = j
  · subst hj
    simp [Array.getElem?_modify, h]
    obtain ⟨hl, _⟩ := Array.getElem?_eq_some_iff.1 h
    rw [Array.getElem?_setIfInBounds_self, if_pos hl]
  · simp [Array.getElem?_modify, hj]

/-- What is read at a place. -/
theorem WR.cell {τ : Rel} {wa wr : World} (h : WR G B w0 τ wa.heap wr) {k r o : Nat} {i : Option (Nat × Nat)} (ht : τ k r i) {v : Value} (hv : wa.cell? ⟨k, o, none⟩ = some v) :
    ∃ v', VR τ v v' ∧ wr.cell? ⟨r, o, none⟩ = some v' := by
  unfold World.cell? at hv
  split at hv
  · rename_i c e f hh
    simp at hv
    rcases h.ok k _ hh with hl | hd | ⟨cs, t, ho⟩
    · obtain ⟨r2, i2, o', h1, h2, h3⟩ := h.blk k _ hh hl
      obtain ⟨rfl, rfl⟩ := h.fn _ _ _ _ _ ht h1
      cases h3 with
      | cells _ c' _ ha =>
        obtain ⟨v', e1, e2⟩ := ha.get hv
        exact ⟨v', e2, by simp [World.cell?, h2, e1]⟩
      | more _ c' _ m z a1 a2 a3 =>
        have hi := (Array.getElem?_eq_some_iff.1 hv).1
        have hi' : o < c'.size := by omega
        have e1 := Array.getElem?_eq_getElem hi'
        exact ⟨_, a3 _ _ _ hv e1, by simp [World.cell?, h2, e1]⟩
    · unfold dead at hd
      cases hd
      simp at hv
    · cases ho
      obtain ⟨r2, i2, cs', e', f, h1, h2, h3, h4⟩ := h.old k _ _ hh
      obtain ⟨rfl, rfl⟩ := h.fn _ _ _ _ _ ht h1
      obtain ⟨v', e1, e2⟩ := h3 _ _ hv
      exact ⟨v', e2, by simp [World.cell?, h2, e1]⟩
  · cases hv

/-- What may be written. -/
theorem WR.free {τ : Rel} {wa wr : World} (h : WR G B w0 τ wa.heap wr) {k r o : Nat} {i : Option (Nat × Nat)} (ht : τ k r i) {v : Value} (hv : wa.cell? ⟨k, o, none⟩ = some v) (hf : wa.frozen? ⟨k, o, none⟩ = false) :
    ∃ c c' e f, o < c.size ∧ wa.heap[k]? = some (.cells c e f) ∧ wr.heap[r]? = some (.cells c' e (0, 0)) ∧ OR τ i (.cells c e f) (.cells c' e (0, 0)) := by
  unfold World.cell? at hv
  split at hv
  · rename_i c e f hh
    simp at hv
    have hi := (Array.getElem?_eq_some_iff.1 hv).1
    rcases h.ok k _ hh with hl | hd | ⟨cs, t, ho⟩
    · obtain ⟨r2, i2, o', h1, h2, h3⟩ := h.blk k _ hh hl
      obtain ⟨rfl, rfl⟩ := h.fn _ _ _ _ _ ht h1
      cases h3 with
      | cells _ c' _ ha => exact ⟨c, c', e, _, hi, hh, h2, .cells _ _ _ ha⟩
      | more _ c' _ m z a1 a2 a3 => exact ⟨c, c', e, _, hi, hh, h2, .more _ _ _ _ _ a1 a2 a3⟩
    · unfold dead at hd
      cases hd
      simp at hv
    · cases ho
      simp [World.frozen?, hh] at hf
      omega
  · cases hv

theorem WR.noCell {τ : Rel} {wa wr : World} (h : WR G B w0 τ wa.heap wr) {a : Addr} (hv : wa.cell? a = none) (b : Bool) : ∃ e, wa.farLoad P a b = .error e := by
  unfold World.farLoad
  split
  · rename_i x y hh
    rcases h.ok _ _ hh with hl | hd | ⟨_, _, hd⟩
    · cases hl
    · cases hd
    · cases hd
  · exact ⟨_, rfl⟩
theorem WR.noCell' {τ : Rel} {wa wr : World} (h : WR G B w0 τ wa.heap wr) {a : Addr} (hv : wa.cell? a = none) (v : Value) (b : Bool) : ∃ e, wa.farStore P a v b = .error e := by
  unfold World.farStore
  split
  · rename_i x y hh
    rcases h.ok _ _ hh with hl | hd | ⟨_, _, hd⟩
    · cases hl
    · cases hd
    · cases hd
  · exact ⟨_, rfl⟩

theorem OR.setC {τ : Rel} {i : Option (Nat × Nat)} {c c' : Array Value} {e : TypeId} {f : Nat × Nat} (h : OR τ i (.cells c e f) (.cells c' e (0, 0))) {v v' : Value} (hv : VR τ v v') (o : Nat) (ho : o < c.size) :
    OR τ i (.cells (c.setIfInBounds o v) e f) (.cells (c'.setIfInBounds o v') e (0, 0)) := by
  cases h with
  | cells _ _ _ ha => exact .cells _ _ _ (ha.set hv o)
  | more _ _ _ m z a1 a2 a3 =>
    refine .more _ _ _ _ _ (by simpa using a1) (by simpa using a2) (fun j u u' h1 h2 => ?_)
    by_cases e : o = j
    · subst e
      rw [Array.getElem?_setIfInBounds_self, if_pos ho] at h1
      rw [Array.getElem?_setIfInBounds_self, if_pos (by omega)] at h2
      cases h1; cases h2; exact hv
    · rw [Array.getElem?_setIfInBounds_ne e] at h1 h2
      exact a3 j u u' h1 h2

def Value.plainCell : Value → Bool
  | .agg _ => false
  | .tuple _ => false
  | _ => true
theorem run_store_of {α : Type} {w : World} {a : Addr} {u v : Value} {m : Mode} {k : Sem α} (hv : Value.plainCell v = true) (hc : w.cell? a = some u) (hf : w.frozen? a = false) : (Sem.store m a v k).run P w = k.run P (w.setCell a v) := by
  cases v <;> first | (simp [Value.plainCell] at hv; done) | simp [Sem.run, hc, hf]
theorem run_store_ok {α : Type} {w w' : World} {a : Addr} {v : Value} {m : Mode} {k : Sem α} {x : α} {τ : Rel} {wr : World} (h : WR G B w0 τ w.heap wr) (hr : (Sem.store m a v k).run P w = .ok x w') :
    Value.plainCell v = true ∧ (∃ u, w.cell? a = some u) ∧ w.frozen? a = false ∧ k.run P (w.setCell a v) = .ok x w' := by
  have hp : Value.plainCell v = true := by
    cases v <;> first | rfl | (simp [Sem.run] at hr)
  cases hc : w.cell? a with
  | none =>
    obtain ⟨e, he⟩ := h.noCell' (P := P) hc v (m == .atomic)
    exfalso
    cases v <;> first | (simp [Value.plainCell] at hp; done) | (simp [Sem.run, hc, he] at hr)
  | some u =>
    cases hf : w.frozen? a with
    | true =>
      exfalso
      cases v <;> first | (simp [Value.plainCell] at hp; done) | (simp [Sem.run, hc, hf] at hr)
    | false => exact ⟨hp, ⟨u, rfl⟩, rfl, by rw [run_store_of hp hc hf] at hr; exact hr⟩
theorem VR.plain {τ : Rel} {v v' : Value} (h : VR τ v v') : Value.plainCell v = Value.plainCell v' := by
  cases h with
  | sym l xs ys v' h hb => cases v' <;> first | (cases hb; done) | rfl
  | _ => rfl

theorem Sim.run {α β : Type} {R : Rel → α → β → Prop} {τ : Rel} {s : Sem α} {s' : Sem β} (h : Sim P R τ s s') : ∀ {wa wr wa' : World} {a : α}, WR G B w0 τ wa.heap wr → s.run P wa = .ok a wa' →
    ∃ τ' b wr', τ.le τ' ∧ s'.run P wr = .ok b wr' ∧ R τ' a b ∧ WR G B w0 τ' wa'.heap wr' := by
  induction h with
  | pure τ a b h =>
    intro wa wr wa' a' hw hr
    simp only [Sem.run, Result.ok.injEq] at hr
    obtain ⟨rfl, rfl⟩ := hr
    exact ⟨τ, b, wr, Rel.le.refl τ, rfl, h, hw⟩
  | load τ m k r o i f g ht _ ih =>
    intro wa wr wa' a' hw hr
    cases hc : wa.cell? ⟨k, o, none⟩ with
    | none =>
      obtain ⟨e, he⟩ := hw.noCell (P := P) hc (m == .atomic)
      simp [Sem.run, hc, he] at hr
    | some v =>
      obtain ⟨v', h1, h2⟩ := hw.cell ht hc
      simp only [Sem.run, hc] at hr
      obtain ⟨τ', b, wr', a1, a2, a3⟩ := ih v v' h1 hw hr
      exact ⟨τ', b, wr', a1, by simp only [Sem.run, h2]; exact a2, a3⟩
  | store τ m k r o i v v' f g ht hv _ ih =>
    intro wa wr wa' a' hw hr
    obtain ⟨hp, ⟨u, hc⟩, hf, hk⟩ := run_store_ok hw hr
    obtain ⟨u', h1, h2⟩ := hw.cell ht hc
    obtain ⟨c, c', e, ff, ho, h3, h4, h5⟩ := hw.free ht hc hf
    have hf2 : wr.frozen? ⟨r, o, none⟩ = false := by simp [World.frozen?, h4]
    have hw2 : WR G B w0 τ (wa.setCell ⟨k, o, none⟩ v).heap (wr.setCell ⟨r, o, none⟩ v') := by
      rw [setCell_heap wa k o v h3]
      exact hw.put ht ⟨_, h3, or_live h5⟩ (h5.setC hv o ho) (setCell_heap wr r o v' h4) (hw.kp.setCell (a := ⟨r, o, none⟩) ((hw.dom _ _ _ ht).2.2 ⟨_, h3, or_live h5⟩) v')
    obtain ⟨τ', b, wr', a1, a2, a3⟩ := ih hw2 hk
    exact ⟨τ', b, wr', a1, by rw [run_store_of (by rw [← hv.plain]; exact hp) h2 hf2]; exact a2, a3⟩
  | new τ o o' f g ho _ ih =>
    intro wa wr wa' a' hw hr
    obtain ⟨τ1, l1, t1, w1⟩ := hw.new ho
    simp only [Sem.run] at hr
    obtain ⟨τ', b, wr', a1, a2, a3⟩ := ih τ1 _ _ l1 t1 (wa := { wa with heap := wa.heap.push o }) w1 hr
    exact ⟨τ', b, wr', l1.trans a1, by simp only [Sem.run]; exact a2, a3⟩
  | getObj τ k r i f g ht _ ih =>
    intro wa wr wa' a' hw hr
    simp only [Sem.run] at hr
    split at hr
    · cases hr
    · rename_i o hn hh
      rcases hw.ok _ _ hh with hl | hd | ⟨_, _, hd⟩
      · obtain ⟨r2, i2, o', h1, h2, h3⟩ := hw.blk k _ hh hl
        obtain ⟨rfl, rfl⟩ := hw.fn _ _ _ _ _ ht h1
        obtain ⟨τ', b, wr', a1, a2, a3⟩ := ih _ _ h3 hw hr
        refine ⟨τ', b, wr', a1, ?_, a3⟩
        simp only [Sem.run, h2]
        cases h3 with
        | cells => exact absurd rfl (hn _ _ _)
        | more => exact absurd rfl (hn _ _ _)
        | map => exact a2
        | str => exact a2
      · exact absurd hd (hn _ _ _)
      · exact absurd hd (hn _ _ _)
    · cases hr
  | setObj τ k r o o' f g ht ho _ ih =>
    intro wa wr wa' a' hw hr
    simp only [Sem.run] at hr
    split at hr
    · cases hr
    · rename_i u hn hh
      rcases hw.ok _ _ hh with hl | hd | ⟨_, _, hd⟩
      · obtain ⟨r2, i2, u', h1, h2, h3⟩ := hw.blk k _ hh hl
        obtain ⟨rfl, rfl⟩ := hw.fn _ _ _ _ _ ht h1
        have hw2 : WR G B w0 τ (wa.heap.setIfInBounds k o) { wr with heap := wr.heap.setIfInBounds r o' } := by
          exact hw.put ht ⟨_, hh, hl⟩ ho rfl (hw.kp.put ((hw.dom _ _ _ ht).2.2 ⟨_, hh, hl⟩) o')
        obtain ⟨τ', b, wr', a1, a2, a3⟩ := ih (wa := { wa with heap := wa.heap.setIfInBounds k o }) hw2 hr
        refine ⟨τ', b, wr', a1, ?_, a3⟩
        simp only [Sem.run, h2]
        cases h3 with
        | cells => exact absurd rfl (hn _ _ _)
        | map => exact a2
        | str => exact a2
      · exact absurd hd (hn _ _ _)
      · exact absurd hd (hn _ _ _)
    · cases hr
  | choose τ q f g hq _ ih =>
    intro wa wr wa' a' hw hr
    simp only [Sem.run, hq, if_true] at hr
    obtain ⟨τ', b, wr', a1, a2, a3⟩ := ih hw hr
    exact ⟨τ', b, wr', a1, by simp only [Sem.run, hq, if_true]; exact a2, a3⟩
  | program τ f g _ ih =>
    intro wa wr wa' a' hw hr
    simp only [Sem.run] at hr
    obtain ⟨τ', b, wr', a1, a2, a3⟩ := ih hw hr
    exact ⟨τ', b, wr', a1, by simp only [Sem.run]; exact a2, a3⟩
  | mark τ m m' f g _ ih =>
    intro wa wr wa' a' hw hr
    simp only [Sem.run] at hr
    obtain ⟨τ', b, wr', a1, a2, a3⟩ := ih hw hr
    exact ⟨τ', b, wr', a1, by simp only [Sem.run]; exact a2, a3⟩
  | halt τ h s =>
    intro wa wr wa' a' hw hr
    simp [Sem.run] at hr
  | never τ s s' hn =>
    intro wa wr wa' a' hw hr
    exact absurd hr (hn _ _ _)
end sound
end Go.Ev
namespace Go.Ev
open Go.RowKit
set_option linter.unusedVariables false
set_option linter.unusedSimpArgs false

/-- No address in it. -/
def AFb : Nat → Value → Bool
  | 0, _ => false
  | n + 1, v => match v with
    | .bool _ => true
    | .int _ _ => true
    | .float _ _ => true
    | .complex _ _ _ => true
    | .string _ => true
    | .pointer none => true
    | .slice none _ _ => true
    | .map none => true
    | .chan none => true
    | .nilFunc => true
    | .nilIface => true
    | .iface _ x => AFb n x
    | .agg xs => xs.toList.all (AFb n)
    | .tuple xs => xs.toList.all (AFb n)
    | .func (.func _) xs ys => xs.toList.all (AFb n) && ys.toList.all (AFb n)
    | _ => false

theorem AFb.vr {τ : Rel} : ∀ (n : Nat) (v : Value), AFb n v = true → VR τ v v := by
  intro n
  induction n with
  | zero => intro v h; cases h
  | succ n ih =>
    have hall : ∀ xs : Array Value, xs.toList.all (AFb n) = true → ∀ (i : Nat) (v v' : Value), xs[i]? = some v → xs[i]? = some v' → VR τ v v' := by
      intro xs h i v v' h1 h2
      rw [h1] at h2; cases h2
      refine ih v (List.all_eq_true.1 h v ?_)
      rw [← Array.getElem?_toList] at h1
      exact List.mem_of_getElem? h1
    intro v h
    unfold AFb at h
    split at h
    · exact .bool _
    · exact .int _ _
    · exact .float _ _
    · exact .complex _ _ _
    · exact .string _
    · exact .ptr0
    · exact .sl0 _ _
    · exact .map0
    · exact .chan0
    · exact .nilFunc
    · exact .nilIface
    · exact .iface _ _ _ (ih _ h)
    · exact .agg _ _ rfl (hall _ h)
    · exact .tuple _ _ rfl (hall _ h)
    · rw [Bool.and_eq_true] at h
      exact .func _ _ _ _ _ (fun l h => by cases h) rfl rfl (hall _ h.1) (hall _ h.2)
    · cases h

theorem arr_eq {xs ys : Array Value} (h : xs.size = ys.size) (hv : ∀ (i : Nat) (v v' : Value), xs[i]? = some v → ys[i]? = some v' → v = v') : xs = ys := by
  apply Array.ext h
  intro i h1 h2
  exact hv i _ _ (Array.getElem?_eq_getElem h1) (Array.getElem?_eq_getElem h2)

theorem AFb.eq {τ : Rel} : ∀ (n : Nat) (v v' : Value), AFb n v = true → VR τ v v' → v = v' := by
  intro n
  induction n with
  | zero => intro v v' h; cases h
  | succ n ih =>
    have hall : ∀ xs ys : Array Value, xs.toList.all (AFb n) = true → xs.size = ys.size → (∀ (i : Nat) (v v' : Value), xs[i]? = some v → ys[i]? = some v' → VR τ v v') → xs = ys := by
      intro xs ys h hs hv
      refine arr_eq hs (fun i v v' h1 h2 => ih v v' (List.all_eq_true.1 h v ?_) (hv i v v' h1 h2))
      rw [← Array.getElem?_toList] at h1
      exact List.mem_of_getElem? h1
    intro v v' h hv
    cases hv with
    | bool => rfl
    | int => rfl
    | float => rfl
    | complex => rfl
    | string => rfl
    | ptr0 => rfl
    | ptr => simp [AFb] at h
    | sl0 => rfl
    | sl => simp [AFb] at h
    | map0 => rfl
    | map => simp [AFb] at h
    | chan0 => rfl
    | func fn xs ys us vs hf h1 h2 i1 i2 =>
      unfold AFb at h
      split at h <;> first | (cases h; done) | skip
      all_goals (rename_i heq; cases heq)
      all_goals first | (cases h; done) | skip
      rw [Bool.and_eq_true] at h
      rw [hall _ _ h.1 h1 i1, hall _ _ h.2 h2 i2]
    | sym l us vs v' h1 h2 => simp [AFb] at h
    | nilFunc => rfl
    | iface t a b hab =>
      simp only [AFb] at h
      rw [ih _ _ h hab]
    | nilIface => rfl
    | agg xs ys hs hx =>
      simp only [AFb] at h
      rw [hall _ _ h hs hx]
    | tuple xs ys hs hx =>
      simp only [AFb] at h
      rw [hall _ _ h hs hx]

/-- A computation that asks nothing of the world. -/
def still (P : Program) {α : Type} : Sem α → Option α
  | .pure a => some a
  | .program k => still P (k P)
  | .mark _ k => still P k
  | _ => none
theorem still_run {P : Program} {α : Type} (s : Sem α) : ∀ {a : α}, still P s = some a → ∀ w, s.run P w = .ok a w := by
  induction s with
  | pure a => intro b h w; simp only [still, Option.some.injEq] at h; rw [h]; rfl
  | program k ih => intro b h w; simp only [still] at h; simp only [Sem.run]; exact ih P h w
  | mark m k ih => intro b h w; simp only [still] at h; simp only [Sem.run]; exact ih h w
  | load => intro b h; simp [still] at h
  | store => intro b h; simp [still] at h
  | new => intro b h; simp [still] at h
  | shape => intro b h; simp [still] at h
  | freeze => intro b h; simp [still] at h
  | frozen => intro b h; simp [still] at h
  | getObj => intro b h; simp [still] at h
  | setObj => intro b h; simp [still] at h
  | choose => intro b h; simp [still] at h
  | sys => intro b h; simp [still] at h
  | halt => intro b h; simp [still] at h

section ops
variable {P : Program} {τ : Rel}

abbrev RE {α : Type} : Rel → α → α → Prop := fun _ a b => a = b
abbrev RV : Rel → Value → Value → Prop := fun τ a b => VR τ a b
abbrev RU : Rel → Unit → Unit → Prop := fun _ _ _ => True
/-- Addresses. -/
def RA (τ : Rel) (a b : Addr) : Prop := ∃ k r o i, a = ⟨k, o, none⟩ ∧ b = ⟨r, o, none⟩ ∧ τ k r i
theorem RA.mono {τ τ' : Rel} (h : τ.le τ') {a b : Addr} (x : RA τ a b) : RA τ' a b := by
  obtain ⟨k, r, o, i, e1, e2, t⟩ := x
  exact ⟨k, r, o, i, e1, e2, h _ _ _ t⟩
theorem add_eq (k o i : Nat) : (⟨k, o, none⟩ : Addr).add i = ⟨k, o + i, none⟩ := by
  unfold Addr.add; split <;> simp_all
theorem RA.add {a b : Addr} (x : RA τ a b) (i : Nat) : RA τ (a.add i) (b.add i) := by
  obtain ⟨k, r, o, j, rfl, rfl, t⟩ := x
  exact ⟨k, r, o + i, j, add_eq _ _ _, add_eq _ _ _, t⟩
theorem RA.vr {a b : Addr} (x : RA τ a b) : VR τ (.pointer (some a)) (.pointer (some b)) := by
  obtain ⟨k, r, o, i, rfl, rfl, t⟩ := x
  exact .ptr _ _ _ _ t

theorem sim_prog {α : Type} {R : Rel → α → α → Prop} {f : Program → Sem α} (h : Sim P R τ (f P) (f P)) : Sim P R τ (program >>= f) (program >>= f) := Sim.program _ _ _ h
theorem sim_typeInfo (t : TypeId) : Sim P (fun _ a b => a = b ∧ P.info? t = some a) τ (typeInfo t) (typeInfo t) := by
  refine sim_prog ?_
  cases h : P.info? t with
  | none => exact Sim.halt _ _ _
  | some i => exact Sim.pure τ i i ⟨rfl, rfl⟩
theorem sim_underlying (t : TypeId) : Sim P (fun _ a b => a = b ∧ P.underlying t = some a) τ (underlying t) (underlying t) := by
  refine sim_prog ?_
  cases h : P.underlying t with
  | none => exact Sim.halt _ _ _
  | some i => exact Sim.pure τ i i ⟨rfl, rfl⟩
theorem sim_sizeOf (t : TypeId) : Sim P (fun _ a b => a = b ∧ (P.info? t).map (·.size) = some a) τ (sizeOf t) (sizeOf t) := by
  refine Sim.andThen (sim_typeInfo t) ?_
  rintro τ' a b hl ⟨rfl, h⟩
  exact Sim.pure _ _ _ ⟨rfl, by rw [h]; rfl⟩
theorem sim_isAgg (t : TypeId) : Sim P RE τ (isAgg t) (isAgg t) := by
  refine Sim.andThen (sim_underlying t) ?_
  rintro τ' a b hl ⟨rfl, h⟩
  split <;> exact Sim.pure _ _ _ rfl
theorem sim_load {a b : Addr} (h : RA τ a b) : Sim P RV τ (load a) (load b) := by
  obtain ⟨k, r, o, i, rfl, rfl, t⟩ := h
  exact Sim.load _ _ _ _ _ _ _ _ t (fun v v' hv => Sim.pure _ _ _ hv)
theorem sim_loadCellsFrom : ∀ (n : Nat) {τ : Rel} {a b : Addr} (i : Nat) {xs ys : Array Value}, RA τ a b → AR τ xs ys → Sim P (fun τ' u v => AR τ' u v) τ (loadCellsFrom a i n xs) (loadCellsFrom b i n ys) := by
  intro n
  induction n with
  | zero => intro τ a b i xs ys ha hx; exact Sim.pure _ _ _ hx
  | succ n ih =>
    intro τ a b i xs ys ha hx
    refine Sim.andThen (sim_load (ha.add i)) ?_
    intro τ' v v' hl hv
    exact ih (i + 1) (ha.mono hl) ((hx.mono hl).push hv)
theorem sim_loadVar (t : TypeId) {a b : Addr} (h : RA τ a b) : Sim P RV τ (loadVar t a) (loadVar t b) := by
  refine Sim.andThen (sim_isAgg t) ?_
  rintro τ' x y hl rfl
  split
  · refine Sim.andThen (sim_sizeOf t) ?_
    rintro τ2 n m hl2 ⟨rfl, _⟩
    refine Sim.andThen (sim_loadCellsFrom n 0 (h.mono (hl.trans hl2)) (AR.nil _)) ?_
    intro τ3 u v hl3 hx
    exact Sim.pure _ _ _ (VR.agg_ hx)
  · exact sim_load (h.mono hl)
theorem sim_storeCells : ∀ (xs ys : List Value) {τ : Rel} {a b : Addr} (i : Nat), RA τ a b → xs.length = ys.length → (∀ (j : Nat) (v v' : Value), xs[j]? = some v → ys[j]? = some v' → VR τ v v') → Sim P RU τ (storeCells a xs i) (storeCells b ys i) := by
  intro xs
  induction xs with
  | nil =>
    intro ys τ a b i ha hl hv
    cases ys with
    | nil => exact Sim.pure _ _ _ trivial
    | cons => simp at hl
  | cons x xs ih =>
    intro ys τ a b i ha hl hv
    cases ys with
    | nil => simp at hl
    | cons y ys =>
      obtain ⟨k, r, o, j, e1, e2, t⟩ := ha.add i
      show Sim P RU τ (Sem.bind (store (a.add i) x) fun _ => storeCells a xs (i + 1)) (Sem.bind (store (b.add i) y) fun _ => storeCells b ys (i + 1))
      rw [e1, e2]
      refine Sim.store _ _ _ _ _ j _ _ _ _ t (hv 0 x y rfl rfl) ?_
      exact ih ys (i + 1) ha (by simpa using hl) (fun j v v' h1 h2 => hv (j + 1) v v' h1 h2)
theorem AR.list {xs ys : Array Value} (h : AR τ xs ys) : xs.toList.length = ys.toList.length ∧ ∀ (j : Nat) (v v' : Value), xs.toList[j]? = some v → ys.toList[j]? = some v' → VR τ v v' :=
  ⟨by simpa using h.1, fun j v v' h1 h2 => h.2 j v v' (by rw [← Array.getElem?_toList]; exact h1) (by rw [← Array.getElem?_toList]; exact h2)⟩
theorem sim_storeVar (t : TypeId) {a b : Addr} (h : RA τ a b) {v v' : Value} (hv : VR τ v v') : Sim P RU τ (storeVar t a v) (storeVar t b v') := by
  refine Sim.andThen (sim_sizeOf t) ?_
  rintro τ' n m hl ⟨rfl, _⟩
  have hc := (hv.mono hl).cells
  rw [hc.1]
  split
  · exact Sim.halt _ _ _
  · exact sim_storeCells _ _ 0 (h.mono hl) hc.list.1 hc.list.2
theorem sim_newRow (e : TypeId) {xs ys : Array Value} (h : AR τ xs ys) : Sim P RA τ (newRow e xs) (newRow e ys) := by
  refine Sim.new _ _ _ _ _ (.cells _ _ e h) ?_
  intro τ' k r hl ht
  exact Sim.pure _ _ _ ⟨k, r, 0, none, rfl, rfl, ht⟩
theorem sim_newVar (t : TypeId) {v v' : Value} (h : VR τ v v') : Sim P RA τ (newVar t v) (newVar t v') := sim_newRow t h.cells

/-- A type's zero has no address. -/
def zeroOk (P : Program) (t : TypeId) : Bool := match P.info? t with
  | some i => match i.zero with | some z => AFb 10 z | none => true
  | none => true
theorem sim_zero (t : TypeId) (h : zeroOk P t = true) : Sim P (fun τ' a b => a = b ∧ AFb 10 a = true) τ (zeroValue t) (zeroValue t) := by
  refine Sim.andThen (sim_typeInfo t) ?_
  rintro τ' i j hl ⟨rfl, hi⟩
  unfold zeroOk at h
  rw [hi] at h
  dsimp only at h
  cases hz : i.zero with
  | none => exact Sim.halt _ _ _
  | some z => rw [hz] at h; exact Sim.pure _ _ _ ⟨rfl, h⟩
end ops
end Go.Ev
namespace Go.Ev
open Go.RowKit
set_option linter.unusedVariables false
set_option linter.unusedSimpArgs false

section ops
variable {P : Program} {τ : Rel}

theorem sim_sureAddr {v v' : Value} (h : VR τ v v') : Sim P RA τ (Instr.sureAddr v) (Instr.sureAddr v') := by
  cases h with
  | ptr k r o i t => exact Sim.pure _ _ _ ⟨k, r, o, i, rfl, rfl, t⟩
  | _ => exact Sim.halt _ _ _
theorem sim_asInt {v v' : Value} (h : VR τ v v') : Sim P RE τ (asInt v) (asInt v') := by
  cases h <;> first | exact Sim.pure _ _ _ rfl | exact Sim.halt _ _ _
theorem sim_asIntOf {v v' : Value} (h : VR τ v v') : Sim P RE τ (asIntOf v) (asIntOf v') := by
  cases h <;> first | exact Sim.pure _ _ _ rfl | exact Sim.halt _ _ _
theorem sim_asBool {v v' : Value} (h : VR τ v v') : Sim P RE τ (asBool v) (asBool v') := by
  cases h <;> first | exact Sim.pure _ _ _ rfl | exact Sim.halt _ _ _

theorem sim_loadAt (t : TypeId) {v v' : Value} (h : VR τ v v') : Sim P RV τ (Instr.loadAt t v) (Instr.loadAt t v') := by
  refine Sim.andThen (sim_sureAddr h) ?_
  intro τ' a b hl ha
  exact sim_loadVar t ha
theorem sim_storeAt (t : TypeId) {v v' x x' : Value} (h : VR τ v v') (hx : VR τ x x') : Sim P RU τ (Instr.storeAt t v x) (Instr.storeAt t v' x') := by
  refine Sim.andThen (sim_sureAddr h) ?_
  intro τ' a b hl ha
  exact sim_storeVar t ha (hx.mono hl)
theorem sim_alloc (t : TypeId) (h : zeroOk P t = true) : Sim P RV τ (Instr.alloc t true (.tuple #[])) (Instr.alloc t true (.tuple #[])) := by
  refine Sim.andThen (sim_zero t h) ?_
  rintro τ' a b hl ⟨rfl, hz⟩
  refine Sim.andThen (sim_newVar t (AFb.vr _ _ hz)) ?_
  intro τ2 x y hl2 hx
  exact Sim.pure _ _ _ hx.vr
theorem sim_box (t : TypeId) {v v' : Value} (h : VR τ v v') : Sim P RV τ (Instr.box t v) (Instr.box t v') := by
  refine Sim.andThen (sim_newVar t h) ?_
  intro τ2 x y hl2 hx
  exact Sim.pure _ _ _ hx.vr
theorem sim_part (t : TypeId) {xs ys : Array Value} (h : AR τ xs ys) (off : Nat) : Sim P RV τ (part t xs off) (part t ys off) := by
  refine Sim.andThen (sim_isAgg t) ?_
  rintro τ' a b hl rfl
  split
  · refine Sim.andThen (sim_sizeOf t) ?_
    rintro τ2 n m hl2 ⟨rfl, _⟩
    refine Sim.pure _ _ _ (VR.agg_ ⟨by simp [h.1], fun i v v' h1 h2 => ?_⟩)
    rw [Array.getElem?_extract] at h1 h2
    rw [h.1] at h1
    split at h1
    · rename_i hi; rw [if_pos hi] at h2; exact (h.2 _ v v' h1 h2).mono (hl.trans hl2)
    · cases h1
  · cases hx : xs[off]? with
    | none => exact Sim.halt _ _ _
    | some v =>
      obtain ⟨v', e, hv⟩ := h.get hx
      rw [e]
      exact Sim.pure _ _ _ (hv.mono hl)
theorem sim_asAgg {v v' : Value} (h : VR τ v v') : Sim P (fun τ' a b => AR τ' a b) τ (asAgg v) (asAgg v') := by
  cases h with
  | agg xs ys h hv => exact Sim.pure _ _ _ ⟨h, hv⟩
  | _ => exact Sim.halt _ _ _
theorem sim_field (t : TypeId) {v v' : Value} (h : VR τ v v') (n : Nat) : Sim P RV τ (Instr.field t v n) (Instr.field t v' n) := by
  refine Sim.andThen (sim_underlying t) ?_
  rintro τ' a b hl ⟨rfl, hu⟩
  split
  · rename_i _ fields
    cases hf : fields[n]? with
    | none => exact Sim.halt _ _ _
    | some f =>
      refine Sim.andThen (sim_asAgg (h.mono hl)) ?_
      intro τ2 x y hl2 hx
      exact sim_part _ hx _
  · exact Sim.halt _ _ _
/-- A struct's field takes room. -/
def fieldOk (P : Program) (s : TypeId) (n : Nat) : Bool := match P.underlying s with
  | some (.struct fields) => match fields[n]? with
    | some f => (P.info? f.type).map (·.size) != some 0
    | none => true
  | _ => true
theorem sim_fieldPlace {a b : Addr} (h : RA τ a b) (f : Field) (hf : (P.info? f.type).map (·.size) ≠ some 0) : Sim P RA τ (fieldPlace a f) (fieldPlace b f) := by
  refine Sim.andThen (sim_sizeOf f.type) ?_
  rintro τ' n m hl ⟨rfl, hn⟩
  have : n ≠ 0 := fun e => hf (by rw [hn, e])
  simp only [this, if_false]
  exact Sim.pure _ _ _ ((h.mono hl).add _)
theorem sim_fieldAt (s : TypeId) {v v' : Value} (h : VR τ v v') (n : Nat) (ho : fieldOk P s n = true) : Sim P RV τ (Instr.fieldAt s v n) (Instr.fieldAt s v' n) := by
  refine Sim.andThen (sim_underlying s) ?_
  rintro τ' a b hl ⟨rfl, hu⟩
  split
  · rename_i _ fields
    cases hf : fields[n]? with
    | none => exact Sim.halt _ _ _
    | some f =>
      have hz : (P.info? f.type).map (·.size) ≠ some 0 := by
        intro e
        unfold fieldOk at ho
        rw [hu] at ho
        simp [hf, e] at ho
      refine Sim.andThen (sim_sureAddr (h.mono hl)) ?_
      intro τ2 x y hl2 hx
      refine Sim.andThen (sim_fieldPlace hx f hz) ?_
      intro τ3 p q hl3 hp
      exact Sim.pure _ _ _ hp.vr
  · exact Sim.halt _ _ _
theorem sim_extract {v v' : Value} (h : VR τ v v') (n : Nat) : Sim P RV τ (Instr.extract v n) (Instr.extract v' n) := by
  cases h with
  | tuple xs ys h hv =>
    simp only [Instr.extract]
    cases hx : xs[n]? with
    | none => exact Sim.halt _ _ _
    | some v =>
      obtain ⟨v', e, hv⟩ := (show AR τ xs ys from ⟨h, hv⟩).get hx
      rw [e]
      exact Sim.pure _ _ _ hv
  | _ => exact Sim.halt _ _ _
theorem sim_makeInterface (t : TypeId) {v v' : Value} (h : VR τ v v') : Sim P RV τ (Instr.makeInterface t v) (Instr.makeInterface t v') := by
  refine Sim.andThen (sim_underlying t) ?_
  rintro τ' a b hl ⟨rfl, _⟩
  split
  · exact Sim.halt _ _ _
  · exact Sim.pure _ _ _ (.iface _ _ _ (h.mono hl))
theorem sim_makeMap (t : TypeId) {r r' : Option Value} (h : ∀ v, r = some v → ∃ v', r' = some v' ∧ VR τ v v') (h0 : r = none → r' = none) : Sim P RV τ (Instr.makeMap t r) (Instr.makeMap t r') := by
  have key : ∀ τ' : Rel, Sim P RV τ' (do pure (.map (some (← newObj (.map #[] 0))))) (do pure (.map (some (← newObj (.map #[] 0))))) := by
    intro τ'
    refine Sim.new _ _ _ _ _ (.map _ _ 0 ⟨rfl, fun i e f h => by simp at h⟩) ?_
    intro τ2 k r hl ht
    exact Sim.pure _ _ _ (.map _ _ _ ht)
  cases r with
  | none => rw [h0 rfl]; exact key τ
  | some v =>
    obtain ⟨v', e, hv⟩ := h v rfl
    rw [e]
    refine Sim.andThen (sim_underlying t) ?_
    rintro τ' a b hl ⟨rfl, _⟩
    split
    · refine Sim.andThen (sim_asInt (hv.mono hl)) ?_
      rintro τ2 x y hl2 rfl
      exact key τ2
    · exact Sim.halt _ _ _
end ops
end Go.Ev
namespace Go.Ev
open Go.RowKit
set_option linter.unusedVariables false
set_option linter.unusedSimpArgs false

section ops
variable {P : Program} {τ : Rel}

theorem sim_same_mapM {α β : Type} {f : α → Sem β} (hf : ∀ (τ : Rel) x, Sim P RE τ (f x) (f x)) : ∀ (l : List α) (τ : Rel), Sim P RE τ (l.mapM f) (l.mapM f) := by
  intro l
  induction l with
  | nil => intro τ; rw [List.mapM_nil]; exact Sim.pure _ _ _ rfl
  | cons x l ih =>
    intro τ
    rw [List.mapM_cons]
    refine Sim.andThen (hf τ x) ?_
    rintro τ' a b hl rfl
    refine Sim.andThen (ih τ') ?_
    rintro τ2 a b hl rfl
    exact Sim.pure _ _ _ rfl
theorem sim_same_amapM {α β : Type} {f : α → Sem β} (hf : ∀ (τ : Rel) x, Sim P RE τ (f x) (f x)) (l : Array α) (τ : Rel) : Sim P RE τ (l.mapM f) (l.mapM f) := by
  rw [Array.mapM_eq_mapM_toList]
  refine Sim.andThen (sim_same_mapM hf l.toList τ) ?_
  rintro τ' a b hl rfl
  exact Sim.pure _ _ _ rfl

/-- Parts of a literal. -/
def PR (τ : Rel) : List (Nat × Value) → List (Nat × Value) → Prop
  | [], [] => True
  | (i, v) :: r, (j, u) :: s => i = j ∧ VR τ v u ∧ PR τ r s
  | _, _ => False
theorem PR.mono {τ' : Rel} (h : τ.le τ') : ∀ {x y : List (Nat × Value)}, PR τ x y → PR τ' x y
  | [], [], _ => trivial
  | (i, v) :: r, (j, u) :: s, ⟨a, b, c⟩ => ⟨a, b.mono h, PR.mono h c⟩
  | [], _ :: _, x => x.elim
  | _ :: _, [], x => x.elim

theorem fold_ar : ∀ (l m : List (Value × Nat)) {xs ys : Array Value} (off : Nat), AR τ xs ys → l.length = m.length → (∀ (i : Nat) a b, l[i]? = some a → m[i]? = some b → VR τ a.1 b.1 ∧ a.2 = b.2) →
    AR τ (l.foldl (fun cs (x : Value × Nat) => cs.setIfInBounds (off + x.2) x.1) xs) (m.foldl (fun cs (x : Value × Nat) => cs.setIfInBounds (off + x.2) x.1) ys) := by
  intro l
  induction l with
  | nil =>
    intro m xs ys off h hl hv
    cases m with
    | nil => exact h
    | cons => simp at hl
  | cons x l ih =>
    intro m xs ys off h hl hv
    cases m with
    | nil => simp at hl
    | cons y m =>
      obtain ⟨h1, h2⟩ := hv 0 x y rfl rfl
      rw [List.foldl_cons, List.foldl_cons, h2]
      exact ih m off (h.set h1 _) (by simpa using hl) (fun i a b h3 h4 => hv (i + 1) a b h3 h4)

theorem fill_ar (place : Nat → Option (Nat × Nat)) : ∀ (l m : List (Nat × Value)) {xs ys : Array Value}, AR τ xs ys → PR τ l m →
    (Instr.fill place xs l = none ∧ Instr.fill place ys m = none) ∨ ∃ us vs, Instr.fill place xs l = some us ∧ Instr.fill place ys m = some vs ∧ AR τ us vs := by
  intro l
  induction l with
  | nil =>
    intro m xs ys h hp
    cases m with
    | nil => exact .inr ⟨xs, ys, rfl, rfl, h⟩
    | cons => exact hp.elim
  | cons x l ih =>
    intro m xs ys h hp
    cases m with
    | nil => exact hp.elim
    | cons y m =>
      obtain ⟨i, v⟩ := x
      obtain ⟨j, u⟩ := y
      obtain ⟨rfl, hv, hr⟩ := hp
      unfold Instr.fill
      cases hpl : place i with
      | none => exact .inl ⟨rfl, rfl⟩
      | some q =>
        obtain ⟨off, size⟩ := q
        have hc := hv.cells
        dsimp only
        rw [hc.1, h.1]
        split
        · exact .inl ⟨rfl, rfl⟩
        · refine ih m ?_ hr
          have := fold_ar (τ := τ) v.cells.zipIdx.toList u.cells.zipIdx.toList off h (by simp [hc.1]) (fun i a b h1 h2 => by
            rw [Array.getElem?_toList, Array.getElem?_zipIdx] at h1 h2
            cases ha : v.cells[i]? with
            | none => rw [ha] at h1; cases h1
            | some p =>
              cases hb : u.cells[i]? with
              | none => rw [hb] at h2; cases h2
              | some q =>
                rw [ha] at h1; rw [hb] at h2
                cases h1; cases h2
                exact ⟨hc.2 i p q ha hb, rfl⟩)
          rw [← Array.foldl_toList, ← Array.foldl_toList]
          exact this

theorem sim_build (t : TypeId) (hz : zeroOk P t = true) {ps qs : Array (Nat × Value)} (h : PR τ ps.toList qs.toList) : Sim P RV τ (Instr.build t ps) (Instr.build t qs) := by
  refine Sim.andThen (sim_zero t hz) ?_
  rintro τ' z z' hl ⟨rfl, ha⟩
  have hzz : AR τ' z.cells z.cells := (AFb.vr _ _ ha).cells
  refine Sim.andThen (sim_underlying t) ?_
  rintro τ2 a b hl2 ⟨rfl, hu⟩
  have hp := h.mono (hl.trans hl2)
  have hz2 := hzz.mono hl2
  split
  · refine Sim.andThen (sim_same_amapM (fun τ f => ?_) _ _) ?_
    · refine Sim.andThen (sim_sizeOf f.type) ?_
      rintro τ3 n m hl3 ⟨rfl, _⟩
      exact Sim.pure _ _ _ rfl
    · rintro τ3 places b hl3 rfl
      rcases fill_ar (fun i => places[i]?) ps.toList qs.toList (hz2.mono hl3) (hp.mono hl3) with ⟨e1, e2⟩ | ⟨us, vs, e1, e2, hx⟩
      · rw [e1]; exact Sim.halt _ _ _
      · rw [e1, e2]; exact Sim.pure _ _ _ (VR.agg_ hx)
  · refine Sim.andThen (sim_sizeOf _) ?_
    rintro τ3 n m hl3 ⟨rfl, _⟩
    rcases fill_ar (fun i => some (i * n, n)) ps.toList qs.toList (hz2.mono hl3) (hp.mono hl3) with ⟨e1, e2⟩ | ⟨us, vs, e1, e2, hx⟩
    · rw [e1]; exact Sim.halt _ _ _
    · rw [e1, e2]; exact Sim.pure _ _ _ (VR.agg_ hx)
  · exact Sim.halt _ _ _

theorem AR.refl_of {xs : Array Value} (h : ∀ (i : Nat) v, xs[i]? = some v → VR τ v v) : AR τ xs xs := ⟨rfl, fun i v v' h1 h2 => by rw [h1] at h2; cases h2; exact h i v h1⟩

/-- A slice of new cells. -/
theorem RA.sl {a b : Addr} (x : ∃ k r, a = ⟨k, 0, none⟩ ∧ b = ⟨r, 0, none⟩ ∧ τ k r none) (l c : Nat) : VR τ (.slice (some a) l c) (.slice (some b) l c) := by
  obtain ⟨k, r, rfl, rfl, t⟩ := x
  exact .sl k r 0 l c c none t rfl
theorem sim_newRow' (e : TypeId) {xs ys : Array Value} (h : AR τ xs ys) : Sim P (fun τ a b => ∃ k r, a = ⟨k, 0, none⟩ ∧ b = ⟨r, 0, none⟩ ∧ τ k r none) τ (newRow e xs) (newRow e ys) := by
  refine Sim.new _ _ _ _ _ (.cells _ _ e h) ?_
  intro τ' k r hl ht
  exact Sim.pure _ _ _ ⟨k, r, rfl, rfl, ht⟩

/-- Many zeros. -/
theorem zeros_ar {z : Array Value} (h : AR τ z z) (n : Nat) : AR τ ((Array.range n).map (fun i => z[i % z.size]!)) ((Array.range n).map (fun i => z[i % z.size]!)) := by
  refine AR.refl_of (fun i v hv => ?_)
  rw [Array.getElem?_map] at hv
  cases hi : (Array.range n)[i]? with
  | none => rw [hi] at hv; cases hv
  | some j =>
    rw [hi] at hv
    simp only [Option.map_some, Option.some.injEq] at hv
    subst hv
    by_cases hz : z.size = 0
    · have : z = #[] := Array.eq_empty_of_size_eq_zero hz
      subst this
      exact VR.bool false
    · have hl : j % z.size < z.size := Nat.mod_lt _ (by omega)
      rw [getElem!_pos z _ hl]
      exact h.2 _ _ _ (Array.getElem?_eq_getElem hl) (Array.getElem?_eq_getElem hl)

theorem sim_askRoom (τ : Rel) (n : Nat) : Sim P RU τ (askRoom n) (askRoom n) := by
  unfold askRoom
  split
  · exact Sim.mark _ _ _ _ _ (Sim.pure _ _ _ trivial)
  · exact Sim.pure _ _ _ trivial

theorem sim_makeSlice (t : TypeId) (hz : ∀ e, P.underlying t = some (.slice e) → zeroOk P e = true) {l l' c c' : Value} (hl : VR τ l l') (hc : VR τ c c') : Sim P RV τ (Instr.makeSlice t l c) (Instr.makeSlice t l' c') := by
  refine Sim.andThen (sim_underlying t) ?_
  rintro τ1 a b h1 ⟨rfl, hu⟩
  split
  · rename_i _ elem
    have z1 := hz elem hu
    refine Sim.andThen (sim_asInt (hl.mono h1)) ?_
    rintro τ2 len _ h2 rfl
    refine Sim.andThen (sim_asInt (hc.mono (h1.trans h2))) ?_
    rintro τ3 cap _ h3 rfl
    refine Sim.andThen (sim_typeInfo elem) ?_
    rintro τ4 i _ h4 ⟨rfl, hi⟩
    dsimp only
    split
    · split
      · exact Sim.never _ _ _ ((never_runtime _).bind _)
      · split
        · exact Sim.never _ _ _ ((never_runtime _).bind _)
        · exact Sim.never _ _ _ (Never.then _ (fun x => (never_runtime _).bind _))
    · refine Sim.andThen (sim_askRoom _ _) ?_
      rintro τ5 _ _ h5 _
      refine Sim.andThen (sim_sizeOf elem) ?_
      rintro τ6 n _ h6 ⟨rfl, hn⟩
      split
      · refine Sim.andThen (R := fun τ u v => u = v ∧ AR τ u v) (Sim.pure _ _ _ ⟨rfl, AR.nil _⟩) ?_
        rintro τ7 z _ h7 ⟨rfl, ha⟩
        refine Sim.andThen (sim_newRow' elem (zeros_ar ha _)) ?_
        intro τ8 x y h8 hx
        exact Sim.pure _ _ _ (RA.sl hx _ _)
      · refine Sim.andThen (sim_zero elem z1) ?_
        rintro τ7 z _ h7 ⟨rfl, ha⟩
        refine Sim.andThen (R := fun τ u v => u = v ∧ AR τ u v) (Sim.pure _ _ _ ⟨rfl, (AFb.vr _ _ ha).cells⟩) ?_
        rintro τ7 z _ h7 ⟨rfl, ha⟩
        refine Sim.andThen (sim_newRow' elem (zeros_ar ha _)) ?_
        intro τ8 x y h8 hx
        exact Sim.pure _ _ _ (RA.sl hx _ _)
  · exact Sim.halt _ _ _

theorem sim_buildSlice (t : TypeId) (n : Nat) (hz : ∀ e, P.underlying t = some (.slice e) → zeroOk P e = true) {ps qs : Array (Nat × Value)} (h : PR τ ps.toList qs.toList) : Sim P RV τ (Instr.buildSlice t n ps) (Instr.buildSlice t n qs) := by
  refine Sim.andThen (sim_underlying t) ?_
  rintro τ1 a b h1 ⟨rfl, hu⟩
  split
  · rename_i _ elem
    have z1 := hz elem hu
    refine Sim.andThen (sim_sizeOf elem) ?_
    rintro τ2 m _ h2 ⟨rfl, hn⟩
    dsimp only
    by_cases hbig : n * m > 2 ^ 24
    · rw [if_pos hbig]
      exact Sim.halt _ _ _
    · rw [if_neg hbig, if_neg hbig]
      have tail : ∀ (τ3 : Rel) (z : Array Value), τ2.le τ3 → AR τ3 z z → Sim P RV τ3 _ _ := fun τ3 z h3 ha => by
        rcases fill_ar (fun i => some (i * m, m)) ps.toList qs.toList (zeros_ar ha (n * m)) (h.mono (h1.trans (h2.trans h3))) with ⟨e1, e2⟩ | ⟨us, vs, e1, e2, hx⟩
        · exact (show Sim P RV τ3 (match Instr.fill (fun i => some (i * m, m)) ((Array.range (n * m)).map (z[· % z.size]!)) ps.toList with
              | some cells => (do pure (.slice (some (← newRow elem cells)) n n))
              | _ => stuck "buildSlice: a part of the wrong size") (match Instr.fill (fun i => some (i * m, m)) ((Array.range (n * m)).map (z[· % z.size]!)) qs.toList with
              | some cells => (do pure (.slice (some (← newRow elem cells)) n n))
              | _ => stuck "buildSlice: a part of the wrong size") from by rw [e1]; exact Sim.halt _ _ _)
        · rw [e1, e2]
          refine Sim.andThen (sim_newRow' elem hx) ?_
          intro τ8 x y h8 hx
          exact Sim.pure _ _ _ (RA.sl hx _ _)
      split
      · exact tail τ2 #[] (Rel.le.refl _) (AR.nil _)
      · refine Sim.andThen (sim_zero elem z1) ?_
        rintro τ7 z _ h7 ⟨rfl, ha⟩
        exact tail τ7 _ h7 (AFb.vr _ _ ha).cells
  · exact Sim.halt _ _ _
end ops
end Go.Ev
namespace Go.Ev
open Go.RowKit
set_option linter.unusedVariables false
set_option linter.unusedSimpArgs false

section ops
variable {P : Program} {τ : Rel}

/-- Addresses that may be none. -/
def OA (τ : Rel) : Option Addr → Option Addr → Prop
  | none, none => True
  | some a, some b => RA τ a b
  | _, _ => False
theorem OA.mono {τ' : Rel} (h : τ.le τ') {a b : Option Addr} (x : OA τ a b) : OA τ' a b := by
  cases a <;> cases b <;> first | trivial | exact x.elim | exact RA.mono h x

def idxTail (k : IntKind) (n : Int) (t : TypeId) (x : Option Addr × Nat × TypeId) : Sem Value := do
  let tiny := x.2.1 ≤ 1 && (match ← underlying t with | .array .. => true | _ => false)
  match x.1 with
  | some a =>
    if 0 ≤ n ∧ n < x.2.1 then pure (.pointer (some (a.add (n.toNat * (← sizeOf x.2.2)))))
    else if tiny then unsupported (.noEntry "op/indexAddr.an index out of range at an array of length 0 or 1 (ledger 616)")
    else boundsPanic k n x.2.1 .index
  | none => boundsPanic k n 0 .index
theorem sim_idxTail (k : IntKind) (n : Int) (t : TypeId) {base base' : Option Addr} (len : Nat) (elem : TypeId) (ha : OA τ base base') : Sim P RV τ (idxTail k n t (base, len, elem)) (idxTail k n t (base', len, elem)) := by
  refine Sim.andThen (sim_underlying t) ?_
  rintro τ4 d2 _ h4 ⟨rfl, hu2⟩
  have ha := ha.mono h4
  cases base with
  | none =>
    cases base' with
    | none => exact Sim.never _ _ _ (never_bounds _ _ _ _)
    | some b => exact ha.elim
  | some a =>
    cases base' with
    | none => exact ha.elim
    | some b =>
      dsimp only
      split
      · refine Sim.andThen (sim_sizeOf elem) ?_
        rintro τ5 m _ h5 ⟨rfl, _⟩
        exact Sim.pure _ _ _ ((RA.mono h5 ha).add _).vr
      · split <;> split <;> first | exact Sim.halt _ _ _ | exact Sim.never _ _ _ (never_bounds _ _ _ _)
theorem sim_indexAt (t : TypeId) {x x' i i' : Value} (hx : VR τ x x') (hi : VR τ i i') : Sim P RV τ (Instr.indexAt t x i) (Instr.indexAt t x' i') := by
  refine Sim.andThen (sim_asIntOf hi) ?_
  rintro τ1 ⟨k, n⟩ _ h1 rfl
  refine Sim.andThen (sim_underlying t) ?_
  rintro τ2 d _ h2 ⟨rfl, hu⟩
  have hx2 := hx.mono (h1.trans h2)
  cases d with
  | array len elem =>
    refine Sim.andThen (sim_sureAddr hx2) ?_
    intro τ3 a b h3 ha
    exact sim_idxTail k n t len elem (base := some a) (base' := some b) ha
  | slice elem =>
    cases hx2 with
    | sl0 l c => exact sim_idxTail k n t l elem (base := none) (base' := none) trivial
    | sl k2 r o l c c' i ht hc => exact sim_idxTail k n t l elem (base := some ⟨k2, o, none⟩) (base' := some ⟨r, o, none⟩) ⟨k2, r, o, i, rfl, rfl, ht⟩
    | _ => exact Sim.halt _ _ _
  | _ => cases hx2 <;> exact Sim.halt _ _ _

theorem sim_index (t : TypeId) {x x' i i' : Value} (hx : VR τ x x') (hi : VR τ i i') : Sim P RV τ (Instr.index t x i) (Instr.index t x' i') := by
  refine Sim.andThen (sim_asIntOf hi) ?_
  rintro τ1 ⟨k, n⟩ _ h1 rfl
  refine Sim.andThen (sim_underlying t) ?_
  rintro τ2 d _ h2 ⟨rfl, hu⟩
  have hx2 := hx.mono (h1.trans h2)
  cases hx2 with
  | agg xs ys hs hv =>
    split
    · rename_i h; cases h
      split
      · refine Sim.andThen (sim_sizeOf _) ?_
        rintro τ5 m _ h5 ⟨rfl, _⟩
        exact sim_part _ (AR.mono h5 ⟨hs, hv⟩) _
      · exact Sim.never _ _ _ (never_bounds _ _ _ _)
    · rename_i h; cases h
    · exact Sim.halt _ _ _
  | string s =>
    split
    · rename_i h; cases h
    · rename_i h; cases h
      split
      · exact Sim.pure _ _ _ (.int _ _)
      · exact Sim.never _ _ _ (never_bounds _ _ _ _)
    · exact Sim.halt _ _ _
  | _ =>
    split
    · rename_i h; cases h
    · rename_i h; cases h
    · exact Sim.halt _ _ _

theorem sim_typeAssert (t u : TypeId) (c : Bool) (hz : zeroOk P u = true) {x x' : Value} (hx : VR τ x x') : Sim P RV τ (Instr.typeAssert x t u c) (Instr.typeAssert x' t u c) := by
  have holds : ∀ (τ : Rel) (v v' : Value), VR τ v v' → Sim P RV τ (pure (if c then .tuple #[v, .bool true] else v)) (pure (if c then .tuple #[v', .bool true] else v')) := by
    intro τ v v' h
    cases c
    · exact Sim.pure _ _ _ h
    · exact Sim.pure _ _ _ (VR.tuple_ (((AR.nil _).push h).push (.bool true)))
  have fails : ∀ (τ : Rel) (a b : Option TypeId) (m : String), Sim P RV τ (if c then (do pure (.tuple #[← zeroValue u, .bool false])) else runtimePanic (.typeAssertion a b u m)) (if c then (do pure (.tuple #[← zeroValue u, .bool false])) else runtimePanic (.typeAssertion a b u m)) := by
    intro τ a b m
    cases c
    · rw [if_neg (by simp)]
      exact Sim.never _ _ _ (never_runtime _)
    · rw [if_pos rfl]
      refine Sim.andThen (sim_zero u hz) ?_
      rintro τ1 z _ h1 ⟨rfl, ha⟩
      exact Sim.pure _ _ _ (VR.tuple_ (((AR.nil _).push (AFb.vr _ _ ha)).push (.bool false)))
  unfold Instr.typeAssert
  refine Sim.andThen (sim_underlying u) ?_
  rintro τ2 d _ h2 ⟨rfl, hu⟩
  have hx2 := hx.mono h2
  cases hx2 with
  | nilIface =>
    split
    · exact fails _ _ _ _
    · rename_i h; cases h
    · exact fails _ _ _ _
    · rename_i h; cases h
    · exact Sim.halt _ _ _
  | iface t v v' hv =>
    split
    · rename_i h; cases h
    · rename_i h; cases h
      refine Sim.andThen (sim_typeInfo t) ?_
      rintro τ3 i _ h3 ⟨rfl, _⟩
      split
      · exact holds _ _ _ ((VR.iface _ _ _ hv).mono h3)
      · exact fails _ _ _ _
    · rename_i h; cases h
    · rename_i h; cases h
      split
      · exact holds _ _ _ hv
      · exact fails _ _ _ _
    · exact Sim.halt _ _ _
  | _ =>
    split
    · rename_i h; cases h
    · rename_i h; cases h
    · rename_i h; cases h
    · rename_i h; cases h
    · exact Sim.halt _ _ _

theorem sim_sliceBound {x x' : Value} (hx : VR τ x x') (y : Nat) (c : BoundsCode) {y' : Nat} (hy : y ≤ y') : Sim P (fun _ a b => a = b ∧ ∀ k n, x = .int k n → a = n.toNat) τ (Instr.sliceBound x y c) (Instr.sliceBound x' y' c) := by
  refine Sim.andThen (R := fun _ a b => a = b ∧ ∀ k n, x = .int k n → a = (k, n)) ?_ ?_
  · cases hx <;> first | exact Sim.halt _ _ _ | exact Sim.pure _ _ _ ⟨rfl, fun k n h => by cases h; rfl⟩
  rintro τ1 ⟨k, n⟩ _ h1 ⟨rfl, hkn⟩
  dsimp only
  by_cases h : 0 ≤ n ∧ n ≤ y
  · rw [if_pos h, if_pos ⟨h.1, by have := h.2; omega⟩]
    exact Sim.pure _ _ _ ⟨rfl, fun k2 n2 h2 => by have := hkn k2 n2 h2; cases this; rfl⟩
  · rw [if_neg h]
    exact Sim.never _ _ _ (never_bounds _ _ _ _)
/-- Values that may be none. -/
def OV (τ : Rel) : Option Value → Option Value → Prop
  | none, none => True
  | some a, some b => VR τ a b
  | _, _ => False
theorem OV.mono {τ' : Rel} (h : τ.le τ') {a b : Option Value} (x : OV τ a b) : OV τ' a b := by
  cases a <;> cases b <;> first | trivial | exact x.elim | exact VR.mono h x

/-- The bounds of a cut: the greatest may be another one. -/
theorem sim_sliceBounds (b : Bool) (len cap cap' : Nat) (hcap : cap ≤ cap') {lo lo' hi hi' : Option Value} (hl : OV τ lo lo') (hh : OV τ hi hi') :
    Sim P (fun τ (u v : Nat × Nat × Nat) => u.1 = v.1 ∧ u.2.1 = v.2.1 ∧ u.2.2 = cap ∧ v.2.2 = cap' ∧ ((lo = none ∨ ∃ k, lo = some (.int k 0)) → u.1 = 0)) τ (Instr.sliceBounds b len cap lo hi none) (Instr.sliceBounds b len cap' lo' hi' none) := by
  have tail : ∀ (τ1 : Rel) (h : Nat), τ.le τ1 → Sim P (fun τ (u v : Nat × Nat × Nat) => u.1 = v.1 ∧ u.2.1 = v.2.1 ∧ u.2.2 = cap ∧ v.2.2 = cap' ∧ ((lo = none ∨ ∃ k, lo = some (.int k 0)) → u.1 = 0)) τ1
      (do let l ← (match lo with | some v => Instr.sliceBound v h .sliceB | none => pure 0); pure (l, h, cap)) (do let l ← (match lo' with | some v => Instr.sliceBound v h .sliceB | none => pure 0); pure (l, h, cap')) := by
    intro τ1 h h1
    have hl1 := hl.mono h1
    cases lo with
    | none =>
      cases lo' with
      | none => exact Sim.pure _ _ _ ⟨rfl, rfl, rfl, rfl, fun _ => rfl⟩
      | some v => exact hl1.elim
    | some u =>
      cases lo' with
      | none => exact hl1.elim
      | some v =>
        refine Sim.andThen (sim_sliceBound hl1 h .sliceB (Nat.le_refl _)) ?_
        rintro τ2 a _ h2 ⟨rfl, hn⟩
        exact Sim.pure _ _ _ ⟨rfl, rfl, rfl, rfl, fun h => by
          rcases h with h | ⟨k, h⟩
          · cases h
          · cases h; exact hn k 0 rfl⟩
  cases hi with
  | none =>
    cases hi' with
    | none =>
      have := tail τ len (Rel.le.refl _)
      cases lo <;> cases lo' <;> exact this
    | some v => exact hh.elim
  | some u =>
    cases hi' with
    | none => exact hh.elim
    | some v =>
      have : Sim P (fun τ (u v : Nat × Nat × Nat) => u.1 = v.1 ∧ u.2.1 = v.2.1 ∧ u.2.2 = cap ∧ v.2.2 = cap' ∧ ((lo = none ∨ ∃ k, lo = some (.int k 0)) → u.1 = 0)) τ
        (do let h ← Instr.sliceBound u cap (if b then .sliceAcap else .sliceAlen); let l ← (match lo with | some v => Instr.sliceBound v h .sliceB | none => pure 0); pure (l, h, cap))
        (do let h ← Instr.sliceBound v cap' (if b then .sliceAcap else .sliceAlen); let l ← (match lo' with | some v => Instr.sliceBound v h .sliceB | none => pure 0); pure (l, h, cap')) := by
        refine Sim.andThen (sim_sliceBound hh cap _ hcap) ?_
        rintro τ1 h _ h1 ⟨rfl, _⟩
        exact tail τ1 h h1
      cases lo <;> cases lo' <;> exact this
end ops
end Go.Ev
namespace Go.Ev
open Go.RowKit
set_option linter.unusedVariables false
set_option linter.unusedSimpArgs false

section ops
variable {P : Program} {τ : Rel}

/-- A slice of a block that is as large as there, or cut at its begin. -/
def cutOk (τ : Rel) (x : Value) (lo : Option Value) : Prop :=
  match x with
  | .slice (some a) _ _ => (∀ r i, τ a.block r i → i = none) ∨ lo = none ∨ ∃ k, lo = some (.int k 0)
  | .pointer (some a) => ∀ r i, τ a.block r i → i = none
  | _ => True

theorem capOk.cut {c c' o l s : Nat} (h : capOk c c' o none) : capOk (c - l) (c' - l) (o + l * s) none := by
  have h : c = c' := h
  subst h
  exact (rfl : c - l = c - l)

def sliceTail (elem : TypeId) (a : Option Addr) (x : Nat × Nat × Nat) : Sem Value := do
  let size ← sizeOf elem
  pure (.slice (if x.2.2 = x.1 then a else a.map (·.add (x.1 * size))) (x.2.1 - x.1) (x.2.2 - x.1))

/-- A cut of an array. -/
def arrTail (n : Nat) (elem : TypeId) (lo hi : Option Value) (a : Addr) : Sem Value := do
  let (l, h, m) ← Instr.sliceBounds false n n lo hi none
  let size ← sizeOf elem
  pure (.slice (some (if m = l then a else a.add (l * size))) (h - l) (m - l))
theorem sim_arrTail (n : Nat) (elem : TypeId) {lo lo' hi hi' : Option Value} (hl : OV τ lo lo') (hh : OV τ hi hi') {k r o : Nat} (ht : τ k r none) : Sim P RV τ (arrTail n elem lo hi ⟨k, o, none⟩) (arrTail n elem lo' hi' ⟨r, o, none⟩) := by
  refine Sim.andThen (sim_sliceBounds false n n n (Nat.le_refl _) hl hh) ?_
  rintro τ4 ⟨l, h, m⟩ ⟨l', h', m'⟩ h4 ⟨e1, e2, e3, e4, e5⟩
  cases e1; cases e2; dsimp only at e3 e4
  refine Sim.andThen (sim_sizeOf elem) ?_
  rintro τ5 z _ h5 ⟨rfl, _⟩
  refine Sim.pure _ _ _ ?_
  rw [e3, e4]
  have t := h5 _ _ _ (h4 _ _ _ ht)
  by_cases hl0 : n = l
  · rw [if_pos hl0, if_pos hl0]
    exact .sl _ _ _ _ _ _ none t rfl
  · rw [if_neg hl0, if_neg hl0]
    simp only [add_eq]
    exact .sl _ _ _ _ _ _ none t rfl

theorem sim_slice (t : TypeId) {x x' : Value} (hx : VR τ x x') {lo lo' hi hi' : Option Value} (hl : OV τ lo lo') (hh : OV τ hi hi') (hc : cutOk τ x lo) :
    Sim P RV τ (Instr.slice t x lo hi none) (Instr.slice t x' lo' hi' none) := by
  refine Sim.andThen (sim_underlying t) ?_
  rintro τ1 d _ h1 ⟨rfl, hu⟩
  have hl1 := hl.mono h1
  have hh1 := hh.mono h1
  cases d with
  | string =>
    cases hx with
    | string s =>
      refine Sim.andThen (sim_sliceBounds false s.size s.size s.size (Nat.le_refl _) hl1 hh1) ?_
      rintro τ2 ⟨l, h, m⟩ ⟨l', h', m'⟩ h2 ⟨e1, e2, _, _, _⟩
      cases e1; cases e2
      exact Sim.pure _ _ _ (.string _)
    | _ => exact Sim.halt _ _ _
  | slice elem =>
    cases hx with
    | sl0 ln c =>
      refine Sim.andThen (sim_sliceBounds true ln c c (Nat.le_refl _) hl1 hh1) ?_
      rintro τ2 ⟨l, h, m⟩ ⟨l', h', m'⟩ h2 ⟨e1, e2, e3, e4, e5⟩
      cases e1; cases e2; dsimp only at e3 e4
      refine Sim.andThen (sim_sizeOf elem) ?_
      rintro τ3 n _ h3 ⟨rfl, _⟩
      refine Sim.pure _ _ _ ?_
      rw [e3, e4]
      simp only [Option.map_none, ite_self]
      exact .sl0 _ _
    | sl k r o ln c c' i ht hcap =>
      have hcc : c ≤ c' := by
        cases i with
        | none => exact Nat.le_of_eq hcap
        | some q => exact hcap.1
      refine Sim.andThen (sim_sliceBounds true ln c c' hcc hl1 hh1) ?_
      rintro τ2 ⟨l, h, m⟩ ⟨l', h', m'⟩ h2 ⟨e1, e2, e3, e4, e5⟩
      cases e1; cases e2; dsimp only at e3 e4
      refine Sim.andThen (sim_sizeOf elem) ?_
      rintro τ3 n _ h3 ⟨rfl, _⟩
      refine Sim.pure _ _ _ ?_
      rw [e3, e4]
      have ht3 := h3 _ _ _ (h2 _ _ _ (h1 _ _ _ ht))
      have hk : i = none ∨ l = 0 := by
        rcases hc with h | h
        · exact .inl (h _ _ ht)
        · exact .inr (e5 h)
      rcases hk with rfl | rfl
      · have hcap : c = c' := hcap
        subst hcap
        by_cases hl0 : c = l
        · rw [if_pos hl0, if_pos hl0]
          exact .sl _ _ _ _ _ _ none ht3 rfl
        · rw [if_neg hl0, if_neg hl0]
          simp only [Option.map_some, add_eq]
          exact .sl _ _ _ _ _ _ none ht3 rfl
      · simp only [Option.map_some, add_eq, Nat.zero_mul, Nat.add_zero, ite_self, Nat.sub_zero]
        exact .sl _ _ _ _ _ _ i ht3 hcap
    | _ => exact Sim.halt _ _ _
  | pointer arr =>
    cases hx with
    | ptr k r o i t =>
      have hi : i = none := hc _ _ t
      subst hi
      refine Sim.andThen (R := fun τ' a b => a = ⟨k, o, none⟩ ∧ b = ⟨r, o, none⟩) (Sim.pure _ _ _ ⟨rfl, rfl⟩) ?_
      rintro τ2 _ _ h2 ⟨rfl, rfl⟩
      refine Sim.andThen (sim_underlying arr) ?_
      rintro τ3 d _ h3 ⟨rfl, _⟩
      cases d with
      | array n elem => exact sim_arrTail n elem (hl1.mono (h2.trans h3)) (hh1.mono (h2.trans h3)) (h3 _ _ _ (h2 _ _ _ (h1 _ _ _ t)))
      | _ => exact Sim.halt _ _ _
    | ptr0 => exact Sim.never _ _ _ (Never.bind (by unfold asAddr; exact never_runtime _) _)
    | _ => exact Sim.halt _ _ _
  | _ => cases hx <;> exact Sim.halt _ _ _

theorem sim_underlying_then {α β : Type} {R : Rel → α → β → Prop} (t : TypeId) {f : TypeDesc → Sem α} {g : TypeDesc → Sem β} (h : ∀ d, P.underlying t = some d → Sim P R τ (f d) (g d)) : Sim P R τ (underlying t >>= f) (underlying t >>= g) := by
  refine Sim.program _ _ _ ?_
  show Sim P R τ ((match P.underlying t with | some d => (Sem.pure d : Sem TypeDesc) | none => stuck "no such type").bind f) ((match P.underlying t with | some d => (Sem.pure d : Sem TypeDesc) | none => stuck "no such type").bind g)
  cases hd : P.underlying t with
  | none => exact Sim.halt _ _ _
  | some d => exact h d hd
theorem sim_sliceAt (t : TypeId) {x x' : Value} (hx : VR τ x x') {lo lo' hi hi' : Option Value} (hl : OV τ lo lo') (hh : OV τ hi hi') (hc : cutOk τ x lo) :
    Sim P RV τ (Instr.sliceAt t x lo hi none) (Instr.sliceAt t x' lo' hi' none) := by
  refine sim_underlying_then t (fun d hd => ?_)
  have other : Sim P RV τ (Instr.slice t x lo hi none) (Instr.slice t x' lo' hi' none) := sim_slice t hx hl hh hc
  cases d with
  | array n elem =>
    cases hx with
    | ptr k r o i t =>
      have hi : i = none := hc _ _ t
      subst hi
      exact sim_arrTail n elem hl hh t
    | _ => exact Sim.halt _ _ _
  | _ => exact other

/-- The bounds of a cut that tells its room. -/
theorem sim_sliceBounds3 (b : Bool) (len cap cap' : Nat) (hcap : cap ≤ cap') {lo lo' : Option Value} {hi hi' mx mx' : Value} (hl : OV τ lo lo') (hh : VR τ hi hi') (hm : VR τ mx mx') :
    Sim P (fun τ (u v : Nat × Nat × Nat) => u = v ∧ u.2.2 ≤ cap ∧ ((lo = none ∨ ∃ k, lo = some (.int k 0)) → u.1 = 0)) τ (Instr.sliceBounds b len cap lo (some hi) (some mx)) (Instr.sliceBounds b len cap' lo' (some hi') (some mx')) := by
  have bd : ∀ (τ : Rel) {x x' : Value} (hx : VR τ x x') (y y' : Nat) (hy : y ≤ y') (c : BoundsCode), Sim P (fun _ a b => a = b ∧ a ≤ y) τ (Instr.sliceBound x y c) (Instr.sliceBound x' y' c) := by
    intro τ x x' hx y y' hy c
    refine Sim.andThen (sim_asIntOf hx) ?_
    rintro τ1 ⟨k, n⟩ _ h1 rfl
    dsimp only
    by_cases h : 0 ≤ n ∧ n ≤ y
    · rw [if_pos h, if_pos ⟨h.1, by have := h.2; omega⟩]
      exact Sim.pure _ _ _ ⟨rfl, by have := h.2; omega⟩
    · rw [if_neg h]
      exact Sim.never _ _ _ (never_bounds _ _ _ _)
  have tail : ∀ (τ1 : Rel) (h m : Nat), τ.le τ1 → m ≤ cap → Sim P (fun τ (u v : Nat × Nat × Nat) => u = v ∧ u.2.2 ≤ cap ∧ ((lo = none ∨ ∃ k, lo = some (.int k 0)) → u.1 = 0)) τ1
      (do let l ← (match lo with | some v => Instr.sliceBound v h .slice3C | none => pure 0); pure (l, h, m)) (do let l ← (match lo' with | some v => Instr.sliceBound v h .slice3C | none => pure 0); pure (l, h, m)) := by
    intro τ1 h m h1 hmc
    have hl1 := hl.mono h1
    cases lo with
    | none =>
      cases lo' with
      | none => exact Sim.pure _ _ _ ⟨rfl, hmc, fun _ => rfl⟩
      | some v => exact hl1.elim
    | some u =>
      cases lo' with
      | none => exact hl1.elim
      | some v =>
        refine Sim.andThen (sim_sliceBound hl1 h .slice3C (Nat.le_refl _)) ?_
        rintro τ2 a _ h2 ⟨rfl, hn⟩
        exact Sim.pure _ _ _ ⟨rfl, hmc, fun h => by
          rcases h with h | ⟨k, h⟩
          · cases h
          · cases h; exact hn k 0 rfl⟩
  have : Sim P (fun τ (u v : Nat × Nat × Nat) => u = v ∧ u.2.2 ≤ cap ∧ ((lo = none ∨ ∃ k, lo = some (.int k 0)) → u.1 = 0)) τ
      (do let m ← Instr.sliceBound mx cap (if b then .slice3Acap else .slice3Alen); let h ← Instr.sliceBound hi m .slice3B; let l ← (match lo with | some v => Instr.sliceBound v h .slice3C | none => pure 0); pure (l, h, m))
      (do let m ← Instr.sliceBound mx' cap' (if b then .slice3Acap else .slice3Alen); let h ← Instr.sliceBound hi' m .slice3B; let l ← (match lo' with | some v => Instr.sliceBound v h .slice3C | none => pure 0); pure (l, h, m)) := by
    refine Sim.andThen (bd τ hm cap cap' hcap _) ?_
    rintro τ1 m _ h1 ⟨rfl, hmc⟩
    refine Sim.andThen (bd τ1 (hh.mono h1) m m (Nat.le_refl _) _) ?_
    rintro τ2 h _ h2 ⟨rfl, _⟩
    exact tail τ2 h m (h1.trans h2) hmc
  cases lo <;> cases lo' <;> exact this

theorem sim_slice3 (t : TypeId) {x x' : Value} (hx : VR τ x x') {lo lo' : Option Value} {hi hi' mx mx' : Value} (hl : OV τ lo lo') (hh : VR τ hi hi') (hm : VR τ mx mx') (hc : cutOk τ x lo) (hs : ∃ e, P.underlying t = some (.slice e)) :
    Sim P RV τ (Instr.sliceAt t x lo (some hi) (some mx)) (Instr.sliceAt t x' lo' (some hi') (some mx')) := by
  obtain ⟨e, hs⟩ := hs
  refine sim_underlying_then t (fun d hd => ?_)
  rw [hs] at hd
  cases hd
  refine Sim.andThen (sim_underlying t) ?_
  rintro τ1 d _ h1 ⟨rfl, hu⟩
  rw [hs] at hu
  cases hu
  have hl1 := hl.mono h1
  have hh1 := hh.mono h1
  have hm1 := hm.mono h1
  cases hx with
  | sl0 ln c =>
    refine Sim.andThen (sim_sliceBounds3 true ln c c (Nat.le_refl _) hl1 hh1 hm1) ?_
    rintro τ2 ⟨l, h, m⟩ _ h2 ⟨rfl, e3, e5⟩
    refine Sim.andThen (sim_sizeOf e) ?_
    rintro τ3 n _ h3 ⟨rfl, _⟩
    refine Sim.pure _ _ _ ?_
    simp only [Option.map_none, ite_self]
    exact .sl0 _ _
  | sl k r o ln c c' i ht hcap =>
    have hcc : c ≤ c' := by
      cases i with
      | none => exact Nat.le_of_eq hcap
      | some q => exact hcap.1
    refine Sim.andThen (sim_sliceBounds3 true ln c c' hcc hl1 hh1 hm1) ?_
    rintro τ2 ⟨l, h, m⟩ _ h2 ⟨rfl, e3, e5⟩
    dsimp only at e3 e5
    refine Sim.andThen (sim_sizeOf e) ?_
    rintro τ3 n _ h3 ⟨rfl, _⟩
    refine Sim.pure _ _ _ ?_
    have ht3 := h3 _ _ _ (h2 _ _ _ (h1 _ _ _ ht))
    have hk : i = none ∨ l = 0 := by
      rcases hc with h | h
      · exact .inl (h _ _ ht)
      · exact .inr (e5 h)
    rcases hk with rfl | rfl
    · by_cases hl0 : m = l
      · rw [if_pos hl0, if_pos hl0]
        exact .sl _ _ _ _ _ _ none ht3 rfl
      · rw [if_neg hl0, if_neg hl0]
        simp only [Option.map_some, add_eq]
        exact .sl _ _ _ _ _ _ none ht3 rfl
    · simp only [Option.map_some, add_eq, Nat.zero_mul, Nat.add_zero, ite_self, Nat.sub_zero]
      refine .sl _ _ _ _ _ _ i ht3 ?_
      cases i with
      | none => exact rfl
      | some q =>
        obtain ⟨mm, z⟩ := q
        refine ⟨Nat.le_refl _, ?_⟩
        have h1 : m * z ≤ c' * z := Nat.mul_le_mul_right _ (Nat.le_trans e3 hcc)
        have := hcap.2
        omega
  | _ => exact Sim.halt _ _ _

theorem sim_lenB (ts : Array TypeId) (t : TypeId) {xs ys : Array Value} (h : AR τ xs ys) : Sim P RV τ (Builtin.len_ ts t xs) (Builtin.len_ ts t ys) := by
  unfold Builtin.len_
  cases hx : xs[0]? with
  | none =>
    cases ts[0]? <;> exact Sim.halt _ _ _
  | some v =>
    obtain ⟨v', e, hv⟩ := h.get hx
    rw [e]
    cases ht : ts[0]? with
    | none => exact Sim.halt _ _ _
    | some u =>
      refine Sim.andThen (sim_underlying u) ?_
      rintro τ1 d _ h1 ⟨rfl, hu⟩
      have hv1 := hv.mono h1
      have arr : ∀ a, Sim P RV τ1 (do
          let .array n _ ← underlying a | stuck "len: pointer to array expected"
          pure (goInt n)) (do
          let .array n _ ← underlying a | stuck "len: pointer to array expected"
          pure (goInt n)) := by
        intro a
        refine Sim.andThen (sim_underlying a) ?_
        rintro τ2 d _ h2 ⟨rfl, _⟩
        split
        · exact Sim.pure _ _ _ (.int _ _)
        · exact Sim.halt _ _ _
      cases d with
      | array n e => exact Sim.pure _ _ _ (.int _ _)
      | pointer a => exact arr a
      | string => cases hv1 <;> first | exact Sim.pure _ _ _ (.int _ _) | exact Sim.halt _ _ _
      | slice a => cases hv1 <;> first | exact Sim.pure _ _ _ (.int _ _) | exact Sim.halt _ _ _
      | map a b =>
        cases hv1 with
        | map0 => exact Sim.pure _ _ _ (.int _ _)
        | map k r i ht =>
          refine Sim.getObj _ _ _ _ _ _ ht ?_
          intro o o' ho
          cases ho with
          | map es fs c he =>
            refine Sim.pure _ _ _ ?_
            rw [show es.size = fs.size from he.1]
            exact .int _ _
          | _ => exact Sim.halt _ _ _
        | _ => exact Sim.halt _ _ _
      | chan a b => cases hv1 <;> first | exact Sim.pure _ _ _ (.int _ _) | exact Sim.halt _ _ _
      | _ => cases hv1 <;> exact Sim.halt _ _ _
end ops
end Go.Ev
namespace Go.Ev
open Go.RowKit
set_option linter.unusedVariables false
set_option linter.unusedSimpArgs false

/-- What an operation answers. -/
inductive NR (τ : Rel) : Next → Next → Prop
  | value (v v' : Value) : VR τ v v' → NR τ (.value v) (.value v')
  | skip : NR τ .skip .skip
  | enter (f : FuncId) (xs ys : Array Value) : AR τ xs ys → NR τ (.enter f xs) (.enter f ys)

def bodyOk (P : Program) (f : FuncId) : Bool := match P.funcs[f]? with
  | some fn => fn.body.isSome && !(fn.name == "runtime.NumGoroutine")
  | none => false
def methodOk (P : Program) (t : TypeId) (name : String) : Option FuncId := match P.info? t with
  | some i => match i.methods.find? (·.name == name) with
    | some m => if m.path.toList.isEmpty then match m.func with
        | some (f, true) => match P.underlying t with | some (.pointer _) => some f | _ => none
        | _ => none
      else none
    | none => none
  | none => none
def nilCmp : Value → Value → Bool
  | .pointer (some _), .pointer none => true
  | .slice (some _) _ _, .slice none _ _ => true
  | .map (some _), .map none => true
  | .func (.yield _) .., .nilFunc => false
  | .func .., .nilFunc => true
  | .iface .., .nilIface => true
  | .pointer none, .pointer (some _) => true
  | _, _ => false

section ops
variable {P : Program} {τ : Rel}

theorem sim_prog2 {α β : Type} {R : Rel → α → β → Prop} {f : Program → Sem α} {g : Program → Sem β} (h : Sim P R τ (f P) (g P)) : Sim P R τ (program >>= f) (program >>= g) := Sim.program _ _ _ h
theorem sim_v {s s' : Sem Value} (h : Sim P RV τ s s') : Sim P NR τ (do pure (.value (← s))) (do pure (.value (← s'))) := by
  refine Sim.andThen h ?_
  intro τ1 a b h1 hv
  exact Sim.pure _ _ _ (.value _ _ hv)
theorem sim_u {s s' : Sem Unit} (h : Sim P RU τ s s') : Sim P NR τ (do s; pure .skip) (do s'; pure .skip) := by
  refine Sim.andThen h ?_
  intro τ1 a b h1 hv
  exact Sim.pure _ _ _ .skip

theorem sim_callFunc (f : FuncId) (hb : bodyOk P f = true) {xs ys : Array Value} (h : AR τ xs ys) : Sim P NR τ (callFunc f xs) (callFunc f ys) := by
  unfold callFunc
  refine sim_prog2 ?_
  unfold bodyOk at hb
  cases hf : P.funcs[f]? with
  | none => rw [hf] at hb; cases hb
  | some fn =>
    rw [hf] at hb
    simp only [Bool.and_eq_true, Bool.not_eq_true'] at hb
    have e1 : fn.body.isNone = false := by cases hx : fn.body with | none => rw [hx] at hb; simp at hb | some c => rfl
    simp only [hb.2, e1, Bool.false_eq_true, if_false]
    exact Sim.pure _ _ _ (.enter _ _ _ h)

theorem sim_method (fuel : Nat) (t : TypeId) (name : String) {f : FuncId} (hm : methodOk P t name = some f) {v v' : Value} (hv : VR τ v v') :
    Sim P (fun τ a b => a.1 = f ∧ b.1 = f ∧ VR τ a.2 b.2) τ (method (fuel + 1) t v name) (method (fuel + 1) t v' name) := by
  unfold method
  refine Sim.andThen (sim_typeInfo t) ?_
  rintro τ1 i _ h1 ⟨rfl, hi⟩
  unfold methodOk at hm
  rw [hi] at hm
  dsimp only at hm
  cases hf : i.methods.find? (·.name == name) with
  | none => rw [hf] at hm; cases hm
  | some m =>
    rw [hf] at hm
    dsimp only at hm
    split at hm
    · rename_i hp
      have hp0 : m.path.toList = [] := by simpa using hp
      split at hm
      · rename_i _ f2 hfn
        split at hm
        · rename_i _ e hu
          cases hm
          simp only [hp0, follow, pure_bind, hfn]
          refine Sim.andThen (R := RV) ?_ ?_
          · unfold receiverAt
            refine Sim.andThen (sim_underlying t) ?_
            rintro τ2 d _ h2 ⟨rfl, hd⟩
            rw [hu] at hd
            cases hd
            exact Sim.pure _ _ _ (hv.mono (h1.trans h2))
          · intro τ2 a b h2 hab
            exact Sim.pure _ _ _ ⟨rfl, rfl, hab⟩
        · cases hm
      · cases hm
    · cases hm

theorem sim_callMethod (t : TypeId) (name : String) {f : FuncId} (hm : methodOk P t name = some f) (hb : bodyOk P f = true) {v v' : Value} (hv : VR τ v v') {xs ys : Array Value} (h : AR τ xs ys) :
    Sim P NR τ (callMethod (.iface t v) name xs) (callMethod (.iface t v') name ys) := by
  unfold callMethod
  dsimp only
  refine sim_prog2 ?_
  refine Sim.andThen (sim_method (P.types.size + 99) t name hm hv) ?_
  rintro τ1 ⟨a, x⟩ ⟨b, y⟩ h1 ⟨rfl, hb2, hx⟩
  cases hb2
  exact sim_callFunc _ hb ((AR.one hx).append (h.mono h1))

theorem sim_eqNil (t : TypeId) {x x' y y' : Value} (hx : VR τ x x') (hy : VR τ y y') (hn : nilCmp x y = true) : Sim P RE τ (Op.equal t x y) (Op.equal t x' y') := by
  unfold Op.equal Op.maxDepth
  show Sim P RE τ (Op.equalIn (9999 + 1) t x y) (Op.equalIn (9999 + 1) t x' y')
  unfold Op.equalIn
  refine Sim.andThen (sim_underlying t) ?_
  rintro τ1 d _ h1 ⟨rfl, hu⟩
  cases hx <;> first | (simp [nilCmp] at hn; done) | skip
  all_goals (cases hy <;> first | (simp [nilCmp] at hn; done) | skip)
  all_goals (cases d <;> first | exact Sim.halt _ _ _ | exact Sim.pure _ _ _ rfl)
end ops
end Go.Ev
namespace Go.Ev
open Go.RowKit
set_option linter.unusedVariables false
set_option linter.unusedSimpArgs false

def elemZero (P : Program) (t : TypeId) : Bool := match P.underlying t with
  | some (.slice e) => zeroOk P e
  | _ => true
/-- What the laws here speak of. -/
def kindOk (P : Program) (ρ : Operand → Value) (o : Oper) : Bool := match o.op with
  | .move _ | .assign _ | .pick _ _ _ | .box _ _ | .load _ _ | .store _ _ _ | .extract _ _ | .field _ _ _ | .makeInterface _ _ | .indexAddr _ _ _ | .index _ _ _ | .makeMap _ _ => true
  | .slice _ _ _ _ none => true
  | .slice t _ _ (some _) (some _) => match P.underlying t with | some (.slice _) => true | _ => false
  | .alloc t => zeroOk P t
  | .build t _ => zeroOk P t
  | .buildSlice t _ _ => elemZero P t
  | .makeSlice t _ _ => elemZero P t
  | .fieldAddr s _ f => fieldOk P s f
  | .typeAssert _ _ u _ => zeroOk P u
  | .makeFunc (.func _) _ _ => true
  | .nilCheck x => match ρ x with | .func (.method _) _ _ => false | _ => true
  | .binOp .eql _ x y _ => nilCmp (ρ x) (ρ y)
  | .binOp .neq _ x y _ => nilCmp (ρ x) (ρ y)
  | .call c => match c.callee with
    | .builtin .len => true
    | .value f => match ρ f with | .func (.func g) _ _ => bodyOk P g | _ => false
    | .invoke r name => match ρ r with | .iface t _ => (methodOk P t name).any (bodyOk P) | _ => false
    | _ => false
  | _ => false

section ops
variable {P : Program} {τ : Rel}

theorem map_ar {ρ ρ' : Operand → Value} (xs : Array Operand) (h : ∀ x ∈ xs, VR τ (ρ x) (ρ' x)) : AR τ (xs.map ρ) (xs.map ρ') := by
  refine ⟨by simp, fun i v v' h1 h2 => ?_⟩
  rw [Array.getElem?_map] at h1 h2
  cases hx : xs[i]? with
  | none => rw [hx] at h1; cases h1
  | some x =>
    rw [hx] at h1 h2
    cases h1; cases h2
    exact h x (Array.mem_of_getElem? hx)
theorem map_pr {ρ ρ' : Operand → Value} : ∀ (l : List (Nat × Operand)), (∀ x ∈ l, VR τ (ρ x.2) (ρ' x.2)) → PR τ (l.map fun x => (x.1, ρ x.2)) (l.map fun x => (x.1, ρ' x.2))
  | [], _ => trivial
  | x :: l, h => ⟨rfl, h x (by simp), map_pr l (fun y hy => h y (by simp [hy]))⟩
theorem map_ov {ρ ρ' : Operand → Value} (x : Option Operand) (h : ∀ y, x = some y → VR τ (ρ y) (ρ' y)) : OV τ (x.map ρ) (x.map ρ') := by
  cases x with
  | none => trivial
  | some y => exact h y rfl

theorem sim_exec (ρ ρ' : Operand → Value) (o : Oper) (h : ∀ x ∈ o.op.operands, VR τ (ρ x) (ρ' x)) (hk : kindOk P ρ o = true)
    (hcut : ∀ t x lo hi mx, o.op = .slice t x lo hi mx → cutOk τ (ρ x) (lo.map ρ)) : Sim P NR τ (execOp ρ o) (execOp ρ' o) := by
  obtain ⟨dst, op, type, pos, after, guard⟩ := o
  dsimp only at h hcut
  unfold kindOk at hk
  unfold execOp
  cases op with
  | move x => exact Sim.pure _ _ _ (.value _ _ (h x (by simp [Op.operands])))
  | assign x => exact Sim.pure _ _ _ (.value _ _ (h x (by simp [Op.operands])))
  | pick c a b =>
    refine Sim.andThen (sim_asBool (h c (by simp [Op.operands]))) ?_
    rintro τ1 q _ h1 rfl
    refine Sim.pure _ _ _ (.value _ _ ?_)
    cases q
    · exact (h b (by simp [Op.operands])).mono h1
    · exact (h a (by simp [Op.operands])).mono h1
  | box t x => exact sim_v (sim_box t (h x (by simp [Op.operands])))
  | load t x => exact sim_v (sim_loadAt t (h x (by simp [Op.operands])))
  | store t x y => exact sim_u (sim_storeAt t (h x (by simp [Op.operands])) (h y (by simp [Op.operands])))
  | extract x n => exact sim_v (sim_extract (h x (by simp [Op.operands])) n)
  | field t x n => exact sim_v (sim_field t (h x (by simp [Op.operands])) n)
  | makeInterface t x => exact sim_v (sim_makeInterface t (h x (by simp [Op.operands])))
  | indexAddr t x i => exact sim_v (sim_indexAt t (h x (by simp [Op.operands])) (h i (by simp [Op.operands])))
  | index t x i => exact sim_v (sim_index t (h x (by simp [Op.operands])) (h i (by simp [Op.operands])))
  | makeMap t r =>
    refine sim_v (sim_makeMap t (r := r.map ρ) (r' := r.map ρ') ?_ ?_)
    · intro v hv
      cases r with
      | none => cases hv
      | some x => cases hv; exact ⟨_, rfl, h x (by simp [Op.operands])⟩
    · intro hv
      cases r with
      | none => rfl
      | some x => cases hv
  | alloc t => exact sim_v (sim_alloc t hk)
  | build t ps =>
    refine sim_v (sim_build t hk ?_)
    rw [Array.toList_map, Array.toList_map]
    exact map_pr ps.toList (fun x hx => h x.2 (by simp [Op.operands]; exact ⟨x.1, by simpa using hx⟩))
  | buildSlice t n ps =>
    refine sim_v (sim_buildSlice t n (fun e he => ?_) ?_)
    · have hk : elemZero P t = true := hk
      unfold elemZero at hk; rw [he] at hk; exact hk
    rw [Array.toList_map, Array.toList_map]
    exact map_pr ps.toList (fun x hx => h x.2 (by simp [Op.operands]; exact ⟨x.1, by simpa using hx⟩))
  | makeSlice t l c =>
    refine sim_v (sim_makeSlice t (fun e he => ?_) (h l (by simp [Op.operands])) (h c (by simp [Op.operands])))
    have hk : elemZero P t = true := hk
    unfold elemZero at hk; rw [he] at hk; exact hk
  | slice t x lo hi mx =>
    cases mx with
    | some m =>
      cases hi with
      | none => cases hk
      | some hi =>
        have hk : (match P.underlying t with | some (.slice _) => true | _ => false) = true := hk
        refine sim_v (sim_slice3 t (h x (by simp [Op.operands])) (map_ov lo (fun y hy => h y (by simp [Op.operands, hy]))) (h hi (by simp [Op.operands])) (h m (by simp [Op.operands])) (hcut t x lo (some hi) (some m) rfl) ?_)
        split at hk
        · rename_i e he; exact ⟨e, he⟩
        · cases hk
    | none =>
      exact sim_v (sim_sliceAt t (h x (by simp [Op.operands])) (map_ov lo (fun y hy => h y (by simp [Op.operands, hy]))) (map_ov hi (fun y hy => h y (by simp [Op.operands, hy]))) (hcut t x lo hi none rfl))
  | fieldAddr s x n => exact sim_v (sim_fieldAt s (h x (by simp [Op.operands])) n hk)
  | typeAssert x a b c => exact sim_v (sim_typeAssert a b c hk (h x (by simp [Op.operands])))
  | makeFunc fn xs ys =>
    cases fn with
    | func f =>
      refine sim_v (Sim.pure _ _ _ ?_)
      have a1 := map_ar xs (fun x hx => h x (by simp [Op.operands, hx]))
      have a2 := map_ar ys (fun x hx => h x (by simp [Op.operands, hx]))
      exact .func _ _ _ _ _ (fun l h => by cases h) a1.1 a2.1 a1.2 a2.2
    | _ => cases hk
  | nilCheck x =>
    have hx := h x (by simp [Op.operands])
    have hk : (match ρ x with | .func (.method _) _ _ => false | _ => true) = true := hk
    dsimp only
    generalize ρ x = a at hx hk
    generalize ρ' x = b at hx
    cases hx with
    | ptr0 => exact Sim.never _ _ _ (never_runtime _)
    | nilIface => exact Sim.never _ _ _ (never_runtime _)
    | nilFunc => exact Sim.never _ _ _ (never_runtime _)
    | func fn xs ys us vs hf h1 h2 i1 i2 =>
      cases fn with
      | method n => cases hk
      | _ => exact Sim.pure _ _ _ (.value _ _ (.func _ _ _ _ _ hf h1 h2 i1 i2))
    | sym l xs ys v' h hb => cases b <;> first | (cases hb; done) | exact Sim.pure _ _ _ (.value _ _ (.sym l xs ys _ h hb))
    | bool b => exact Sim.pure _ _ _ (.value _ _ (.bool b))
    | int k n => exact Sim.pure _ _ _ (.value _ _ (.int k n))
    | float k b => exact Sim.pure _ _ _ (.value _ _ (.float k b))
    | complex k a b => exact Sim.pure _ _ _ (.value _ _ (.complex k a b))
    | string s => exact Sim.pure _ _ _ (.value _ _ (.string s))
    | ptr k r o i h => exact Sim.pure _ _ _ (.value _ _ (.ptr k r o i h))
    | sl0 l c => exact Sim.pure _ _ _ (.value _ _ (.sl0 l c))
    | sl k r o l c c' i h hc => exact Sim.pure _ _ _ (.value _ _ (.sl k r o l c c' i h hc))
    | map0 => exact Sim.pure _ _ _ (.value _ _ .map0)
    | map k r i h => exact Sim.pure _ _ _ (.value _ _ (.map k r i h))
    | chan0 => exact Sim.pure _ _ _ (.value _ _ .chan0)
    | iface t v v' hv => exact Sim.pure _ _ _ (.value _ _ (.iface t v v' hv))
    | agg xs ys h hv => exact Sim.pure _ _ _ (.value _ _ (.agg xs ys h hv))
    | tuple xs ys h hv => exact Sim.pure _ _ _ (.value _ _ (.tuple xs ys h hv))
  | binOp op t x y u =>
    have hx := h x (by simp [Op.operands])
    have hy := h y (by simp [Op.operands])
    have key : nilCmp (ρ x) (ρ y) = true → ∀ (neg : Bool), (op = if neg then .neq else .eql) → Sim P NR τ (do pure (.value (← (do eqGuard op t x y (ρ x) (ρ y); binOp op t (ρ x) (ρ y))))) (do pure (.value (← (do eqGuard op t x y (ρ' x) (ρ' y); binOp op t (ρ' x) (ρ' y))))) := by
      intro hn neg hop
      generalize ρ x = a at hx hn
      generalize ρ' x = b at hx
      generalize ρ y = c at hy hn
      generalize ρ' y = d at hy
      have he := sim_eqNil (P := P) t hx hy hn
      refine sim_v ?_
      refine Sim.andThen (R := RU) ?_ ?_
      · cases neg <;> (subst hop; cases hx <;> cases hy <;> first | (simp [nilCmp] at hn; done) | exact Sim.pure _ _ _ trivial)
      · intro τ1 _ _ h1 _
        have he1 := sim_eqNil (P := P) t (hx.mono h1) (hy.mono h1) hn
        have fin : ∀ (neg : Bool), Sim P RV τ1 (do pure (.bool (xor neg (← Op.equal t a c)))) (do pure (.bool (xor neg (← Op.equal t b d)))) := by
          intro neg
          refine Sim.andThen he1 ?_
          rintro τ2 q _ h2 rfl
          exact Sim.pure _ _ _ (.bool _)
        cases neg
        · subst hop
          have := fin false
          simp only [Bool.false_xor] at this
          cases hx <;> cases hy <;> first | (simp [nilCmp] at hn; done) | exact this
        · subst hop
          have := fin true
          simp only [Bool.true_xor] at this
          cases hx <;> cases hy <;> first | (simp [nilCmp] at hn; done) | exact this
    cases op <;> first | (cases hk; done) | skip
    · exact key hk false rfl
    · exact key hk true rfl
  | call c =>
    obtain ⟨callee, args, ats⟩ := c
    cases callee with
    | builtin b =>
      cases b <;> first | (cases hk; done) | skip
      refine Sim.andThen (R := fun τ u v => AR τ u.args v.args ∧ u.target = .builtin .len ats type (args.map fun | .const _ => true | _ => false) ∧ v.target = .builtin .len ats type (args.map fun | .const _ => true | _ => false)) (Sim.pure _ _ _ ⟨map_ar args (fun x hx => h x (by simp [Op.operands, Call.operands, hx])), rfl, rfl⟩) ?_
      rintro τ1 ⟨_, us⟩ ⟨_, vs⟩ h1 ⟨ha, e1, e2⟩
      dsimp only at e1 e2 ha
      subst e1 e2
      exact sim_v (sim_lenB _ _ ha)
    | value f =>
      have hf := h f (by simp [Op.operands, Call.operands])
      have ha := map_ar (τ := τ) (ρ := ρ) (ρ' := ρ') args (fun x hx => h x (by simp [Op.operands, Call.operands, hx]))
      have hk : (match ρ f with | .func (.func g) _ _ => bodyOk P g | _ => false) = true := hk
      dsimp only [resolve]
      generalize ρ f = a at hf hk
      generalize ρ' f = b at hf
      cases hf <;> first | (cases hk; done) | skip
      rename_i fn xs ys us vs hfn h1 h2 i1 i2
      cases fn <;> first | (cases hk; done) | skip
      rename_i g
      exact sim_callFunc g hk ((AR.append ⟨h1, i1⟩ ha).append ⟨h2, i2⟩)
    | invoke r name =>
      have hf := h r (by simp [Op.operands, Call.operands])
      have ha := map_ar (τ := τ) (ρ := ρ) (ρ' := ρ') args (fun x hx => h x (by simp [Op.operands, Call.operands, hx]))
      have hk : (match ρ r with | .iface t _ => (methodOk P t name).any (bodyOk P) | _ => false) = true := hk
      dsimp only [resolve]
      generalize ρ r = a at hf hk
      generalize ρ' r = b at hf
      cases hf <;> first | (cases hk; done) | skip
      rename_i t v v' hv
      cases hm : methodOk P t name with
      | none => simp [hm] at hk
      | some g =>
        simp only [hm, Option.any_some] at hk
        have e0 : ∀ (x : Value) (xs : Array Value), (#[x] ++ xs)[0]? = some x := fun x xs => by simp [Array.getElem?_append]
        have e1 : ∀ (x : Value) (xs : Array Value), (#[x] ++ xs).extract 1 (#[x] ++ xs).size = xs := fun x xs => by
          apply Array.ext_getElem?
          intro i
          rw [Array.getElem?_extract]
          by_cases hi : i < xs.size
          · rw [if_pos (by simp; omega), Array.getElem?_append_right (by simp)]
            simp
          · rw [if_neg (by simp; omega)]
            simp; omega
        simp only [pure_bind, invoke, e0, e1]
        exact sim_callMethod t name hm hk hv ha
  | _ => cases hk
end ops
end Go.Ev
