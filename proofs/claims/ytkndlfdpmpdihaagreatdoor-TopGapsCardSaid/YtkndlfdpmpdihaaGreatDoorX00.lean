/- A run on a small closed world stands for the run on any world that holds the same blocks elsewhere: what it means that values, blocks, worlds and computations agree. Two computations that agree, step by step; what one does on the small world the other does on the great one. The model's operations ag Conditions: those that each statement shows. -/
import Derived.Calls
import Derived.Orders
import Derived.LoopN
import Derived.Below
import Derived.Laws.Sem
namespace Go.Ev
open Go.RowKit
set_option linter.unusedVariables false
set_option linter.unusedSimpArgs false
structure Rel where
 r:Nat→Nat→Option (Nat×Nat)→Prop
 s:Value→Value→Prop
instance :CoeFun Rel (fun _=>Nat→Nat→Option (Nat×Nat)→Prop):=⟨Rel.r⟩
structure Rel.le (τ τ':Rel):Prop where
 r:∀ k r i,τ k r i→τ' k r i
 s:∀ e v,τ.s e v→τ'.s e v
instance (τ τ':Rel):CoeFun (τ.le τ') (fun _=>∀ k r i,τ k r i→τ' k r i):=⟨Rel.le.r⟩
theorem Rel.le.refl (τ:Rel):τ.le τ:=⟨fun _ _ _ h=>h,fun _ _ h=>h⟩
theorem Rel.le.trans {a b c:Rel} (h:a.le b) (h2:b.le c):a.le c:=⟨fun k r i x=>h2.r k r i (h.r k r i x),fun e v x=>h2.s e v (h.s e v x)⟩
def sb:Value→Bool
 | .int _ _=>true
 | .bool _=>true
 | _=>false
def sb2:Value→Bool
 | .int _ _=>true
 | .bool _=>true
 | .slice _ _ _=>true
 | _=>false
theorem sb_sb2 {v:Value} (h:sb v=true):sb2 v=true:=by cases v<;>first | rfl | cases h
def capOk (c c' o:Nat):Option (Nat×Nat)→Prop
 | none=>c=c'
 | some (m,z)=>c≤c'∧o+c'*z≤m
inductive VR (τ:Rel):Value→Value→Prop
 | bool (b:Bool):VR τ (.bool b) (.bool b)
 | int (k:IntKind) (n:Int):VR τ (.int k n) (.int k n)
 | float (k:FloatKind) (b:Nat):VR τ (.float k b) (.float k b)
 | complex (k:FloatKind) (a b:Nat):VR τ (.complex k a b) (.complex k a b)
 | string (s:ByteArray):VR τ (.string s) (.string s)
 | ptr0:VR τ (.pointer none) (.pointer none)
 | ptr (k r o:Nat) (i:Option (Nat×Nat)):τ k r i→VR τ (.pointer (some ⟨k,o,none⟩)) (.pointer (some ⟨r,o,none⟩))
 | sl0 (l c:Nat):VR τ (.slice none l c) (.slice none l c)
 | sl (k r o l c c':Nat) (i:Option (Nat×Nat)):τ k r i→capOk c c' o i→VR τ (.slice (some ⟨k,o,none⟩) l c) (.slice (some ⟨r,o,none⟩) l c')
 | map0:VR τ (.map none) (.map none)
 | map (k r:Nat) (i:Option (Nat×Nat)):τ k r i→VR τ (.map (some k)) (.map (some r))
 | chan0:VR τ (.chan none) (.chan none)
 | func (fn:Fn) (xs ys us vs:Array Value):(∀ l,fn≠.yield l)→xs.size=us.size→ys.size=vs.size →
  (∀ (i:Nat) (v v':Value),xs[i]?=some v→us[i]?=some v'→VR τ v v')→(∀ (i:Nat) (v v':Value),ys[i]?=some v→vs[i]?=some v'→VR τ v v')→VR τ (.func fn xs ys) (.func fn us vs)
 | sym (l:Nat) (xs ys:Array Value) (v':Value):τ.s (.func (.yield l) xs ys) v'→sb2 v'=true→VR τ (.func (.yield l) xs ys) v'
 | nilFunc:VR τ .nilFunc .nilFunc
 | iface (t:TypeId) (v v':Value):VR τ v v'→VR τ (.iface t v) (.iface t v')
 | nilIface:VR τ .nilIface .nilIface
 | agg (xs ys:Array Value):xs.size=ys.size→(∀ (i:Nat) (v v':Value),xs[i]?=some v→ys[i]?=some v'→VR τ v v')→VR τ (.agg xs) (.agg ys)
 | tuple (xs ys:Array Value):xs.size=ys.size→(∀ (i:Nat) (v v':Value),xs[i]?=some v→ys[i]?=some v'→VR τ v v')→VR τ (.tuple xs) (.tuple ys)
theorem VR.mono {τ τ':Rel} (hτ:τ.le τ') {v v':Value} (h:VR τ v v'):VR τ' v v':=by
 induction h with
 | bool b=>exact .bool b
 | int k n=>exact .int k n
 | float k b=>exact .float k b
 | complex k a b=>exact .complex k a b
 | string s=>exact .string s
 | ptr0=>exact .ptr0
 | ptr k r o i h=>exact .ptr k r o i (hτ _ _ _ h)
 | sl0 l c=>exact .sl0 l c
 | sl k r o l c c' i h hc=>exact .sl k r o l c c' i (hτ _ _ _ h) hc
 | map0=>exact .map0
 | map k r i h=>exact .map k r i (hτ _ _ _ h)
 | chan0=>exact .chan0
 | func fn xs ys us vs hf h1 h2 _ _ i1 i2=>exact .func fn xs ys us vs hf h1 h2 i1 i2
 | sym l xs ys v' h hb=>exact .sym l xs ys v' (hτ.s _ _ h) hb
 | nilFunc=>exact .nilFunc
 | iface t v v' _ ih=>exact .iface t v v' ih
 | nilIface=>exact .nilIface
 | agg xs ys h _ ih=>exact .agg xs ys h ih
 | tuple xs ys h _ ih=>exact .tuple xs ys h ih
def AR (τ:Rel) (xs ys:Array Value):Prop:=xs.size=ys.size∧∀ (i:Nat) (v v':Value),xs[i]?=some v→ys[i]?=some v'→VR τ v v'
theorem AR.mono {τ τ':Rel} (hτ:τ.le τ') {xs ys:Array Value} (h:AR τ xs ys):AR τ' xs ys:=⟨h.1,fun i v v' a b=>(h.2 i v v' a b).mono hτ⟩
theorem AR.nil (τ:Rel):AR τ #[] #[]:=⟨rfl,fun i v v' h=>by simp at h⟩
theorem AR.push {τ:Rel} {xs ys:Array Value} (h:AR τ xs ys) {v v':Value} (hv:VR τ v v'):AR τ (xs.push v) (ys.push v'):=by
 refine ⟨by simp [h.1],fun i a b ha hb=>?_⟩
 rw [Array.getElem?_push] at ha hb
 rw [h.1] at ha
 by_cases hi:i=ys.size
 ·rw [if_pos hi] at ha hb
  cases ha;cases hb;exact hv
 ·rw [if_neg hi] at ha hb
  exact h.2 i a b ha hb
theorem AR.get {τ:Rel} {xs ys:Array Value} (h:AR τ xs ys) {i:Nat} {v:Value} (hv:xs[i]?=some v):∃ v',ys[i]?=some v'∧VR τ v v':=by
 have hi:=(Array.getElem?_eq_some_iff.1 hv).1
 have hi':i<ys.size:=by rw [←h.1];exact hi
 exact ⟨ys[i],Array.getElem?_eq_getElem hi',h.2 i v _ hv (Array.getElem?_eq_getElem hi')⟩
theorem AR.none {τ:Rel} {xs ys:Array Value} (h:AR τ xs ys) {i:Nat} (hv:xs[i]?=none):ys[i]?=none:=by
 rw [Array.getElem?_eq_none_iff] at hv ⊢;rw [←h.1];exact hv
theorem AR.append {τ:Rel} {xs ys us vs:Array Value} (h:AR τ xs ys) (h2:AR τ us vs):AR τ (xs++us) (ys++vs):=by
 refine ⟨by simp [h.1,h2.1],fun i a b ha hb=>?_⟩
 rw [Array.getElem?_append] at ha hb
 rw [h.1] at ha
 by_cases hi:i<ys.size
 ·rw [if_pos hi] at ha hb;exact h.2 i a b ha hb
 ·rw [if_neg hi] at ha hb;exact h2.2 _ a b ha hb
theorem AR.set {τ:Rel} {xs ys:Array Value} (h:AR τ xs ys) {v v':Value} (hv:VR τ v v') (j:Nat):AR τ (xs.setIfInBounds j v) (ys.setIfInBounds j v'):=by
 refine ⟨by simp [h.1],fun i a b ha hb=>?_⟩
 by_cases hi:j=i
 ·subst hi
  rw [Array.getElem?_setIfInBounds_self] at ha hb
  rw [h.1] at ha
  split at ha<;>simp_all
 ·rw [Array.getElem?_setIfInBounds_ne hi] at ha hb
  exact h.2 i a b ha hb
theorem AR.one {τ:Rel} {v v':Value} (hv:VR τ v v'):AR τ #[v] #[v']:=(AR.nil τ).push hv
theorem VR.agg_ {τ:Rel} {xs ys:Array Value} (h:AR τ xs ys):VR τ (.agg xs) (.agg ys):=.agg xs ys h.1 h.2
theorem VR.tuple_ {τ:Rel} {xs ys:Array Value} (h:AR τ xs ys):VR τ (.tuple xs) (.tuple ys):=.tuple xs ys h.1 h.2
theorem VR.cells {τ:Rel} {v v':Value} (h:VR τ v v'):AR τ v.cells v'.cells:=by
 cases h with
 | agg xs ys h hv=>exact ⟨h,hv⟩
 | bool b=>exact AR.one (.bool b)
 | int k n=>exact AR.one (.int k n)
 | float k b=>exact AR.one (.float k b)
 | complex k a b=>exact AR.one (.complex k a b)
 | string s=>exact AR.one (.string s)
 | ptr0=>exact AR.one .ptr0
 | ptr k r o i h=>exact AR.one (.ptr k r o i h)
 | sl0 l c=>exact AR.one (.sl0 l c)
 | sl k r o l c c' i h hc=>exact AR.one (.sl k r o l c c' i h hc)
 | map0=>exact AR.one .map0
 | map k r i h=>exact AR.one (.map k r i h)
 | chan0=>exact AR.one .chan0
 | func fn xs ys us vs hf h1 h2 i1 i2=>exact AR.one (.func fn xs ys us vs hf h1 h2 i1 i2)
 | sym l xs ys v' h hb=>cases v'<;>first | (cases hb;done) | exact AR.one (.sym l xs ys _ h hb)
 | nilFunc=>exact AR.one .nilFunc
 | iface t v v' ih=>exact AR.one (.iface t v v' ih)
 | nilIface=>exact AR.one .nilIface
 | tuple xs ys h ih=>exact AR.one (.tuple xs ys h ih)
def ER (τ:Rel) (es fs:Array MapEntry):Prop:=es.size=fs.size∧∀ (i:Nat) (e f:MapEntry),es[i]?=some e→fs[i]?=some f→VR τ e.key f.key∧VR τ e.val f.val∧e.born=f.born
inductive OR (τ:Rel):Option (Nat×Nat)→Obj→Obj→Prop
 | cells (cs cs':Array Value) (e:TypeId):AR τ cs cs'→OR τ none (.cells cs e (0,0)) (.cells cs' e (0,0))
 | more (cs cs':Array Value) (e:TypeId) (m z:Nat):cs.size≤m→cs'.size=m→(∀ (i:Nat) (v v':Value),cs[i]?=some v→cs'[i]?=some v'→VR τ v v')→OR τ (some (m,z)) (.cells cs e (z+2,1)) (.cells cs' e (0,0))
 | map (es fs:Array MapEntry) (c:Nat):ER τ es fs→OR τ none (.map es c) (.map fs c)
 | str (s:ByteArray) (p:Nat):OR τ none (.stringIter s p) (.stringIter s p)
theorem ER.mono {τ τ':Rel} (hτ:τ.le τ') {es fs:Array MapEntry} (h:ER τ es fs):ER τ' es fs:=
 ⟨h.1,fun i e f a b=>⟨(h.2 i e f a b).1.mono hτ,(h.2 i e f a b).2.1.mono hτ,(h.2 i e f a b).2.2⟩⟩
theorem OR.mono {τ τ':Rel} (hτ:τ.le τ') {i:Option (Nat×Nat)} {o o':Obj} (h:OR τ i o o'):OR τ' i o o':=by
 cases h with
 | cells cs cs' e h=>exact .cells _ _ _ (h.mono hτ)
 | more cs cs' e m z h1 h2 h=>exact .more _ _ _ _ _ h1 h2 (fun i v v' a b=>(h i v v' a b).mono hτ)
 | map es fs c h=>exact .map _ _ _ (h.mono hτ)
 | str s p=>exact .str s p
def live:Obj→Bool
 | .cells _ _ f=>f==(0,0) || (2≤f.1&&f.2==1)
 | .map _ _=>true
 | .stringIter _ _=>true
 | _=>false
abbrev dead:Obj:=.cells #[] 0 (1,1)
def alive (H:Array Obj) (k:Nat):Prop:=∃ o,H[k]?=some o∧live o=true
def LR (τ:Rel) (xs ys:Array Value):Prop:=∀ (i:Nat) (v:Value),xs[i]?=some v→∃ v',ys[i]?=some v'∧VR τ v v'
theorem LR.mono {τ τ':Rel} (hτ:τ.le τ') {xs ys:Array Value} (h:LR τ xs ys):LR τ' xs ys:=fun i v hv=>let ⟨v',e,r⟩:=h i v hv;⟨v',e,r.mono hτ⟩
theorem AR.lr {τ:Rel} {xs ys:Array Value} (h:AR τ xs ys):LR τ xs ys:=fun i v hv=>h.get hv
abbrev oldB (cs:Array Value) (e:TypeId):Obj:=.cells cs e (0,cs.size+1)
abbrev FM:=Nat→Option Obj
structure Kp (B:FM) (w0 w:World):Prop where
 os:w.os=w0.os
 tape:w.tape=w0.tape
 output:w.output=w0.output
 size:w0.heap.size≤w.heap.size
 block:∀ (j:Nat) (o:Obj),B j=some o→w.heap[j]?=some o
theorem Kp.lt {B:FM} {w0 w:World} (h:Kp B w0 w) {j:Nat} (hj:B j≠none):j<w.heap.size:=by
 cases e:B j with
 | none=>exact absurd e hj
 | some o=>exact (Array.getElem?_eq_some_iff.1 (h.block j o e)).1
theorem Kp.new {B:FM} {w0 w:World} (h:Kp B w0 w):B w.heap.size=none:=by
 cases e:B w.heap.size with
 | none=>rfl
 | some o=>have:=(Array.getElem?_eq_some_iff.1 (h.block _ o e)).1;omega
theorem Kp.alloc {B:FM} {w0 w:World} (h:Kp B w0 w) (o:Obj):Kp B w0 { w with heap:=w.heap.push o }:=by
 refine ⟨h.os,h.tape,h.output,by simpa using Nat.le_succ_of_le h.size,fun j u hj=>?_⟩
 have:=h.lt (j:=j) (by rw [hj];simp)
 show (w.heap.push o)[j]?=_
 rw [Array.getElem?_push,if_neg (by omega)];exact h.block j u hj
theorem Kp.put {B:FM} {w0 w:World} (h:Kp B w0 w) {r:Nat} (hr:B r=none) (o:Obj):Kp B w0 { w with heap:=w.heap.setIfInBounds r o }:=by
 refine ⟨h.os,h.tape,h.output,by simpa using h.size,fun j u hj=>?_⟩
 have hne:r≠j:=fun e=>by rw [e,hj] at hr;cases hr
 show (w.heap.setIfInBounds r o)[j]?=_
 rw [Array.getElem?_setIfInBounds_ne hne];exact h.block j u hj
theorem Kp.setCell {B:FM} {w0 w:World} (h:Kp B w0 w) {a:Addr} (hr:B a.block=none) (v:Value):Kp B w0 (w.setCell a v):=by
 refine ⟨h.os,h.tape,h.output,by simpa [World.setCell] using h.size,fun j u hj=>?_⟩
 have hne:j≠a.block:=fun e=>by rw [←e,hj] at hr;cases hr
 rw [Below.heap_setCell _ _ _ _ hne];exact h.block j u hj
theorem Kp.drewn {B:FM} {w0 w:World} (h:Kp B w0 w) (n:Nat):Kp B w0 { w with drawn:=n }:=⟨h.os,h.tape,h.output,h.size,h.block⟩
theorem Kp.belowed {B:FM} {w0 w w':World} (h:Kp B w0 w) (hb:Below w.heap.size w w'):Kp B w0 w':=
 ⟨hb.os.trans h.os,hb.tape.trans h.tape,hb.output.trans h.output,Nat.le_trans h.size hb.size,fun j o hj=>by rw [hb.block j (h.lt (by rw [hj];simp))];exact h.block j o hj⟩
theorem Kp.below {w0 w:World} (h:Kp (fun r=>w0.heap[r]?) w0 w):Below w0.heap.size w0 w:=by
 refine ⟨h.os,h.tape,h.output,h.size,fun j hj=>?_⟩
 rw [h.block j _ (Array.getElem?_eq_getElem hj)]
 exact (Array.getElem?_eq_getElem hj).symm
theorem Kp.start (w:World):Kp (fun r=>w.heap[r]?) w w:=⟨rfl,rfl,rfl,Nat.le_refl _,fun _ _ h=>h⟩
def sameTy:Value→Value→Bool
 | .int k _,.int k' _=>decide (k=k')
 | .bool _,.bool _=>true
 | _,_=>false
def symTy:Value→Option Value
 | .func (.yield _) _ ⟨[_,t]⟩=>some t
 | _=>none
def binC:BinOp→Nat
 | .add=>0 | .sub=>1 | .mul=>2 | .quo=>3 | .rem=>4 | .and=>5 | .or=>6 | .xor=>7 | .shl=>8 | .shr=>9 | .andNot=>10
 | .eql=>11 | .neq=>12 | .lss=>13 | .leq=>14 | .gtr=>15 | .geq=>16
def binD:Nat→BinOp
 | 0=>.add | 1=>.sub | 2=>.mul | 3=>.quo | 4=>.rem | 5=>.and | 6=>.or | 7=>.xor | 8=>.shl | 9=>.shr | 10=>.andNot
 | 11=>.eql | 12=>.neq | 13=>.lss | 14=>.leq | 15=>.gtr | _=>.geq
theorem binD_C (b:BinOp):binD (binC b)=b:=by cases b<;>rfl
def binI (b:BinOp) (k:IntKind) (x y:Int):Option Value:=match b with
 | .add=>some (.int k (k.wrap (x+y)))
 | .sub=>some (.int k (k.wrap (x-y)))
 | .mul=>some (.int k (k.wrap (x*y)))
 | .quo=>if y=0 then none else some (.int k (k.wrap (x.tdiv y)))
 | .rem=>if y=0 then none else some (.int k (x.tmod y))
 | .and=>some (.int k (k.wrap (BitVec.ofInt k.bits x &&& BitVec.ofInt k.bits y).toNat))
 | .or=>some (.int k (k.wrap (BitVec.ofInt k.bits x ||| BitVec.ofInt k.bits y).toNat))
 | .xor=>some (.int k (k.wrap (BitVec.ofInt k.bits x ^^^ BitVec.ofInt k.bits y).toNat))
 | .andNot=>some (.int k (k.wrap (BitVec.ofInt k.bits x &&& ~~~ BitVec.ofInt k.bits y).toNat))
 | .eql=>some (.bool (x==y))
 | .neq=>some (.bool (x != y))
 | .lss=>some (.bool (decide (x<y)))
 | .leq=>some (.bool (decide (x≤y)))
 | .gtr=>some (.bool (decide (x > y)))
 | .geq=>some (.bool (decide (x≥y)))
 | .shl=>if y<0 then none else some (.int k (k.wrap (x*2^min y.toNat k.bits)))
 | .shr=>if y<0 then none else some (.int k (x.fdiv (2^min y.toNat k.bits)))
def shiftB:BinOp→Bool
 | .shl=>true
 | .shr=>true
 | _=>false
def binV (b:BinOp):Value→Value→Option Value
 | .int k x,.int k' y=>if k=k'∨shiftB b=true then binI b k x y else none
 | _,_=>none
def addN (a b:Int):Int:=if (a.toNat+b.toNat) / 18446744073709551616=0 then (((a.toNat+b.toNat) % 18446744073709551616:Nat):Int) else 18446744073709551615
def symApp:Nat→List Value→Value→Value→Option Value
 | 1,[x,y],.int .u64 (.ofNat b),_=>binV (binD b) x y
 | 2,[.int _ n],_,.int k _=>some (.int k (k.wrap n))
 | 3,[.bool b],_,_=>some (.bool (!b))
 | 4,[.bool a,.bool b],_,_=>some (.bool (a&&b))
 | 5,[.bool a,.bool b],_,_=>some (.bool (a==b))
 | 6,[.int .u64 a,.int .u64 b],_,_=>some (.int .u64 (addN a b))
 | _,_,_,_=>none
def symArg (s:Value→Value→Prop) (x v:Value):Prop:=(x=v∧sb v=true)∨s x v
inductive symArgs (s:Value→Value→Prop):List Value→List Value→Prop
 | nil:symArgs s [] []
 | cons (x v:Value) (xs vs:List Value):symArg s x v→symArgs s xs vs→symArgs s (x::xs) (v::vs)
structure Gl where
 n:Nat
 s:Value→Value→Prop
 dl:List (Value×Bool)
 ty:∀ e v t,s e v→symTy e=some t→sameTy t v=true
 cl:∀ l xs vs c t v,symArgs s xs vs→symApp (l+1) vs c t=some v→sameTy t v=true→s (.func (.yield (l+1)) ⟨xs⟩ ⟨[c,t]⟩) v
 dec:∀ e b v,(e,b)∈dl→s e v→v=.bool b
 fn:∀ e v v',s e v→s e v'→v=v'
instance :CoeOut Gl Nat:=⟨Gl.n⟩
structure WR (G:Gl) (B:FM) (w0:World) (τ:Rel) (H:Array Obj) (w:World):Prop where
 blk:∀ (k:Nat) (o:Obj),H[k]?=some o→live o=true→∃ r i o',τ k r i∧w.heap[r]?=some o'∧OR τ i o o'
 fn:∀ k r i r' i',τ k r i→τ k r' i'→r=r'∧i=i'
 inj:∀ k k' r i i',τ k r i→τ k' r i'→alive H k→alive H k'→k=k'
 dom:∀ k r i,τ k r i→k<H.size∧r<w.heap.size∧(alive H k→B r=none)
 ok:∀ (k:Nat) (o:Obj),H[k]?=some o→live o=true∨o=dead∨∃ cs e,o=oldB cs e
 old:∀ (k:Nat) (cs:Array Value) (e:TypeId),H[k]?=some (oldB cs e)→∃ r i cs' e' f,τ k r i∧w.heap[r]?=some (.cells cs' e' f)∧LR τ cs cs'∧(∀ k' i',τ k' r i'→¬alive H k')∧(r<w0.heap.size∨B r=none)
 glob:∀ g:Nat,g<G.n→τ g g none
 kp:Kp B w0 w
 sy:τ.s=G.s
theorem not_live_old (cs:Array Value) (e:TypeId):live (oldB cs e)=false:=by simp [live]
def Never (P:Program) {α:Type} (s:Sem α):Prop:=∀ w a w',s.run P w≠.ok a w'
theorem Never.bind {P:Program} {α β:Type} {s:Sem α} (h:Never P s) (f:α→Sem β):Never P (s.bind f):=by
 intro w a w' he
 rw [Sem.run_bind' P s f w] at he
 cases hs:s.run P w with
 | ok x w1=>exact h w x w1 hs
 | halt x w1=>rw [hs] at he;cases he
theorem Never.then {P:Program} {α β:Type} (s:Sem α) {f:α→Sem β} (h:∀ x,Never P (f x)):Never P (s >>= f):=by
 intro w a w' he
 rw [Sem.run_bind P w s f] at he
 cases hs:s.run P w with
 | ok x w1=>rw [hs] at he;exact h x w1 a w' he
 | halt x w1=>rw [hs] at he;cases he
theorem never_halt {P:Program} {α:Type} (h:Halt):Never P (.halt h:Sem α):=fun w a w' he=>by simp [Sem.run] at he
theorem never_runtime {P:Program} {α:Type} (e:RuntimeError):Never P (runtimePanic e:Sem α):=by
 unfold runtimePanic
 refine Never.then _ (fun p=>?_)
 cases e with
 | bounds x y s c=>exact never_halt _
 | error m=>exact never_halt _
 | plain m=>exact never_halt _
 | nilDeref=>exact never_halt _
 | typeAssertion i c a m=>exact Never.then _ (fun x=>Never.then _ (fun y=>never_halt _))
 | panicNil=>exact Never.then _ (fun x=>Never.then _ (fun y=>never_halt _))
 | unhashable t=>exact never_halt _
theorem never_bounds {P:Program} {α:Type} (k:IntKind) (x y:Int) (c:BoundsCode):Never P (boundsPanic k x y c:Sem α):=by
 unfold boundsPanic
 split
 ·exact Never.then _ (fun s=>never_runtime _)
 ·exact Never.then _ (fun s=>never_runtime _)
inductive Sim (P:Program) {α β:Type} (R:Rel→α→β→Prop):Rel→Sem α→Sem β→Prop
 | pure (τ:Rel) (a:α) (b:β):R τ a b→Sim P R τ (.pure a) (.pure b)
 | load (τ:Rel) (m:Mode) (k r o:Nat) (i:Option (Nat×Nat)) (f:Value→Sem α) (g:Value→Sem β):τ k r i→(∀ v v',VR τ v v'→Sim P R τ (f v) (g v'))→Sim P R τ (.load m ⟨k,o,none⟩ f) (.load m ⟨r,o,none⟩ g)
 | store (τ:Rel) (m:Mode) (k r o:Nat) (i:Option (Nat×Nat)) (v v':Value) (f:Sem α) (g:Sem β):τ k r i→VR τ v v'→Sim P R τ f g→Sim P R τ (.store m ⟨k,o,none⟩ v f) (.store m ⟨r,o,none⟩ v' g)
 | new (τ:Rel) (o o':Obj) (f:Nat→Sem α) (g:Nat→Sem β):OR τ none o o'→(∀ τ' k r,τ.le τ'→τ' k r none→Sim P R τ' (f k) (g r))→Sim P R τ (.new o f) (.new o' g)
 | getObj (τ:Rel) (k r:Nat) (i:Option (Nat×Nat)) (f:Obj→Sem α) (g:Obj→Sem β):τ k r i→(∀ o o',OR τ i o o'→Sim P R τ (f o) (g o'))→Sim P R τ (.getObj k f) (.getObj r g)
 | setObj (τ:Rel) (k r:Nat) (o o':Obj) (f:Sem α) (g:Sem β):τ k r none→OR τ none o o'→Sim P R τ f g→Sim P R τ (.setObj k o f) (.setObj r o' g)
 | choose (τ:Rel) (q:Question) (f:Nat→Sem α) (g:Nat→Sem β):q.forced=true→Sim P R τ (f 0) (g 0)→Sim P R τ (.choose q f) (.choose q g)
 | program (τ:Rel) (f:Program→Sem α) (g:Program→Sem β):Sim P R τ (f P) (g P)→Sim P R τ (.program f) (.program g)
 | mark (τ:Rel) (m m':Mark) (f:Sem α) (g:Sem β):Sim P R τ f g→Sim P R τ (.mark m f) (.mark m' g)
 | halt (τ:Rel) (h:Halt) (s:Sem β):Sim P R τ (.halt h) s
 | never (τ:Rel) (s:Sem α) (s':Sem β):Never P s→Sim P R τ s s'
theorem Sim.mono {P:Program} {α β:Type} {R R2:Rel→α→β→Prop} {τ0 τ:Rel} {s:Sem α} {s':Sem β} (h:Sim P R τ s s') (h0:τ0.le τ) (hR:∀ τ' a b,τ0.le τ'→R τ' a b→R2 τ' a b):Sim P R2 τ s s':=by
 induction h with
 | pure τ a b h=>exact .pure τ a b (hR _ _ _ h0 h)
 | load τ m k r o i f g ht _ ih=>exact .load τ m k r o i f g ht (fun v v' hv=>ih v v' hv h0)
 | store τ m k r o i v v' f g ht hv _ ih=>exact .store τ m k r o i v v' f g ht hv (ih h0)
 | new τ o o' f g ho _ ih=>exact .new τ o o' f g ho (fun τ' k r hl hk=>ih τ' k r hl hk (h0.trans hl))
 | getObj τ k r i f g ht _ ih=>exact .getObj τ k r i f g ht (fun o o' ho=>ih o o' ho h0)
 | setObj τ k r o o' f g ht ho _ ih=>exact .setObj τ k r o o' f g ht ho (ih h0)
 | choose τ q f g hq _ ih=>exact .choose τ q f g hq (ih h0)
 | program τ f g _ ih=>exact .program τ f g (ih h0)
 | mark τ m m' f g _ ih=>exact .mark τ m m' f g (ih h0)
 | halt τ h s=>exact .halt τ h s
 | never τ s s' hn=>exact .never τ s s' hn
theorem Sim.bind {P:Program} {α β γ δ:Type} {R:Rel→α→β→Prop} {R2:Rel→γ→δ→Prop} {τ0 τ:Rel} {s:Sem α} {s':Sem β} {f:α→Sem γ} {g:β→Sem δ}
 (h:Sim P R τ s s') (h0:τ0.le τ) (hf:∀ τ' a b,τ0.le τ'→R τ' a b→Sim P R2 τ' (f a) (g b)):Sim P R2 τ (s.bind f) (s'.bind g):=by
 induction h with
 | pure τ a b h=>exact hf _ _ _ h0 h
 | load τ m k r o i f g ht _ ih=>exact .load τ m k r o i _ _ ht (fun v v' hv=>ih v v' hv h0)
 | store τ m k r o i v v' f g ht hv _ ih=>exact .store τ m k r o i v v' _ _ ht hv (ih h0)
 | new τ o o' f g ho _ ih=>exact .new τ o o' _ _ ho (fun τ' k r hl hk=>ih τ' k r hl hk (h0.trans hl))
 | getObj τ k r i f g ht _ ih=>exact .getObj τ k r i _ _ ht (fun o o' ho=>ih o o' ho h0)
 | setObj τ k r o o' f g ht ho _ ih=>exact .setObj τ k r o o' _ _ ht ho (ih h0)
 | choose τ q f g hq _ ih=>exact .choose τ q _ _ hq (ih h0)
 | program τ f g _ ih=>exact .program τ _ _ (ih h0)
 | mark τ m m' f g _ ih=>exact .mark τ m m' _ _ (ih h0)
 | halt τ h s=>exact .halt τ h _
 | never τ s s' hn=>exact .never τ _ _ (hn.bind _)
theorem Sim.andThen {P:Program} {α β γ δ:Type} {R:Rel→α→β→Prop} {R2:Rel→γ→δ→Prop} {τ:Rel} {s:Sem α} {s':Sem β} {f:α→Sem γ} {g:β→Sem δ}
 (h:Sim P R τ s s') (hf:∀ τ' a b,τ.le τ'→R τ' a b→Sim P R2 τ' (f a) (g b)):Sim P R2 τ (s >>= f) (s' >>= g):=Sim.bind h (Rel.le.refl τ) hf
section sound
variable {P:Program} {G:Gl} {B:FM} {w0:World}
theorem or_live {τ:Rel} {i:Option (Nat×Nat)} {o o':Obj} (h:OR τ i o o'):live o=true:=by
 cases h<;>simp [live]
theorem WR.new {τ:Rel} {H:Array Obj} {wr:World} {o o':Obj} {q:Option (Nat×Nat)} (h:WR G B w0 τ H wr) (ho:OR τ q o o') :
 ∃ τ':Rel,τ.le τ'∧τ' H.size wr.heap.size q∧WR G B w0 τ' (H.push o) { wr with heap:=wr.heap.push o' }:=by
 refine ⟨⟨fun k r i=>τ.r k r i∨(k=H.size∧r=wr.heap.size∧i=q),τ.s⟩,⟨fun k r i x=>.inl x,fun _ _ x=>x⟩,.inr ⟨rfl,rfl,rfl⟩,?_⟩
 have hle:τ.le (⟨fun k r i=>τ.r k r i∨(k=H.size∧r=wr.heap.size∧i=q),τ.s⟩:Rel):=⟨fun k r i x=>.inl x,fun _ _ x=>x⟩
 have hal:∀ k,k<H.size→alive (H.push o) k→alive H k:=by
  rintro k hk ⟨u,hu,hl⟩
  rw [Array.getElem?_push,if_neg (by omega)] at hu
  exact ⟨u,hu,hl⟩
 refine ⟨fun k u hk hu=>?_,?_,?_,?_,?_,?_,fun g hg=>.inl (h.glob g hg),h.kp.alloc o',h.sy⟩
 ·rw [Array.getElem?_push] at hk
  by_cases he:k=H.size
  ·rw [if_pos he] at hk
   cases hk
   exact ⟨wr.heap.size,q,o',.inr ⟨he,rfl,rfl⟩,by simp,ho.mono hle⟩
  ·rw [if_neg he] at hk
   obtain ⟨r,i,u',h1,h2,h3⟩:=h.blk k u hk hu
   refine ⟨r,i,u',.inl h1,?_,h3.mono hle⟩
   have:=(h.dom _ _ _ h1).2.1
   show (wr.heap.push o')[r]?=_
   rw [Array.getElem?_push,if_neg (by omega)];exact h2
 ·rintro k r i r' i' (h1 | ⟨rfl,rfl,rfl⟩) (h2 | ⟨e,rfl,rfl⟩)
  ·exact h.fn _ _ _ _ _ h1 h2
  ·have:=(h.dom _ _ _ h1).1;omega
  ·have:=(h.dom _ _ _ h2).1;omega
  ·exact ⟨rfl,rfl⟩
 ·rintro k k' r i i' (h1 | ⟨rfl,rfl,rfl⟩) (h2 | ⟨rfl,e,rfl⟩) l1 l2
  ·exact h.inj _ _ _ _ _ h1 h2 (hal _ (h.dom _ _ _ h1).1 l1) (hal _ (h.dom _ _ _ h2).1 l2)
  ·have:=(h.dom _ _ _ h1).2.1;omega
  ·have:=(h.dom _ _ _ h2).2.1;omega
  ·rfl
 ·rintro k r i (h1 | ⟨rfl,rfl,rfl⟩)
  ·have:=h.dom _ _ _ h1
   refine ⟨by simp;omega,by simp;omega,fun l=>this.2.2 (hal _ this.1 l)⟩
  ·refine ⟨by simp,by simp,fun _=>h.kp.new⟩
 ·intro k u hk
  rw [Array.getElem?_push] at hk
  by_cases he:k=H.size
  ·rw [if_pos he] at hk;cases hk;exact .inl (or_live ho)
  ·rw [if_neg he] at hk;exact h.ok k u hk
 ·intro k cs e hk
  rw [Array.getElem?_push] at hk
  by_cases he:k=H.size
  ·rw [if_pos he] at hk
   cases hk
   have:=or_live ho
   rw [not_live_old] at this;cases this
  ·rw [if_neg he] at hk
   obtain ⟨r,i,cs',e',f,h1,h2,h3,h4,h5⟩:=h.old k cs e hk
   have:=(h.dom _ _ _ h1).2.1
   refine ⟨r,i,cs',e',f,.inl h1,?_,h3.mono hle,?_,h5⟩
   rotate_left
   ·rintro k' i' (q | ⟨rfl,q,rfl⟩) ha
    ·exact h4 k' i' q (hal _ (h.dom _ _ _ q).1 ha)
    ·omega
   show (wr.heap.push o')[r]?=_
   rw [Array.getElem?_push,if_neg (by omega)];exact h2
theorem WR.put {τ:Rel} {H:Array Obj} {w w':World} {k r:Nat} {i:Option (Nat×Nat)} {o o':Obj} (h:WR G B w0 τ H w) (ht:τ k r i) (hk:alive H k) (ho:OR τ i o o')
 (hw:w'.heap=w.heap.setIfInBounds r o') (hb:Kp B w0 w'):WR G B w0 τ (H.setIfInBounds k o) w':=by
 obtain ⟨d1,d2,d3⟩:=h.dom _ _ _ ht
 have hr:=d3 hk
 have hal:∀ j,alive (H.setIfInBounds k o) j→alive H j:=by
  rintro j ⟨u,hu,hl⟩
  by_cases e:k=j
  ·subst e;exact hk
  ·rw [Array.getElem?_setIfInBounds_ne e] at hu;exact ⟨u,hu,hl⟩
 refine ⟨fun j u hj hu=>?_,h.fn,fun a b c d e h1 h2 l1 l2=>h.inj a b c d e h1 h2 (hal _ l1) (hal _ l2),fun a b c x=>?_,?_,?_,h.glob,hb,h.sy⟩
 ·by_cases e:k=j
  ·subst e
   rw [Array.getElem?_setIfInBounds_self] at hj
   rw [if_pos d1] at hj
   cases hj
   refine ⟨r,i,o',ht,?_,ho⟩
   rw [hw,Array.getElem?_setIfInBounds_self,if_pos d2]
  ·rw [Array.getElem?_setIfInBounds_ne e] at hj
   obtain ⟨r2,i2,u',h1,h2,h3⟩:=h.blk j u hj hu
   refine ⟨r2,i2,u',h1,?_,h3⟩
   have:r≠r2:=fun er=>e (h.inj k j r i i2 ht (er ▸ h1) hk ⟨u,hj,hu⟩)
   rw [hw,Array.getElem?_setIfInBounds_ne this];exact h2
 ·have:=h.dom _ _ _ x
  rw [hw]
  refine ⟨by simp;omega,by simp;omega,fun l=>this.2.2 (hal _ l)⟩
 ·intro j u hj
  by_cases e:k=j
  ·subst e
   rw [Array.getElem?_setIfInBounds_self,if_pos d1] at hj
   cases hj;exact .inl (or_live ho)
  ·rw [Array.getElem?_setIfInBounds_ne e] at hj;exact h.ok j u hj
 ·intro j cs t hj
  by_cases e:k=j
  ·subst e
   rw [Array.getElem?_setIfInBounds_self,if_pos d1] at hj
   cases hj
   have:=or_live ho
   rw [not_live_old] at this;cases this
  ·rw [Array.getElem?_setIfInBounds_ne e] at hj
   obtain ⟨r2,i2,cs',e',f,h1,h2,h3,h4,h5⟩:=h.old j cs t hj
   refine ⟨r2,i2,cs',e',f,h1,?_,h3,fun k' i' q l=>h4 k' i' q (hal _ l),h5⟩
   rw [hw,Array.getElem?_setIfInBounds_ne (fun e=>h4 k i (by rw [←e];exact ht) hk)];exact h2
theorem setCell_heap (w:World) (r o:Nat) (v:Value) {c:Array Value} {e:TypeId} {f:Nat×Nat} (h:w.heap[r]?=some (.cells c e f)) :
 (w.setCell ⟨r,o,none⟩ v).heap=w.heap.setIfInBounds r (.cells (c.setIfInBounds o v) e f):=by
 unfold World.setCell
 apply Array.ext_getElem?
 intro j
 by_cases hj:r=j
 ·subst hj
  simp [Array.getElem?_modify,h]
  obtain ⟨hl,_⟩:=Array.getElem?_eq_some_iff.1 h
  rw [Array.getElem?_setIfInBounds_self,if_pos hl]
 ·simp [Array.getElem?_modify,hj]
theorem WR.cell {τ:Rel} {wa wr:World} (h:WR G B w0 τ wa.heap wr) {k r o:Nat} {i:Option (Nat×Nat)} (ht:τ k r i) {v:Value} (hv:wa.cell? ⟨k,o,none⟩=some v) :
 ∃ v',VR τ v v'∧wr.cell? ⟨r,o,none⟩=some v':=by
 unfold World.cell? at hv
 split at hv
 ·rename_i c e f hh
  simp at hv
  rcases h.ok k _ hh with hl | hd | ⟨cs,t,ho⟩
  ·obtain ⟨r2,i2,o',h1,h2,h3⟩:=h.blk k _ hh hl
   obtain ⟨rfl,rfl⟩:=h.fn _ _ _ _ _ ht h1
   cases h3 with
   | cells _ c' _ ha=>
     obtain ⟨v',e1,e2⟩:=ha.get hv
     exact ⟨v',e2,by simp [World.cell?,h2,e1]⟩
   | more _ c' _ m z a1 a2 a3=>
     have hi:=(Array.getElem?_eq_some_iff.1 hv).1
     have hi':o<c'.size:=by omega
     have e1:=Array.getElem?_eq_getElem hi'
     exact ⟨_,a3 _ _ _ hv e1,by simp [World.cell?,h2,e1]⟩
  ·unfold dead at hd
   cases hd
   simp at hv
  ·cases ho
   obtain ⟨r2,i2,cs',e',f,h1,h2,h3,h4⟩:=h.old k _ _ hh
   obtain ⟨rfl,rfl⟩:=h.fn _ _ _ _ _ ht h1
   obtain ⟨v',e1,e2⟩:=h3 _ _ hv
   exact ⟨v',e2,by simp [World.cell?,h2,e1]⟩
 ·cases hv
theorem WR.free {τ:Rel} {wa wr:World} (h:WR G B w0 τ wa.heap wr) {k r o:Nat} {i:Option (Nat×Nat)} (ht:τ k r i) {v:Value} (hv:wa.cell? ⟨k,o,none⟩=some v) (hf:wa.frozen? ⟨k,o,none⟩=false) :
 ∃ c c' e f,o<c.size∧wa.heap[k]?=some (.cells c e f)∧wr.heap[r]?=some (.cells c' e (0,0))∧OR τ i (.cells c e f) (.cells c' e (0,0)):=by
 unfold World.cell? at hv
 split at hv
 ·rename_i c e f hh
  simp at hv
  have hi:=(Array.getElem?_eq_some_iff.1 hv).1
  rcases h.ok k _ hh with hl | hd | ⟨cs,t,ho⟩
  ·obtain ⟨r2,i2,o',h1,h2,h3⟩:=h.blk k _ hh hl
   obtain ⟨rfl,rfl⟩:=h.fn _ _ _ _ _ ht h1
   cases h3 with
   | cells _ c' _ ha=>exact ⟨c,c',e,_,hi,hh,h2,.cells _ _ _ ha⟩
   | more _ c' _ m z a1 a2 a3=>exact ⟨c,c',e,_,hi,hh,h2,.more _ _ _ _ _ a1 a2 a3⟩
  ·unfold dead at hd
   cases hd
   simp at hv
  ·cases ho
   simp [World.frozen?,hh] at hf
   omega
 ·cases hv
theorem WR.noCell {τ:Rel} {wa wr:World} (h:WR G B w0 τ wa.heap wr) {a:Addr} (hv:wa.cell? a=none) (b:Bool):∃ e,wa.farLoad P a b=.error e:=by
 unfold World.farLoad
 split
 ·rename_i x y hh
  rcases h.ok _ _ hh with hl | hd | ⟨_,_,hd⟩
  ·cases hl
  ·cases hd
  ·cases hd
 ·exact ⟨_,rfl⟩
theorem WR.noCell' {τ:Rel} {wa wr:World} (h:WR G B w0 τ wa.heap wr) {a:Addr} (hv:wa.cell? a=none) (v:Value) (b:Bool):∃ e,wa.farStore P a v b=.error e:=by
 unfold World.farStore
 split
 ·rename_i x y hh
  rcases h.ok _ _ hh with hl | hd | ⟨_,_,hd⟩
  ·cases hl
  ·cases hd
  ·cases hd
 ·exact ⟨_,rfl⟩
theorem OR.setC {τ:Rel} {i:Option (Nat×Nat)} {c c':Array Value} {e:TypeId} {f:Nat×Nat} (h:OR τ i (.cells c e f) (.cells c' e (0,0))) {v v':Value} (hv:VR τ v v') (o:Nat) (ho:o<c.size) :
 OR τ i (.cells (c.setIfInBounds o v) e f) (.cells (c'.setIfInBounds o v') e (0,0)):=by
 cases h with
 | cells _ _ _ ha=>exact .cells _ _ _ (ha.set hv o)
 | more _ _ _ m z a1 a2 a3=>
   refine .more _ _ _ _ _ (by simpa using a1) (by simpa using a2) (fun j u u' h1 h2=>?_)
   by_cases e:o=j
   ·subst e
    rw [Array.getElem?_setIfInBounds_self,if_pos ho] at h1
    rw [Array.getElem?_setIfInBounds_self,if_pos (by omega)] at h2
    cases h1;cases h2;exact hv
   ·rw [Array.getElem?_setIfInBounds_ne e] at h1 h2
    exact a3 j u u' h1 h2
def Value.plainCell:Value→Bool
 | .agg _=>false
 | .tuple _=>false
 | _=>true
theorem run_store_of {α:Type} {w:World} {a:Addr} {u v:Value} {m:Mode} {k:Sem α} (hv:Value.plainCell v=true) (hc:w.cell? a=some u) (hf:w.frozen? a=false):(Sem.store m a v k).run P w=k.run P (w.setCell a v):=by
 cases v<;>first | (simp [Value.plainCell] at hv;done) | simp [Sem.run,hc,hf]
theorem run_store_ok {α:Type} {w w':World} {a:Addr} {v:Value} {m:Mode} {k:Sem α} {x:α} {τ:Rel} {wr:World} (h:WR G B w0 τ w.heap wr) (hr:(Sem.store m a v k).run P w=.ok x w') :
 Value.plainCell v=true∧(∃ u,w.cell? a=some u)∧w.frozen? a=false∧k.run P (w.setCell a v)=.ok x w':=by
 have hp:Value.plainCell v=true:=by
  cases v<;>first | rfl | (simp [Sem.run] at hr)
 cases hc:w.cell? a with
 | none=>
   obtain ⟨e,he⟩:=h.noCell' (P:=P) hc v (m==.atomic)
   exfalso
   cases v<;>first | (simp [Value.plainCell] at hp;done) | (simp [Sem.run,hc,he] at hr)
 | some u=>
   cases hf:w.frozen? a with
   | true=>
     exfalso
     cases v<;>first | (simp [Value.plainCell] at hp;done) | (simp [Sem.run,hc,hf] at hr)
   | false=>exact ⟨hp,⟨u,rfl⟩,rfl,by rw [run_store_of hp hc hf] at hr;exact hr⟩
theorem VR.plain {τ:Rel} {v v':Value} (h:VR τ v v'):Value.plainCell v=Value.plainCell v':=by
 cases h with
 | sym l xs ys v' h hb=>cases v'<;>first | (cases hb;done) | rfl
 | _=>rfl
theorem Sim.run {α β:Type} {R:Rel→α→β→Prop} {τ:Rel} {s:Sem α} {s':Sem β} (h:Sim P R τ s s'):∀ {wa wr wa':World} {a:α},WR G B w0 τ wa.heap wr→s.run P wa=.ok a wa' →
 ∃ τ' b wr',τ.le τ'∧s'.run P wr=.ok b wr'∧R τ' a b∧WR G B w0 τ' wa'.heap wr':=by
 induction h with
 | pure τ a b h=>
   intro wa wr wa' a' hw hr
   simp only [Sem.run,Result.ok.injEq] at hr
   obtain ⟨rfl,rfl⟩:=hr
   exact ⟨τ,b,wr,Rel.le.refl τ,rfl,h,hw⟩
 | load τ m k r o i f g ht _ ih=>
   intro wa wr wa' a' hw hr
   cases hc:wa.cell? ⟨k,o,none⟩ with
   | none=>
     obtain ⟨e,he⟩:=hw.noCell (P:=P) hc (m==.atomic)
     simp [Sem.run,hc,he] at hr
   | some v=>
     obtain ⟨v',h1,h2⟩:=hw.cell ht hc
     simp only [Sem.run,hc] at hr
     obtain ⟨τ',b,wr',a1,a2,a3⟩:=ih v v' h1 hw hr
     exact ⟨τ',b,wr',a1,by simp only [Sem.run,h2];exact a2,a3⟩
 | store τ m k r o i v v' f g ht hv _ ih=>
   intro wa wr wa' a' hw hr
   obtain ⟨hp,⟨u,hc⟩,hf,hk⟩:=run_store_ok hw hr
   obtain ⟨u',h1,h2⟩:=hw.cell ht hc
   obtain ⟨c,c',e,ff,ho,h3,h4,h5⟩:=hw.free ht hc hf
   have hf2:wr.frozen? ⟨r,o,none⟩=false:=by simp [World.frozen?,h4]
   have hw2:WR G B w0 τ (wa.setCell ⟨k,o,none⟩ v).heap (wr.setCell ⟨r,o,none⟩ v'):=by
    rw [setCell_heap wa k o v h3]
    exact hw.put ht ⟨_,h3,or_live h5⟩ (h5.setC hv o ho) (setCell_heap wr r o v' h4) (hw.kp.setCell (a:=⟨r,o,none⟩) ((hw.dom _ _ _ ht).2.2 ⟨_,h3,or_live h5⟩) v')
   obtain ⟨τ',b,wr',a1,a2,a3⟩:=ih hw2 hk
   exact ⟨τ',b,wr',a1,by rw [run_store_of (by rw [←hv.plain];exact hp) h2 hf2];exact a2,a3⟩
 | new τ o o' f g ho _ ih=>
   intro wa wr wa' a' hw hr
   obtain ⟨τ1,l1,t1,w1⟩:=hw.new ho
   simp only [Sem.run] at hr
   obtain ⟨τ',b,wr',a1,a2,a3⟩:=ih τ1 _ _ l1 t1 (wa:={ wa with heap:=wa.heap.push o }) w1 hr
   exact ⟨τ',b,wr',l1.trans a1,by simp only [Sem.run];exact a2,a3⟩
 | getObj τ k r i f g ht _ ih=>
   intro wa wr wa' a' hw hr
   simp only [Sem.run] at hr
   split at hr
   ·cases hr
   ·rename_i o hn hh
    rcases hw.ok _ _ hh with hl | hd | ⟨_,_,hd⟩
    ·obtain ⟨r2,i2,o',h1,h2,h3⟩:=hw.blk k _ hh hl
     obtain ⟨rfl,rfl⟩:=hw.fn _ _ _ _ _ ht h1
     obtain ⟨τ',b,wr',a1,a2,a3⟩:=ih _ _ h3 hw hr
     refine ⟨τ',b,wr',a1,?_,a3⟩
     simp only [Sem.run,h2]
     cases h3 with
     | cells=>exact absurd rfl (hn _ _ _)
     | more=>exact absurd rfl (hn _ _ _)
     | map=>exact a2
     | str=>exact a2
    ·exact absurd hd (hn _ _ _)
    ·exact absurd hd (hn _ _ _)
   ·cases hr
 | setObj τ k r o o' f g ht ho _ ih=>
   intro wa wr wa' a' hw hr
   simp only [Sem.run] at hr
   split at hr
   ·cases hr
   ·rename_i u hn hh
    rcases hw.ok _ _ hh with hl | hd | ⟨_,_,hd⟩
    ·obtain ⟨r2,i2,u',h1,h2,h3⟩:=hw.blk k _ hh hl
     obtain ⟨rfl,rfl⟩:=hw.fn _ _ _ _ _ ht h1
     have hw2:WR G B w0 τ (wa.heap.setIfInBounds k o) { wr with heap:=wr.heap.setIfInBounds r o' }:=by
      exact hw.put ht ⟨_,hh,hl⟩ ho rfl (hw.kp.put ((hw.dom _ _ _ ht).2.2 ⟨_,hh,hl⟩) o')
     obtain ⟨τ',b,wr',a1,a2,a3⟩:=ih (wa:={ wa with heap:=wa.heap.setIfInBounds k o }) hw2 hr
     refine ⟨τ',b,wr',a1,?_,a3⟩
     simp only [Sem.run,h2]
     cases h3 with
     | cells=>exact absurd rfl (hn _ _ _)
     | map=>exact a2
     | str=>exact a2
    ·exact absurd hd (hn _ _ _)
    ·exact absurd hd (hn _ _ _)
   ·cases hr
 | choose τ q f g hq _ ih=>
   intro wa wr wa' a' hw hr
   simp only [Sem.run,hq,if_true] at hr
   obtain ⟨τ',b,wr',a1,a2,a3⟩:=ih hw hr
   exact ⟨τ',b,wr',a1,by simp only [Sem.run,hq,if_true];exact a2,a3⟩
 | program τ f g _ ih=>
   intro wa wr wa' a' hw hr
   simp only [Sem.run] at hr
   obtain ⟨τ',b,wr',a1,a2,a3⟩:=ih hw hr
   exact ⟨τ',b,wr',a1,by simp only [Sem.run];exact a2,a3⟩
 | mark τ m m' f g _ ih=>
   intro wa wr wa' a' hw hr
   simp only [Sem.run] at hr
   obtain ⟨τ',b,wr',a1,a2,a3⟩:=ih hw hr
   exact ⟨τ',b,wr',a1,by simp only [Sem.run];exact a2,a3⟩
 | halt τ h s=>
   intro wa wr wa' a' hw hr
   simp [Sem.run] at hr
 | never τ s s' hn=>
   intro wa wr wa' a' hw hr
   exact absurd hr (hn _ _ _)
end sound
def AFb:Nat→Value→Bool
 | 0,_=>false
 | n+1,v=>match v with
   | .bool _=>true
   | .int _ _=>true
   | .float _ _=>true
   | .complex _ _ _=>true
   | .string _=>true
   | .pointer none=>true
   | .slice none _ _=>true
   | .map none=>true
   | .chan none=>true
   | .nilFunc=>true
   | .nilIface=>true
   | .iface _ x=>AFb n x
   | .agg xs=>xs.toList.all (AFb n)
   | .tuple xs=>xs.toList.all (AFb n)
   | .func (.func _) xs ys=>xs.toList.all (AFb n)&&ys.toList.all (AFb n)
   | _=>false
theorem AFb.vr {τ:Rel}:∀ (n:Nat) (v:Value),AFb n v=true→VR τ v v:=by
 intro n
 induction n with
 | zero=>intro v h;cases h
 | succ n ih=>
   have hall:∀ xs:Array Value,xs.toList.all (AFb n)=true→∀ (i:Nat) (v v':Value),xs[i]?=some v→xs[i]?=some v'→VR τ v v':=by
    intro xs h i v v' h1 h2
    rw [h1] at h2;cases h2
    refine ih v (List.all_eq_true.1 h v ?_)
    rw [←Array.getElem?_toList] at h1
    exact List.mem_of_getElem? h1
   intro v h
   unfold AFb at h
   split at h
   ·exact .bool _
   ·exact .int _ _
   ·exact .float _ _
   ·exact .complex _ _ _
   ·exact .string _
   ·exact .ptr0
   ·exact .sl0 _ _
   ·exact .map0
   ·exact .chan0
   ·exact .nilFunc
   ·exact .nilIface
   ·exact .iface _ _ _ (ih _ h)
   ·exact .agg _ _ rfl (hall _ h)
   ·exact .tuple _ _ rfl (hall _ h)
   ·rw [Bool.and_eq_true] at h
    exact .func _ _ _ _ _ (fun l h=>by cases h) rfl rfl (hall _ h.1) (hall _ h.2)
   ·cases h
theorem arr_eq {xs ys:Array Value} (h:xs.size=ys.size) (hv:∀ (i:Nat) (v v':Value),xs[i]?=some v→ys[i]?=some v'→v=v'):xs=ys:=by
 apply Array.ext h
 intro i h1 h2
 exact hv i _ _ (Array.getElem?_eq_getElem h1) (Array.getElem?_eq_getElem h2)
theorem AFb.eq {τ:Rel}:∀ (n:Nat) (v v':Value),AFb n v=true→VR τ v v'→v=v':=by
 intro n
 induction n with
 | zero=>intro v v' h;cases h
 | succ n ih=>
   have hall:∀ xs ys:Array Value,xs.toList.all (AFb n)=true→xs.size=ys.size→(∀ (i:Nat) (v v':Value),xs[i]?=some v→ys[i]?=some v'→VR τ v v')→xs=ys:=by
    intro xs ys h hs hv
    refine arr_eq hs (fun i v v' h1 h2=>ih v v' (List.all_eq_true.1 h v ?_) (hv i v v' h1 h2))
    rw [←Array.getElem?_toList] at h1
    exact List.mem_of_getElem? h1
   intro v v' h hv
   cases hv with
   | bool=>rfl
   | int=>rfl
   | float=>rfl
   | complex=>rfl
   | string=>rfl
   | ptr0=>rfl
   | ptr=>simp [AFb] at h
   | sl0=>rfl
   | sl=>simp [AFb] at h
   | map0=>rfl
   | map=>simp [AFb] at h
   | chan0=>rfl
   | func fn xs ys us vs hf h1 h2 i1 i2=>
     unfold AFb at h
     split at h<;>first | (cases h;done) | skip
     all_goals (rename_i heq;cases heq)
     all_goals first | (cases h;done) | skip
     rw [Bool.and_eq_true] at h
     rw [hall _ _ h.1 h1 i1,hall _ _ h.2 h2 i2]
   | sym l us vs v' h1 h2=>simp [AFb] at h
   | nilFunc=>rfl
   | iface t a b hab=>
     simp only [AFb] at h
     rw [ih _ _ h hab]
   | nilIface=>rfl
   | agg xs ys hs hx=>
     simp only [AFb] at h
     rw [hall _ _ h hs hx]
   | tuple xs ys hs hx=>
     simp only [AFb] at h
     rw [hall _ _ h hs hx]
def still (P:Program) {α:Type}:Sem α→Option α
 | .pure a=>some a
 | .program k=>still P (k P)
 | .mark _ k=>still P k
 | _=>none
theorem still_run {P:Program} {α:Type} (s:Sem α):∀ {a:α},still P s=some a→∀ w,s.run P w=.ok a w:=by
 induction s with
 | pure a=>intro b h w;simp only [still,Option.some.injEq] at h;rw [h];rfl
 | program k ih=>intro b h w;simp only [still] at h;simp only [Sem.run];exact ih P h w
 | mark m k ih=>intro b h w;simp only [still] at h;simp only [Sem.run];exact ih h w
 | load=>intro b h;simp [still] at h
 | store=>intro b h;simp [still] at h
 | new=>intro b h;simp [still] at h
 | shape=>intro b h;simp [still] at h
 | freeze=>intro b h;simp [still] at h
 | frozen=>intro b h;simp [still] at h
 | getObj=>intro b h;simp [still] at h
 | setObj=>intro b h;simp [still] at h
 | choose=>intro b h;simp [still] at h
 | sys=>intro b h;simp [still] at h
 | halt=>intro b h;simp [still] at h
section ops
variable {P:Program} {τ:Rel}
abbrev RE {α:Type}:Rel→α→α→Prop:=fun _ a b=>a=b
abbrev RV:Rel→Value→Value→Prop:=fun τ a b=>VR τ a b
abbrev RU:Rel→Unit→Unit→Prop:=fun _ _ _=>True
def RA (τ:Rel) (a b:Addr):Prop:=∃ k r o i,a=⟨k,o,none⟩∧b=⟨r,o,none⟩∧τ k r i
theorem RA.mono {τ τ':Rel} (h:τ.le τ') {a b:Addr} (x:RA τ a b):RA τ' a b:=by
 obtain ⟨k,r,o,i,e1,e2,t⟩:=x
 exact ⟨k,r,o,i,e1,e2,h _ _ _ t⟩
theorem add_eq (k o i:Nat):(⟨k,o,none⟩:Addr).add i=⟨k,o+i,none⟩:=by
 unfold Addr.add;split<;>simp_all
theorem RA.add {a b:Addr} (x:RA τ a b) (i:Nat):RA τ (a.add i) (b.add i):=by
 obtain ⟨k,r,o,j,rfl,rfl,t⟩:=x
 exact ⟨k,r,o+i,j,add_eq _ _ _,add_eq _ _ _,t⟩
theorem RA.vr {a b:Addr} (x:RA τ a b):VR τ (.pointer (some a)) (.pointer (some b)):=by
 obtain ⟨k,r,o,i,rfl,rfl,t⟩:=x
 exact .ptr _ _ _ _ t
theorem sim_prog {α:Type} {R:Rel→α→α→Prop} {f:Program→Sem α} (h:Sim P R τ (f P) (f P)):Sim P R τ (program >>= f) (program >>= f):=Sim.program _ _ _ h
theorem sim_typeInfo (t:TypeId):Sim P (fun _ a b=>a=b∧P.info? t=some a) τ (typeInfo t) (typeInfo t):=by
 refine sim_prog ?_
 cases h:P.info? t with
 | none=>exact Sim.halt _ _ _
 | some i=>exact Sim.pure τ i i ⟨rfl,rfl⟩
theorem sim_underlying (t:TypeId):Sim P (fun _ a b=>a=b∧P.underlying t=some a) τ (underlying t) (underlying t):=by
 refine sim_prog ?_
 cases h:P.underlying t with
 | none=>exact Sim.halt _ _ _
 | some i=>exact Sim.pure τ i i ⟨rfl,rfl⟩
theorem sim_sizeOf (t:TypeId):Sim P (fun _ a b=>a=b∧(P.info? t).map (·.size)=some a) τ (sizeOf t) (sizeOf t):=by
 refine Sim.andThen (sim_typeInfo t) ?_
 rintro τ' a b hl ⟨rfl,h⟩
 exact Sim.pure _ _ _ ⟨rfl,by rw [h];rfl⟩
theorem sim_isAgg (t:TypeId):Sim P RE τ (isAgg t) (isAgg t):=by
 refine Sim.andThen (sim_underlying t) ?_
 rintro τ' a b hl ⟨rfl,h⟩
 split<;>exact Sim.pure _ _ _ rfl
theorem sim_load {a b:Addr} (h:RA τ a b):Sim P RV τ (load a) (load b):=by
 obtain ⟨k,r,o,i,rfl,rfl,t⟩:=h
 exact Sim.load _ _ _ _ _ _ _ _ t (fun v v' hv=>Sim.pure _ _ _ hv)
theorem sim_loadCellsFrom:∀ (n:Nat) {τ:Rel} {a b:Addr} (i:Nat) {xs ys:Array Value},RA τ a b→AR τ xs ys→Sim P (fun τ' u v=>AR τ' u v) τ (loadCellsFrom a i n xs) (loadCellsFrom b i n ys):=by
 intro n
 induction n with
 | zero=>intro τ a b i xs ys ha hx;exact Sim.pure _ _ _ hx
 | succ n ih=>
   intro τ a b i xs ys ha hx
   refine Sim.andThen (sim_load (ha.add i)) ?_
   intro τ' v v' hl hv
   exact ih (i+1) (ha.mono hl) ((hx.mono hl).push hv)
theorem sim_loadVar (t:TypeId) {a b:Addr} (h:RA τ a b):Sim P RV τ (loadVar t a) (loadVar t b):=by
 refine Sim.andThen (sim_isAgg t) ?_
 rintro τ' x y hl rfl
 split
 ·refine Sim.andThen (sim_sizeOf t) ?_
  rintro τ2 n m hl2 ⟨rfl,_⟩
  refine Sim.andThen (sim_loadCellsFrom n 0 (h.mono (hl.trans hl2)) (AR.nil _)) ?_
  intro τ3 u v hl3 hx
  exact Sim.pure _ _ _ (VR.agg_ hx)
 ·exact sim_load (h.mono hl)
theorem sim_storeCells:∀ (xs ys:List Value) {τ:Rel} {a b:Addr} (i:Nat),RA τ a b→xs.length=ys.length→(∀ (j:Nat) (v v':Value),xs[j]?=some v→ys[j]?=some v'→VR τ v v')→Sim P RU τ (storeCells a xs i) (storeCells b ys i):=by
 intro xs
 induction xs with
 | nil=>
   intro ys τ a b i ha hl hv
   cases ys with
   | nil=>exact Sim.pure _ _ _ trivial
   | cons=>simp at hl
 | cons x xs ih=>
   intro ys τ a b i ha hl hv
   cases ys with
   | nil=>simp at hl
   | cons y ys=>
     obtain ⟨k,r,o,j,e1,e2,t⟩:=ha.add i
     show Sim P RU τ (Sem.bind (store (a.add i) x) fun _=>storeCells a xs (i+1)) (Sem.bind (store (b.add i) y) fun _=>storeCells b ys (i+1))
     rw [e1,e2]
     refine Sim.store _ _ _ _ _ j _ _ _ _ t (hv 0 x y rfl rfl) ?_
     exact ih ys (i+1) ha (by simpa using hl) (fun j v v' h1 h2=>hv (j+1) v v' h1 h2)
theorem AR.list {xs ys:Array Value} (h:AR τ xs ys):xs.toList.length=ys.toList.length∧∀ (j:Nat) (v v':Value),xs.toList[j]?=some v→ys.toList[j]?=some v'→VR τ v v':=
 ⟨by simpa using h.1,fun j v v' h1 h2=>h.2 j v v' (by rw [←Array.getElem?_toList];exact h1) (by rw [←Array.getElem?_toList];exact h2)⟩
theorem sim_storeVar (t:TypeId) {a b:Addr} (h:RA τ a b) {v v':Value} (hv:VR τ v v'):Sim P RU τ (storeVar t a v) (storeVar t b v'):=by
 refine Sim.andThen (sim_sizeOf t) ?_
 rintro τ' n m hl ⟨rfl,_⟩
 have hc:=(hv.mono hl).cells
 rw [hc.1]
 split
 ·exact Sim.halt _ _ _
 ·exact sim_storeCells _ _ 0 (h.mono hl) hc.list.1 hc.list.2
theorem sim_newRow (e:TypeId) {xs ys:Array Value} (h:AR τ xs ys):Sim P RA τ (newRow e xs) (newRow e ys):=by
 refine Sim.new _ _ _ _ _ (.cells _ _ e h) ?_
 intro τ' k r hl ht
 exact Sim.pure _ _ _ ⟨k,r,0,none,rfl,rfl,ht⟩
theorem sim_newVar (t:TypeId) {v v':Value} (h:VR τ v v'):Sim P RA τ (newVar t v) (newVar t v'):=sim_newRow t h.cells
def zeroOk (P:Program) (t:TypeId):Bool:=match P.info? t with
 | some i=>match i.zero with | some z=>AFb 10 z | none=>true
 | none=>true
theorem sim_zero (t:TypeId) (h:zeroOk P t=true):Sim P (fun τ' a b=>a=b∧AFb 10 a=true) τ (zeroValue t) (zeroValue t):=by
 refine Sim.andThen (sim_typeInfo t) ?_
 rintro τ' i j hl ⟨rfl,hi⟩
 unfold zeroOk at h
 rw [hi] at h
 dsimp only at h
 cases hz:i.zero with
 | none=>exact Sim.halt _ _ _
 | some z=>rw [hz] at h;exact Sim.pure _ _ _ ⟨rfl,h⟩
end ops
end Go.Ev
