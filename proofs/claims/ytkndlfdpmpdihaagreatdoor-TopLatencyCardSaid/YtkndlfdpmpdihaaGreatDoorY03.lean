/- The run on the small world, reckoned; what it reckons of one operation holds on the great one. Words that make the kernel reckon a state out, and tell whether two states are one. The run on the small world, reckoned: regions, code, functions; what it reckons holds on the great one. The run on the sm Conditions: those that each statement shows. -/
import Derived.Test.YtkndlfdpmpdihaaGreatDoorY02
import Derived.Scope
namespace Go.Ev
open Go.RowKit
set_option linter.unusedVariables false
set_option linter.unusedSimpArgs false
def opnd (G:Gl):Operand→Bool
 |.tmp _=>true
 |.const v=>AFb 10 v
 |.global g=>decide (g<G)
 |.func _=>true
def exactB (H:Array Obj) (k:Nat):Bool:=match H[k]? with
 |some (.cells _ _ f)=>f==(0,0)
 |_=>false
def zeroV:Option Value→Bool
 |none=>true
 |some (.int _ n)=>n==0
 |_=>false
def cutB (H:Array Obj) (ρ:Operand→Value) (o:Oper):Bool:=match o.op with
 |.slice _ x lo _ _=>match ρ x with
   |.slice (some a) _ _=>exactB H a.block || zeroV (lo.map ρ)
   |.pointer (some a)=>exactB H a.block
   |_=>true
 |_=>true
def noSel (o:Oper):Bool:=match o.op with|.select ..=>false|_=>true
def xv (s:Sem Value):Sem Next:=do pure (.value (←s))
def xu (s:Sem Unit):Sem Next:=do s;pure .skip
def execC:Op→TypeId→(Operand→Value)→Sem Next
 |.move x=>fun _ ρ=>pure (.value (ρ x))
 |.assign x=>fun _ ρ=>pure (.value (ρ x))
 |.alloc elem=>fun _ _=>xv (Instr.alloc elem true (.tuple #[]))
 |.box elem x=>fun _ ρ=>xv (Instr.box elem (ρ x))
 |.build t parts=>fun _ ρ=>xv (Instr.build t (parts.map fun(i,x)=>(i,ρ x)))
 |.buildSlice t len parts=>fun _ ρ=>xv (Instr.buildSlice t len (parts.map fun(i,x)=>(i,ρ x)))
 |.load t a=>fun _ ρ=>xv (Instr.loadAt t (ρ a))
 |.store t a x=>fun _ ρ=>xu (Instr.storeAt t (ρ a) (ρ x))
 |.binOp op xType x y _=>fun _ ρ=>xv (do eqGuard op xType x y (ρ x) (ρ y);binOp op xType (ρ x) (ρ y))
 |.unOp op _ x=>fun _ ρ=>xv (Op.unary op (ρ x))
 |.convert src dst x=>fun _ ρ=>xv (convert src dst (ρ x))
 |.makeInterface xType x=>fun _ ρ=>xv (Instr.makeInterface xType (ρ x))
 |.makeFunc fn first captured=>fun _ ρ=>xv (Instr.makeFunc fn (first.map ρ) (captured.map ρ))
 |.makeMap t r=>fun _ ρ=>xv (Instr.makeMap t (r.map ρ))
 |.makeSlice t l c=>fun _ ρ=>xv (Instr.makeSlice t (ρ l) (ρ c))
 |.slice t x lo hi mx=>fun _ ρ=>xv (Instr.sliceAt t (ρ x) (lo.map ρ) (hi.map ρ) (mx.map ρ))
 |.fieldAddr s x f=>fun _ ρ=>xv (Instr.fieldAt s (ρ x) f)
 |.field xType x f=>fun _ ρ=>xv (Instr.field xType (ρ x) f)
 |.indexAddr t x ix=>fun _ ρ=>xv (Instr.indexAt t (ρ x) (ρ ix))
 |.index xType x ix=>fun _ ρ=>xv (Instr.index xType (ρ x) (ρ ix))
 |.typeAssert x xType asserted ok=>fun _ ρ=>xv (Instr.typeAssert (ρ x) xType asserted ok)
 |.extract t ix=>fun _ ρ=>xv (Instr.extract (ρ t) ix)
 |.call c=>fun type ρ=>do let d ←resolve ρ c type;invoke d.target d.args
 |op=>fun type ρ=>execOp ρ { dst:=none,op,type,pos := "",after:=#[],guard:=none }
theorem execQ_eq (ρ:Operand→Value) (o:Oper):execC o.op o.type ρ=execOp ρ o:=by
 obtain⟨dst,op,type,pos,after,guard⟩:=o
 cases op<;>rfl
def evalAF (P:Program) (ρ:Operand→Value) (o:Oper):Option Value:=
 if o.op.operands.toList.all (fun x=>AFb 10 (ρ x))&&noSel o then
  match still P (execC o.op o.type ρ) with
  |some (.value v)=>if AFb 10 v then some v else none
  |_=>none
 else none
abbrev Spec:=(Operand→Value)→Oper→World→Option (Next×World)
def evalOp (P:Program) (sp:Spec) (okx:Operand→Bool) (ρ:Operand→Value) (o:Oper) (wa:World):Option (Next×World):=
 if o.op.operands.toList.all okx then
  match evalAF P ρ o with
  |some v=>some (.value v,wa)
  |none=>
    if kindOk P ρ o&&cutB wa.heap ρ o then
     match (execOp ρ o).run P wa with
     |.ok n w=>some (n,w)
     |_=>none
    else sp ρ o wa
 else none
section
variable {P:Program} {G:Gl} {B:FM} {w0:World}
theorem undef_vr (τ:Rel):VR τ undef undef:=AFb.vr 10 undef (by rfl)
structure Env where
 n:Nat
 l:List (Nat×Value)
def look:List (Nat×Value)→Nat→Option Value
 | [],_=>none
 |(k,v)::r,t=>match Nat.beq k t with|true=>some v|false=>look r t
def Env.eval (e:Env):Operand→Value
 |.tmp t=>match look e.l t with|some v=>v|none=>undef
 |.const v=>v
 |.global g=>.pointer (some ⟨g,0,none⟩)
 |.func f=>.func (.func f) #[] #[]
def Env.ok (G:Gl) (e:Env):Operand→Bool
 |.tmp t=>(look e.l t).isSome
 |.const v=>AFb 10 v
 |.global g=>decide (g<G)
 |.func _=>true
def Env.put (e:Env) (d:Option Tmp) (v:Value):Env:=match d with|some d=>⟨e.n,(d,v)::e.l⟩|none=>e
def putK {β:Type} (e:Env) (d:Option Tmp) (v:Value) (k:Env→β):β:=match e with|⟨n,l⟩=>match d with|some d=>k ⟨n,(d,v)::l⟩|none=>k ⟨n,l⟩
theorem putK_eq {β:Type} (e:Env) (d:Option Tmp) (v:Value) (k:Env→β):putK e d v k=k (e.put d v):=by
 cases e;cases d<;>rfl
def Env.fits (e:Env) (d:Option Tmp):Bool:=match d with|some d=>Nat.blt d e.n|none=>true
structure EnvR (τ:Rel) (e:Env) (a':Act):Prop where
 tmps:∀t v,look e.l t=some v→VR τ v (a'.tmps.getD t undef)
 size:a'.tmps.size=e.n
 d':a'.defers=[]
theorem EnvR.mono {τ τ':Rel} (h:τ.le τ') {e:Env} {a':Act} (x:EnvR τ e a'):EnvR τ' e a':=⟨fun t v hv=>(x.tmps t v hv).mono h,x.size,x.d'⟩
theorem EnvR.put {τ:Rel} {e:Env} {a':Act} (x:EnvR τ e a') (d:Option Tmp) (hd:e.fits d=true) {v v':Value} (hv:VR τ v v'):EnvR τ (e.put d v) (a'.put d v'):=by
 cases d with
 |none=>exact x
 |some t=>
   have ht:t<e.n:=by simpa[Env.fits,Nat.blt_eq] using hd
   refine⟨fun s u hu=>?_,by simp[Act.put,Env.put,x.size],x.d'⟩;simp only[Env.put,look] at hu;simp only[Act.put,Array.getD_eq_getD_getElem?]
   by_cases he:t=s
   ·subst he
    rw[Nat.beq_refl] at hu;cases hu;rw[Array.getElem?_setIfInBounds_self,if_pos (by rw[x.size];exact ht)];exact hv
   ·have hb:Nat.beq t s=false:=by
     cases hq:Nat.beq t s with
     |false=>rfl
     |true=>exact absurd (Nat.eq_of_beq_eq_true hq) he
    rw[hb] at hu;rw[Array.getElem?_setIfInBounds_ne he,←Array.getD_eq_getD_getElem?];exact x.tmps s u hu
theorem EnvR.eval {τ:Rel} {e:Env} {a':Act} (x:EnvR τ e a') (hg:∀g:Nat,g<G.n→τ g g none) (y:Operand) (hy:e.ok G y=true):VR τ (e.eval y) (a'.eval y):=by
 cases y with
 |tmp t=>
   simp only[Env.ok] at hy;show VR τ (match look e.l t with|some v=>v|none=>undef) (a'.tmps.getD t undef)
   cases h:look e.l t with
   |none=>rw[h] at hy;cases hy
   |some v=>exact x.tmps t v h
 |const v=>exact AFb.vr _ _ hy
 |global g=>exact .ptr g g 0 none (hg g (by simpa[Env.ok] using hy))
 |func f=>exact .func _ _ _ _ _ (fun l h=>by cases h) rfl rfl (fun i v v' h=>by simp at h) (fun i v v' h=>by simp at h)
theorem Sim.still {α β:Type} {R:Rel→α→β→Prop} {τ:Rel} {s:Sem α} {s':Sem β} (h:Sim P R τ s s'):∀ {a:α},still P s=some a→∃b,Ev.still P s'=some b∧R τ a b:=by
 induction h with
 |pure τ a b h=>intro x hx;simp only[Ev.still,Option.some.injEq] at hx;subst hx;exact⟨b,rfl,h⟩
 |program τ f g _ ih=>intro x hx;exact ih hx
 |mark τ m m' f g _ ih=>intro x hx;exact ih hx
 |halt τ h s=>intro x hx;simp[Ev.still] at hx
 |never τ s s' hn=>intro x hx;exact absurd (still_run _ hx default) (hn _ _ _)
 |load=>intro x hx;simp[Ev.still] at hx
 |store=>intro x hx;simp[Ev.still] at hx
 |new=>intro x hx;simp[Ev.still] at hx
 |getObj=>intro x hx;simp[Ev.still] at hx
 |setObj=>intro x hx;simp[Ev.still] at hx
 |choose=>intro x hx;simp[Ev.still] at hx
theorem WR.exact {τ:Rel} {H:Array Obj} {w:World} (h:WR G B w0 τ H w) {k:Nat} (hk:exactB H k=true):∀r i,τ k r i→i=none:=by
 intro r i ht;unfold exactB at hk;split at hk
 ·rename_i c e f hh
  have hf:f=(0,0):=by simpa using hk
  subst hf;obtain⟨r2,i2,o',h1,h2,h3⟩:=h.blk k _ hh rfl;obtain⟨rfl,rfl⟩:=h.fn _ _ _ _ _ ht h1;cases h3;rfl
 ·cases hk
theorem zeroV_spec {x:Option Value} (h:zeroV x=true):x=none∨∃k,x=some (.int k 0):=by
 cases x with
 |none=>exact .inl rfl
 |some v=>
   cases v<;>first|(simp[zeroV] at h;done)|skip
   rename_i k n
   have:n=0:=by simpa[zeroV] using h
   subst this;exact .inr ⟨k,rfl⟩
def SpecOk (P:Program) (G:Gl) (sp:Spec):Prop:=∀(ρ ρ':Operand→Value) (o:Oper) (wa wa':World) (n:Next),sp ρ o wa=some (n,wa')→∀(B:FM) (w0:World) (τ:Rel) (wr:World),(∀x∈o.op.operands,VR τ (ρ x) (ρ' x))→WR G B w0 τ wa.heap wr →
 ∃ τ' n' wr',τ.le τ'∧(execOp ρ' o).run P wr=.ok n' wr'∧NR τ' n n'∧WR G B w0 τ' wa'.heap wr'
theorem evalAF_spec {ρ ρ':Operand→Value} {o:Oper} {v:Value} {τ:Rel} (hv:∀x∈o.op.operands,VR τ (ρ x) (ρ' x)) (h:evalAF P ρ o=some v) :
 AFb 10 v=true∧∀w,(execOp ρ' o).run P w=.ok (.value v) w:=by
 unfold evalAF at h;simp only[execQ_eq] at h;split at h
 ·rename_i hc
  simp only[Bool.and_eq_true,List.all_eq_true] at hc;split at h
  ·rename_i u hu
   split at h
   ·rename_i hva
    cases h;refine⟨hva,fun w=>?_⟩
    have e:execOp ρ' o=execOp ρ o:=by
     refine execOp_congr o (fun cs b hs=>?_) (fun x hx=>?_)
     ·have:=hc.2;unfold noSel at this;rw[hs] at this;cases this
     ·exact(AFb.eq 10 _ _ (hc.1 x (by simpa using hx)) (hv x hx)).symm
    rw[e];exact still_run _ hu w
   ·cases h
  ·cases h
 ·cases h
theorem evalOp_sound {sp:Spec} (hsp:SpecOk P G sp) {okx:Operand→Bool} {ρ ρ':Operand→Value} {o:Oper} {wa wa' wr:World} {n:Next} {τ:Rel} (hρ:∀x,okx x=true→VR τ (ρ x) (ρ' x)) (hw:WR G B w0 τ wa.heap wr) (h:evalOp P sp okx ρ o wa=some (n,wa')) :
 ∃ τ' n' wr',τ.le τ'∧(execOp ρ' o).run P wr=.ok n' wr'∧NR τ' n n'∧WR G B w0 τ' wa'.heap wr':=by
 unfold evalOp at h;split at h
 ·rename_i ho
  have hv:∀x∈o.op.operands,VR τ (ρ x) (ρ' x):=fun x hx=>hρ x (List.all_eq_true.1 ho x (by simpa using hx));split at h
  ·rename_i v he
   cases h;obtain⟨h1,h2⟩:=evalAF_spec hv he;exact⟨τ,_,wr,Rel.le.refl τ,h2 wr,.value _ _ (AFb.vr _ _ h1),hw⟩
  ·split at h
   ·rename_i hk
    rw[Bool.and_eq_true] at hk
    have hs:Sim P NR τ (execOp ρ o) (execOp ρ' o):=by
     refine sim_exec ρ ρ' o hv hk.1 ?_;intro t x lo hi mx hop;have hc:=hk.2;unfold cutB at hc;rw[hop] at hc;dsimp only at hc;unfold cutOk;split
     ·rename_i ad l c hx
      rw[hx] at hc;simp only[Bool.or_eq_true] at hc;rcases hc with hc|hc
      ·exact .inl (hw.exact hc)
      ·exact .inr (zeroV_spec hc)
     ·rename_i ad hx
      rw[hx] at hc;exact hw.exact hc
     ·trivial
    split at h
    ·rename_i n2 w2 hr
     cases h;exact hs.run hw hr |>.elim fun τ' ⟨b,wr',h1,h2,h3,h4⟩=>⟨τ',b,wr',h1,h2,h3,h4⟩
    ·cases h
   ·exact hsp _ _ o wa wa' n h B w0 τ wr hv hw
 ·cases h
end
section force
variable {β:Type}
def forceNat (n:Nat) (k:Nat→β):β:=match n with | 0=>k 0|m+1=>k (m+1)
theorem forceNat_eq (n:Nat) (k:Nat→β):forceNat n k=k n:=by cases n<;>rfl
def forceInt (n:Int) (k:Int→β):β:=match n with|.ofNat m=>forceNat m fun m=>k (.ofNat m)|.negSucc m=>forceNat m fun m=>k (.negSucc m)
theorem forceInt_eq (n:Int) (k:Int→β):forceInt n k=k n:=by cases n<;>simp[forceInt,forceNat_eq]
def forceOptNat (n:Option Nat) (k:Option Nat→β):β:=match n with|none=>k none|some m=>forceNat m fun m=>k (some m)
theorem forceOptNat_eq (n:Option Nat) (k:Option Nat→β):forceOptNat n k=k n:=by cases n<;>simp[forceOptNat,forceNat_eq]
def forceAddr (a:Addr) (k:Addr→β):β:=match a with|⟨b,o,s⟩=>forceNat b fun b=>forceNat o fun o=>forceOptNat s fun s=>k ⟨b,o,s⟩
theorem forceAddr_eq (a:Addr) (k:Addr→β):forceAddr a k=k a:=by cases a;simp[forceAddr,forceNat_eq,forceOptNat_eq]
def forceOptAddr (n:Option Addr) (k:Option Addr→β):β:=match n with|none=>k none|some m=>forceAddr m fun m=>k (some m)
theorem forceOptAddr_eq (n:Option Addr) (k:Option Addr→β):forceOptAddr n k=k n:=by cases n<;>simp[forceOptAddr,forceAddr_eq]
def forceL {α:Type} (f:α→(α→β)→β):List α→(List α→β)→β
 | [],k=>k []
 |x::xs,k=>f x fun x=>forceL f xs fun xs=>k (x::xs)
theorem forceL_eq {α:Type} (f:α→(α→β)→β) (hf:∀x k,f x k=k x):∀(l:List α) (k:List α→β),forceL f l k=k l
 | [],k=>rfl
 |x::xs,k=>by rw[forceL,hf,forceL_eq f hf xs]
def spine {α:Type} (l:List α) (k:List α→β):β:=forceL (fun x k=>k x) l k
theorem spine_eq {α:Type} (l:List α) (k:List α→β):spine l k=k l:=forceL_eq _ (fun _ _=>rfl) l k
def forceS (s:ByteArray) (k:ByteArray→β):β:=match s with|⟨⟨l⟩⟩=>spine l fun l=>k ⟨⟨l⟩⟩
theorem forceS_eq (s:ByteArray) (k:ByteArray→β):forceS s k=k s:=by cases s with|mk d=>cases d with|mk l=>simp[forceS,spine_eq]
def forceV:Nat→Value→(Value→β)→β
 | 0,v,k=>k v
 |n+1,v,k=>match v with
   |.bool b=>match b with|true=>k (.bool true)|false=>k (.bool false)
   |.int q m=>forceInt m fun m=>k (.int q m)
   |.string s=>forceS s fun s=>k (.string s)
   |.pointer a=>forceOptAddr a fun a=>k (.pointer a)
   |.slice a l c=>forceOptAddr a fun a=>forceNat l fun l=>forceNat c fun c=>k (.slice a l c)
   |.map r=>forceOptNat r fun r=>k (.map r)
   |.iface t v=>forceV n v fun v=>k (.iface t v)
   |.agg ⟨xs⟩=>forceL (forceV n) xs fun xs=>k (.agg ⟨xs⟩)
   |.tuple ⟨xs⟩=>forceL (forceV n) xs fun xs=>k (.tuple ⟨xs⟩)
   |.func (.yield l) xs ys=>k (.func (.yield l) xs ys)
   |.func fn ⟨xs⟩ ⟨ys⟩=>forceL (forceV n) xs fun xs=>forceL (forceV n) ys fun ys=>k (.func fn ⟨xs⟩ ⟨ys⟩)
   |v=>k v
theorem forceV_eq:∀(n:Nat) (v:Value) (k:Value→β),forceV n v k=k v:=by
 intro n
 induction n with
 |zero=>intro v k;rfl
 |succ n ih=>
   intro v k
   cases v with
   |bool b=>cases b<;>rfl
   |int q m=>simp[forceV,forceInt_eq]
   |string s=>simp[forceV,forceS_eq]
   |pointer a=>simp[forceV,forceOptAddr_eq]
   |slice a l c=>simp[forceV,forceOptAddr_eq,forceNat_eq]
   |map r=>simp[forceV,forceOptNat_eq]
   |iface t v=>simp[forceV,ih]
   |agg xs=>cases xs;simp[forceV,forceL_eq _ ih]
   |tuple xs=>cases xs;simp[forceV,forceL_eq _ ih]
   |func fn xs ys=>cases xs;cases ys;cases fn<;>simp[forceV,forceL_eq _ ih]
   |_=>rfl
def forceObj (o:Obj) (k:Obj→β):β:=match o with
 |.cells ⟨cs⟩ e f=>spine cs fun cs=>k (.cells ⟨cs⟩ e f)
 |.map ⟨es⟩ c=>spine es fun es=>forceNat c fun c=>k (.map ⟨es⟩ c)
 |o=>k o
theorem forceObj_eq (o:Obj) (k:Obj→β):forceObj o k=k o:=by
 cases o with
 |cells cs e f=>cases cs;simp[forceObj,spine_eq]
 |map es c=>cases es;simp[forceObj,spine_eq,forceNat_eq]
 |_=>rfl
end force
def leq {α:Type} (f:α→α→Bool):List α→List α→Bool
 | [],[]=>true
 |x::xs,y::ys=>f x y&&leq f xs ys
 |_,_=>false
theorem leq_eq {α:Type} (f:α→α→Bool) (hf:∀x y,f x y=true→x=y):∀(l m:List α),leq f l m=true→l=m
 | [],[],_=>rfl
 |x::xs,y::ys,h=>by
   simp only[leq,Bool.and_eq_true] at h;rw[hf _ _ h.1,leq_eq f hf xs ys h.2]
 | [],_::_,h=>by cases h
 |_::_,[],h=>by cases h
def bytesEq (a b:ByteArray):Bool:=leq (fun x y=>x.toNat==y.toNat) a.data.toList b.data.toList
theorem bytesEq_eq (a b:ByteArray) (h:bytesEq a b=true):a=b:=by
 cases a with|mk a=>cases b with|mk b=>
 have:=leq_eq _ (fun x y hxy=>by have:x.toNat=y.toNat:=by simpa using hxy
                                 exact UInt8.toNat_inj.1 this) _ _ h
 simp only at this;rw[Array.toList_inj.1 this]
def veq:Nat→Value→Value→Bool
 | 0,_,_=>false
 |n+1,v,u=>match v,u with
   |.bool a,.bool b=>a==b
   |.int j a,.int k b=>j==k&&a==b
   |.string a,.string b=>bytesEq a b
   |.pointer a,.pointer b=>a==b
   |.slice a l c,.slice b m d=>a==b&&l==m&&c==d
   |.map a,.map b=>a==b
   |.nilFunc,.nilFunc=>true
   |.nilIface,.nilIface=>true
   |.iface t a,.iface s b=>t==s&&veq n a b
   |.agg a,.agg b=>leq (veq n) a.toList b.toList
   |.tuple a,.tuple b=>leq (veq n) a.toList b.toList
   |.func f a b,.func g c d=>f==g&&leq (veq n) a.toList c.toList&&leq (veq n) b.toList d.toList
   |_,_=>false
theorem veq_eq:∀(n:Nat) (v u:Value),veq n v u=true→v=u:=by
 intro n
 induction n with
 |zero=>intro v u h;cases h
 |succ n ih=>
   have hl:∀a b:Array Value,leq (veq n) a.toList b.toList=true→a=b:=fun a b h=>Array.toList_inj.1 (leq_eq _ ih _ _ h);intro v u h;unfold veq at h;split at h
   ·simp at h;rw[h]
   ·simp at h;rw[h.1,h.2]
   ·rw[bytesEq_eq _ _ h]
   ·simp at h;rw[h]
   ·simp at h;rw[h.1.1,h.1.2,h.2]
   ·simp at h;rw[h]
   ·rfl
   ·rfl
   ·simp only[Bool.and_eq_true,beq_iff_eq] at h;rw[h.1,ih _ _ h.2]
   ·rw[hl _ _ h]
   ·rw[hl _ _ h]
   ·simp only[Bool.and_eq_true,beq_iff_eq] at h;rw[h.1.1,hl _ _ h.1.2,hl _ _ h.2]
   ·cases h
abbrev Ev:=FuncId→Array Value→World→Option (Value×World)
def forceArr {β:Type} (xs:Array Value) (k:Array Value→β):β:=match xs with|⟨l⟩=>forceL (forceV 20) l fun l=>k ⟨l⟩
theorem forceArr_eq {β:Type} (xs:Array Value) (k:Array Value→β):forceArr xs k=k xs:=by cases xs;simp[forceArr,forceL_eq _ (forceV_eq 20)]
def forceAt {β:Type}:Nat→List Obj→(List Obj→β)→β
 |_,[],k=>k []
 | 0,o::r,k=>forceObj o fun o=>spine r fun r=>k (o::r)
 |n+1,o::r,k=>forceAt n r fun r=>k (o::r)
theorem forceAt_eq {β:Type}:∀(n:Nat) (l:List Obj) (k:List Obj→β),forceAt n l k=k l
 | 0,[],k=>rfl
 |_+1,[],k=>rfl
 | 0,o::r,k=>by rw[forceAt,forceObj_eq,spine_eq]
 |n+1,o::r,k=>by rw[forceAt,forceAt_eq n r]
def writes:Op→Bool
 |.alloc _|.box _ _|.buildSlice _ _ _|.makeSlice _ _ _|.makeMap _ _|.store _ _ _|.mapUpdate _ _ _ _|.insert _ _ _ _=>true
 |.call ⟨.builtin _,_,_⟩=>true
 |_=>false
def tgt (ρ:Operand→Value) (o:Oper) (n:Nat):Nat:=match o.op with
 |.store _ a _=>match ρ a with|.pointer (some ad)=>ad.block|_=>n
 |.mapUpdate _ m _ _=>match ρ m with|.map (some k)=>k|_=>n
 |.insert _ m _ _=>match ρ m with|.map (some k)=>k|_=>n
 |.call ⟨_,args,_⟩=>match args.toList with|m::_=>(match ρ m with|.map (some k)=>k|_=>n)|_=>n
 |_=>n
def forceWo {β:Type} (ρ:Operand→Value) (o:Oper) (n:Nat) (w:World) (k:World→β):β:=match writes o.op with
 |true=>match w with|⟨⟨h⟩,t,d,os,u⟩=>forceAt (tgt ρ o n) h fun h=>k ⟨⟨h⟩,t,d,os,u⟩
 |false=>k w
theorem forceWo_eq {β:Type} (ρ:Operand→Value) (o:Oper) (n:Nat) (w:World) (k:World→β):forceWo ρ o n w k=k w:=by
 obtain⟨⟨h⟩,t,d,os,u⟩:=w;unfold forceWo
 split<;>simp[forceAt_eq]
def wantedE (ops:Array Oper) (e:Env) (o:Oper):Option Bool:=match o.guard with
 |none=>some true
 |some (j,want)=>match (ops[j]?).bind (·.dst) with
   |none=>some false
   |some d=>match look e.l d with
     |some (.bool b)=>some (b==want)
     |some (.func _ _ _)=>none
     |some _=>some false
     |none=>none
theorem wantedE_spec {τ:Rel} {ops:Array Oper} {e:Env} {a':Act} {o:Oper} {q:Bool} (h:wantedE ops e o=some q) (ha:EnvR τ e a'):Region.wanted o (yielded ops a'.tmps)=q:=by
 unfold wantedE at h;unfold Region.wanted
 cases hg:o.guard with
 |none=>rw[hg] at h;cases h;rfl
 |some x=>
   obtain⟨j,want⟩:=x;rw[hg] at h;dsimp only at h ⊢;unfold yielded
   cases hd:((ops[j]?).bind (·.dst)) with
   |none=>rw[hd] at h;cases h;rfl
   |some d=>
     rw[hd] at h;simp only[Option.bind_some];dsimp only at h
     cases hl:look e.l d with
     |none=>rw[hl] at h;cases h
     |some v=>
       rw[hl] at h;have hv:=ha.tmps d v hl;rw[Array.getD_eq_getD_getElem?] at hv
       cases hx:a'.tmps[d]? with
       |none=>
         rw[hx] at hv;simp only[Option.getD_none] at hv
         cases v<;>first|(cases h;done)|(cases h;rfl)|(cases hv)
       |some u=>
         rw[hx] at hv;simp only[Option.getD_some] at hv
         cases hv<;>first|(cases h;done)|(cases h;rfl)|(cases h;cases want<;>rename_i b<;>cases b<;>rfl)
section ev
variable (P:Program) (G:Gl) (sp:Spec) (ev:Ev)
def stepB (o:Oper) (e:Env) (w:World):Option (Env×World):=
 match e.fits o.dst with
 |false=>none
 |true=>match evalOp P sp (e.ok G) e.eval o w with
   |some (.value v,w')=>forceV 20 v fun v=>forceWo e.eval o w.heap.size w' fun w'=>putK e o.dst v fun e'=>some (e',w')
   |some (.skip,w')=>forceWo e.eval o w.heap.size w' fun w'=>putK e o.dst undef fun e'=>some (e',w')
   |some (.enter f args,w')=>forceArr args fun args=>match ev f args w' with
     |some (v,w'')=>forceV 20 v fun v=>putK e o.dst v fun e'=>some (e',w'')
     |none=>none
   |_=>none
def stepOps (ops:Array Oper):List Nat→Env→World→Option (Env×World)
 | [],e,w=>some (e,w)
 |i::rest,e,w=>match ops[i]? with
   |none=>stepOps ops rest e w
   |some o=>match wantedE ops e o with
     |some true=>match stepB P G sp ev o e w with
       |some (e',w')=>stepOps ops rest e' w'
       |none=>none
     |some false=>match e.fits o.dst with
       |true=>putK e o.dst undef fun e'=>stepOps ops rest e' w
       |false=>none
     |none=>none
def evalLoop (body:Env→World→Option (Exit×Env×World)):Nat→Env→World→Option (Exit×Env×World)
 | 0,_,_=>none
 |n+1,a,w=>match body a w with
   |some (.normal,a',w')=>evalLoop body n a' w'
   |r=>r
abbrev Drawn:=Array Oper→Env→World→Option (Env×World)
def evalCode (dr:Drawn):Nat→Code→Env→World→Option (Exit×Env×World)
 | 0,_,_,_=>none
 |n+1,c,a,w=>match c with
   |.skip=>some (.normal,a,w)
   |.label _=>some (.normal,a,w)
   |.ret=>some (.ret,a,w)
   |.exit id=>some (.exit id,a,w)
   |.region _ ops false=>match stepOps P G sp ev ops (List.range ops.size) a w with
     |some (a',w')=>some (.normal,a',w')
     |none=>none
   |.region _ ops true=>match dr ops a w with
     |some (a',w')=>some (.normal,a',w')
     |none=>none
   |.seq x y=>match evalCode dr n x a w with
     |some (.normal,a',w')=>evalCode dr n y a' w'
     |r=>r
   |.cond c x y=>match a.eval c with
     |.bool true=>evalCode dr n x a w
     |.bool false=>evalCode dr n y a w
     |_=>none
   |.block id body=>match evalCode dr n body a w with
     |some (.exit k,a',w')=>if k=id then some (.normal,a',w') else some (.exit k,a',w')
     |r=>r
   |.loop body=>evalLoop (evalCode dr n body) n a w
   |.scope body=>match evalCode dr n body a w with
     |some (.goto _,_,_)=>none
     |r=>r
   |_=>none
end ev
section sound
variable {P:Program} {G:Gl} {sp:Spec} {ev:Ev}
def EvOk (P:Program) (G:Gl) (ev:Ev):Prop:=∀f args wa v wa2,ev f args wa=some (v,wa2)→∀B w0 τ args' wr,AR τ args args'→WR G B w0 τ wa.heap wr →
 Calls P f args' wr fun e wr'=>∃ τ' v',e=.returned v'∧τ.le τ'∧VR τ' v v'∧WR G B w0 τ' wa2.heap wr'
theorem stepB_sound (hsp:SpecOk P G sp) (hev:EvOk P G ev) {o:Oper} {a a2:Env} {wa wa2:World} (h:stepB P G sp ev o a wa=some (a2,wa2)) {B:FM} {w0:World} {τ:Rel} {a':Act} {wr:World} (ha:EnvR τ a a') (hw:WR G B w0 τ wa.heap wr)
 {K:Act→World→Prop} {Q:Exit→Act→World→Prop} (hK:∀ τ' a2' wr',τ.le τ'→EnvR τ' a2 a2'→WR G B w0 τ' wa2.heap wr'→K a2' wr'):o.wp P a' wr K Q:=by
 unfold stepB at h;unfold Oper.wp;split at h
 ·cases h
 rename_i hfit;have hρ:∀x,a.ok G x=true→VR τ (a.eval x) (a'.eval x):=fun x hx=>ha.eval hw.glob x hx;split at h
 ·rename_i v w' he
  simp only[forceV_eq,forceWo_eq,putK_eq,Option.some.injEq,Prod.mk.injEq] at h;obtain⟨rfl,rfl⟩:=h;obtain⟨τ',n',wr',h1,h2,h3,h4⟩:=evalOp_sound hsp hρ hw he;rw[h2]
  cases h3 with
  |value v v' hv=>exact hK τ' _ _ h1 ((ha.mono h1).put o.dst hfit hv) h4
 ·rename_i w' he
  simp only[forceWo_eq,putK_eq,Option.some.injEq,Prod.mk.injEq] at h;obtain⟨rfl,rfl⟩:=h;obtain⟨τ',n',wr',h1,h2,h3,h4⟩:=evalOp_sound hsp hρ hw he;rw[h2]
  cases h3 with
  |skip=>exact hK τ' _ _ h1 ((ha.mono h1).put o.dst hfit (undef_vr _)) h4
 ·rename_i f args w' he
  simp only[forceArr_eq] at h;split at h
  ·rename_i v w'' hc
   simp only[forceV_eq,putK_eq,Option.some.injEq,Prod.mk.injEq] at h;obtain⟨rfl,rfl⟩:=h;obtain⟨τ',n',wr',h1,h2,h3,h4⟩:=evalOp_sound hsp hρ hw he;rw[h2]
   cases h3 with
   |enter f xs ys hx=>
     refine(hev _ _ _ _ _ hc B w0 τ' ys wr' hx h4).mono ?_;rintro e wr2 ⟨τ2,v',rfl,l2,hv,w2⟩;exact hK τ2 _ _ (h1.trans l2) ((ha.mono (h1.trans l2)).put o.dst hfit hv) w2
  ·cases h
 ·cases h
theorem stepOps_sound (hsp:SpecOk P G sp) (hev:EvOk P G ev) (ops:Array Oper):∀(l:List Nat) {a a2:Env} {wa wa2:World},stepOps P G sp ev ops l a wa=some (a2,wa2)→∀ {B:FM} {w0:World} {τ:Rel} {a':Act} {wr:World},EnvR τ a a'→WR G B w0 τ wa.heap wr →
 ∀ {Q:Exit→Act→World→Prop},(∀ τ' a2' wr',τ.le τ'→EnvR τ' a2 a2'→WR G B w0 τ' wa2.heap wr'→Q .normal a2' wr')→wpOps P ops Q l a' wr:=by
 intro l
 induction l with
 |nil=>
   intro a a2 wa wa2 h B w0 τ a' wr ha hw Q hQ;simp only[stepOps,Option.some.injEq,Prod.mk.injEq] at h;obtain⟨rfl,rfl⟩:=h;exact hQ τ _ _ (Rel.le.refl _) ha hw
 |cons i rest ih=>
   intro a a2 wa wa2 h B w0 τ a' wr ha hw Q hQ;unfold stepOps at h;unfold wpOps
   cases ho:ops[i]? with
   |none=>rw[ho] at h;exact ih h ha hw hQ
   |some o=>
     rw[ho] at h;dsimp only at h ⊢;split at h
     ·rename_i hwant
      rw[if_pos (wantedE_spec hwant ha)];split at h
      ·rename_i a1 w1 hs
       refine .inl (stepB_sound hsp hev hs ha hw ?_);intro τ' a1' wr' l1 ha1 hw1;exact ih h ha1 hw1 (fun τ2 a2' wr2 l2 h2 h3=>hQ τ2 a2' wr2 (l1.trans l2) h2 h3)
      ·cases h
     ·rename_i hwant
      rw[if_neg (by rw[wantedE_spec hwant ha];simp)];split at h
      ·rename_i hfit
       rw[putK_eq] at h;exact ih h (ha.put o.dst hfit (undef_vr _)) hw hQ
      ·cases h
     ·cases h
def DrOk (P:Program) (G:Gl) (dr:Drawn):Prop:=∀id ops a a2 wa wa2,dr ops a wa=some (a2,wa2)→∀B w0 τ a' wr,EnvR τ a a'→WR G B w0 τ wa.heap wr →
 ∀Q:Exit→Act→World→Prop,(∀ τ' a2' wr',τ.le τ'→EnvR τ' a2 a2'→WR G B w0 τ' wa2.heap wr'→Q .normal a2' wr')→(Code.region id ops true).wp P Q a' wr
theorem evalLoop_sound {body:Env→World→Option (Exit×Env×World)} {c:Code}
 (hb:∀ {ex a a2 wa wa2},body a wa=some (ex,a2,wa2)→∀ {B w0 τ a' wr},EnvR τ a a'→WR G B w0 τ wa.heap wr→∀ {Q:Exit→Act→World→Prop},(∀ τ' a2' wr',τ.le τ'→EnvR τ' a2 a2'→WR G B w0 τ' wa2.heap wr'→Q ex a2' wr')→c.wp P Q a' wr) :
 ∀(n:Nat) {ex a a2 wa wa2},evalLoop body n a wa=some (ex,a2,wa2)→∀ {B w0 τ a' wr},EnvR τ a a'→WR G B w0 τ wa.heap wr→∀ {Q:Exit→Act→World→Prop},(∀ τ' a2' wr',τ.le τ'→EnvR τ' a2 a2'→WR G B w0 τ' wa2.heap wr'→Q ex a2' wr')→ex≠.normal→Code.rounds P c Q n a' wr:=by
 intro n
 induction n with
 |zero=>intro ex a a2 wa wa2 h;cases h
 |succ n ih=>
   intro ex a a2 wa wa2 h B w0 τ a' wr ha hw Q hQ hne;unfold evalLoop at h;unfold Code.rounds
   cases hbd:body a wa with
   |none=>rw[hbd] at h;cases h
   |some r=>
     obtain⟨e1,a1,w1⟩:=r;rw[hbd] at h;refine hb hbd ha hw ?_;intro τ' a1' wr' l1 ha1 hw1
     cases e1 with
     |normal=>exact ih h ha1 hw1 (fun τ2 a2' wr2 l2 h2 h3=>hQ τ2 a2' wr2 (l1.trans l2) h2 h3) hne
     |_=>cases h;exact hQ τ' a1' wr' l1 ha1 hw1
end sound
section sound
variable {P:Program} {G:Gl} {sp:Spec} {ev:Ev}
theorem evalLoop_ne {body:Env→World→Option (Exit×Env×World)}:∀(n:Nat) {ex a a2 wa wa2},evalLoop body n a wa=some (ex,a2,wa2)→ex≠.normal:=by
 intro n
 induction n with
 |zero=>intro ex a a2 wa wa2 h;cases h
 |succ n ih=>
   intro ex a a2 wa wa2 h;unfold evalLoop at h
   cases hbd:body a wa with
   |none=>rw[hbd] at h;cases h
   |some r=>
     obtain⟨e1,a1,w1⟩:=r;rw[hbd] at h
     cases e1 with
     |normal=>exact ih h
     |_=>cases h;simp
theorem evalCode_sound (hsp:SpecOk P G sp) (hev:EvOk P G ev) {dr:Drawn} (hdr:DrOk P G dr):∀(n:Nat) {c:Code} {ex a a2 wa wa2},evalCode P G sp ev dr n c a wa=some (ex,a2,wa2)→∀ {B w0 τ a' wr},EnvR τ a a'→WR G B w0 τ wa.heap wr →
 ∀ {Q:Exit→Act→World→Prop},(∀ τ' a2' wr',τ.le τ'→EnvR τ' a2 a2'→WR G B w0 τ' wa2.heap wr'→Q ex a2' wr')→c.wp P Q a' wr:=by
 intro n
 induction n with
 |zero=>intro c ex a a2 wa wa2 h;cases h
 |succ n ih=>
   intro c ex a a2 wa wa2 h B w0 τ a' wr ha hw Q hQ;unfold evalCode at h
   cases c with
   |skip=>cases h;exact wp_skip (hQ τ _ _ (Rel.le.refl _) ha hw)
   |label l=>cases h;exact wp_label (hQ τ _ _ (Rel.le.refl _) ha hw)
   |ret=>cases h;exact wp_ret (hQ τ _ _ (Rel.le.refl _) ha hw)
   |exit id=>cases h;exact wp_exit (hQ τ _ _ (Rel.le.refl _) ha hw)
   |region id ops dw=>
     cases dw with
     |false=>
       dsimp only at h;split at h
       ·rename_i a1 w1 hs
        cases h;exact wp_region (stepOps_sound hsp hev ops _ hs ha hw hQ)
       ·cases h
     |true=>
       dsimp only at h;split at h
       ·rename_i a1 w1 hs
        cases h;exact hdr id ops a _ wa _ hs B w0 τ a' wr ha hw Q hQ
       ·cases h
   |seq x y=>
     dsimp only at h;refine wp_seq ?_
     cases hx:evalCode P G sp ev dr n x a wa with
     |none=>rw[hx] at h;cases h
     |some r=>
       obtain⟨e1,a1,w1⟩:=r;rw[hx] at h;refine ih hx ha hw ?_;intro τ' a1' wr' l1 ha1 hw1
       cases e1 with
       |normal=>exact ih h ha1 hw1 (fun τ2 a2' wr2 l2 h2 h3=>hQ τ2 a2' wr2 (l1.trans l2) h2 h3)
       |_=>cases h;exact hQ τ' a1' wr' l1 ha1 hw1
   |cond c x y=>
     dsimp only at h
     have hop:∀b,a.eval c=.bool b→a'.eval c=.bool b:=by
      intro b hb
      cases c with
      |tmp t=>
        have hb2:(match look a.l t with|some v=>v|none=>undef)=.bool b:=hb
        cases hl:look a.l t with
        |none=>rw[hl] at hb2;cases hb2
        |some v=>
          rw[hl] at hb2;have hb2:v=.bool b:=hb2;subst hb2;have hv:=ha.tmps t _ hl;show a'.tmps.getD t undef=.bool b;generalize a'.tmps.getD t undef=q at hv ⊢;cases hv;rfl
      |const v=>exact hb
      |global g=>cases hb
      |func f=>cases hb
     split at h
     ·rename_i hc
      exact wp_cond_true (hop _ hc) (ih h ha hw hQ)
     ·rename_i hc
      exact wp_cond_false (hop _ hc) (ih h ha hw hQ)
     ·cases h
   |block id body=>
     dsimp only at h;refine wp_block ?_
     cases hx:evalCode P G sp ev dr n body a wa with
     |none=>rw[hx] at h;cases h
     |some r=>
       obtain⟨e1,a1,w1⟩:=r;rw[hx] at h;refine ih hx ha hw ?_;intro τ' a1' wr' l1 ha1 hw1
       cases e1 with
       |exit k=>
         dsimp only at h;show (if k=id then Q Exit.normal a1' wr' else Q (Exit.exit k) a1' wr');split at h
         ·rename_i hk
          cases h;rw[if_pos hk];exact hQ τ' a1' wr' l1 ha1 hw1
         ·rename_i hk
          cases h;rw[if_neg hk];exact hQ τ' a1' wr' l1 ha1 hw1
       |_=>cases h;exact hQ τ' a1' wr' l1 ha1 hw1
   |loop body=>
     dsimp only at h;exact wp_loop_rounds n (evalLoop_sound (body:=evalCode P G sp ev dr n body) (c:=body) (fun h1=>fun h2 h3=>fun h4=>ih h1 h2 h3 h4) n h ha hw hQ (evalLoop_ne n h))
   |scope body=>
     dsimp only at h;refine wp_scope_straight ?_
     cases hx:evalCode P G sp ev dr n body a wa with
     |none=>rw[hx] at h;cases h
     |some r=>
       obtain⟨e1,a1,w1⟩:=r;rw[hx] at h;refine ih hx ha hw ?_;intro τ' a1' wr' l1 ha1 hw1
       cases e1 with
       |goto l=>cases h
       |_=>cases h;exact hQ τ' a1' wr' l1 ha1 hw1
   |_=>cases h
inductive RO:{α:Type}→Sem α→Prop
 |pure {α:Type} (a:α):RO (.pure a)
 |load {α:Type} (m:Mode) (a:Addr) (k:Value→Sem α):(∀v,RO (k v))→RO (.load m a k)
 |program {α:Type} (k:Program→Sem α):(∀p,RO (k p))→RO (.program k)
 |mark {α:Type} (m:Mark) (k:Sem α):RO k→RO (.mark m k)
 |halt {α:Type} (h:Halt):RO (.halt h:Sem α)
theorem RO.same {α:Type} {s:Sem α} (h:RO s):∀ {w w':World} {a:α},s.run P w=.ok a w'→w'=w:=by
 induction h with
 |pure a=>intro w w' b hr;simp only[Sem.run,Result.ok.injEq] at hr;exact hr.2.symm
 |load m a k _ ih=>
   intro w w' b hr;simp only[Sem.run] at hr;split at hr
   ·exact ih _ hr
   ·split at hr
    ·exact ih _ hr
    ·cases hr
 |program k _ ih=>intro w w' b hr;exact ih P hr
 |mark m k _ ih=>intro w w' b hr;exact ih hr
 |halt h=>intro w w' b hr;cases hr
theorem RO.bind {α β:Type} {s:Sem α} (h:RO s) {f:α→Sem β} (hf:∀a,RO (f a)):RO (s.bind f):=by
 induction h with
 |pure a=>exact hf a
 |load m a k _ ih=>exact .load m a _ (fun v=>ih v)
 |program k _ ih=>exact .program _ (fun v=>ih v)
 |mark m k _ ih=>exact .mark m _ ih
 |halt h=>exact .halt h
theorem RO.then {α β:Type} {s:Sem α} (h:RO s) {f:α→Sem β} (hf:∀a,RO (f a)):RO (s >>= f):=RO.bind h hf
theorem ro_typeInfo (t:TypeId):RO (typeInfo t):=RO.then (.program _ (fun p=>.pure p)) (fun p=>by split<;>first|exact .pure _|exact .halt _)
theorem ro_underlying (t:TypeId):RO (underlying t):=RO.then (.program _ (fun p=>.pure p)) (fun p=>by split<;>first|exact .pure _|exact .halt _)
theorem ro_cells:∀(n:Nat) (a:Addr) (i:Nat) (xs:Array Value),RO (loadCellsFrom a i n xs)
 | 0,a,i,xs=>.pure _
 |n+1,a,i,xs=>RO.then (.load _ _ _ (fun v=>.pure v)) (fun v=>ro_cells n a (i+1) _)
theorem ro_loadVar (t:TypeId) (a:Addr):RO (loadVar t a):=by
 refine RO.then (RO.then (ro_underlying t) (fun d=>by split<;>exact .pure _)) (fun b=>?_)
 split
 ·refine RO.then (RO.then (ro_typeInfo t) (fun i=>.pure _)) (fun n=>RO.then (ro_cells n a 0 _) (fun xs=>.pure _))
 ·exact .load _ _ _ (fun v=>.pure v)
theorem ro_mapM {α β:Type} {f:α→Sem β} (hf:∀x,RO (f x)):∀l:List α,RO (l.mapM f)
 | []=>by rw[List.mapM_nil];exact .pure _
 |x::l=>by rw[List.mapM_cons];exact RO.then (hf x) (fun a=>RO.then (ro_mapM hf l) (fun b=>.pure _))
theorem ro_results (fn:Func) (xs:Array Value):RO (results fn xs):=by
 unfold results;refine RO.then ?_ (fun vs=>.pure _);rw[Array.mapM_eq_mapM_toList];refine RO.then (ro_mapM (fun x=>?_) _) (fun l=>.pure _)
 cases x with
 |tmp t=>exact .pure _
 |cell a t=>
   refine RO.then ?_ (fun a=>ro_loadVar t a);unfold asAddr;split
   ·exact .pure _
   ·unfold runtimePanic
    exact RO.then (.program _ (fun p=>.pure p)) (fun p=>.halt _)
   ·exact .halt _
theorem sim_mapM {τ:Rel} {α:Type} {f g:α→Sem Value}:∀(l:List α) {τ':Rel},τ.le τ'→(∀x∈l,∀ τ',τ.le τ'→Sim P RV τ' (f x) (g x))→Sim P (fun τ (a b:List Value)=>AR τ ⟨a⟩ ⟨b⟩) τ' (l.mapM f) (l.mapM g):=by
 intro l
 induction l with
 |nil=>intro τ' h _;rw[List.mapM_nil,List.mapM_nil];exact Sim.pure _ _ _ (AR.nil _)
 |cons x l ih=>
   intro τ' h hf;rw[List.mapM_cons,List.mapM_cons];refine Sim.andThen (hf x (by simp) τ' h) ?_;intro τ1 a b h1 hab;refine Sim.andThen (ih (h.trans h1) (fun y hy=>hf y (by simp[hy]))) ?_;intro τ2 as bs h2 hs;refine Sim.pure _ _ _ ?_;have:=(AR.one (hab.mono h2)).append hs;simpa using this
theorem sim_results (fn:Func) {τ:Rel} {xs ys:Array Value} (h:∀r∈fn.results,match r with|.tmp t=>VR τ (xs.getD t undef) (ys.getD t undef)|.cell t _=>VR τ (xs.getD t undef) (ys.getD t undef)):Sim P RV τ (results fn xs) (results fn ys):=by
 unfold results;refine Sim.andThen (R:=fun τ a b=>AR τ a b) ?_ ?_
 ·rw[Array.mapM_eq_mapM_toList,Array.mapM_eq_mapM_toList]
  refine Sim.andThen (sim_mapM fn.results.toList (Rel.le.refl τ) ?_) ?_
  ·intro x hx τ' hl
   have hxx:=h x (by simpa using hx)
   cases x with
   |tmp t=>exact Sim.pure _ _ _ (VR.mono hl hxx)
   |cell a t=>
     refine Sim.andThen (R:=RA) ?_ ?_
     ·have hx:VR τ' (xs.getD a undef) (ys.getD a undef):=VR.mono hl hxx
      clear hxx;generalize xs.getD a undef=p at hx ⊢;generalize ys.getD a undef=q at hx ⊢
      cases hx with
      |ptr k r o i t=>exact Sim.pure _ _ _ ⟨k,r,o,i,rfl,rfl,t⟩
      |ptr0=>exact Sim.never _ _ _ (by unfold asAddr;exact never_runtime _)
      |_=>exact Sim.halt _ _ _
     ·intro τ2 a b h2 hab
      exact sim_loadVar t hab
  ·intro τ1 a b h1 hab
   exact Sim.pure _ _ _ hab
 ·intro τ1 a b h1 hab
  refine Sim.pure _ _ _ ?_
  by_cases h1:a.size=1
  ·have h2:b.size=1:=by rw[←hab.1];exact h1
   rw[dif_pos h1,dif_pos h2];exact hab.2 0 _ _ (Array.getElem?_eq_getElem (by omega)) (Array.getElem?_eq_getElem (by omega))
  ·have h2:b.size≠1:=by rw[←hab.1];exact h1
   rw[dif_neg h1,dif_neg h2];exact VR.tuple_ hab
def resTmps (fn:Func):List Nat:=fn.results.toList.map fun|.tmp t=>t|.cell t _=>t
def Env.row (e:Env) (ts:List Nat):Array Value:=(ts.foldl (fun(r:Array Value) t=>match look e.l t with|some v=>r.setIfInBounds t v|none=>r) (Array.replicate ((ts.foldl max 0)+1) undef))
def Env.has (e:Env) (ts:List Nat):Bool:=ts.all fun t=>(look e.l t).isSome
theorem row_get (e:Env):∀(ts:List Nat) (r:Array Value) (t:Nat),(∀x∈ts,(look e.l x).isSome=true∧x<r.size) →
 (ts.foldl (fun(r:Array Value) t=>match look e.l t with|some v=>r.setIfInBounds t v|none=>r) r)[t]?=if t∈ts then look e.l t else r[t]?
 | [],r,t,_=>by simp
 |x::ts,r,t,h=>by
   obtain⟨h1,h2⟩:=h x (by simp);obtain⟨v,hv⟩:=Option.isSome_iff_exists.1 h1;rw[List.foldl_cons,hv];dsimp only;rw[row_get e ts _ t (fun y hy=>⟨(h y (by simp[hy])).1,by simpa using(h y (by simp[hy])).2⟩)]
   by_cases ht:t∈ts
   ·rw[if_pos ht,if_pos (by simp[ht])]
   ·rw[if_neg ht]
    by_cases hx:x=t
    ·subst hx
     rw[if_pos (by simp),Array.getElem?_setIfInBounds_self,if_pos h2,hv]
    ·rw[if_neg (by simp[ht];exact fun e=>hx e.symm),Array.getElem?_setIfInBounds_ne hx]
theorem foldl_max:∀(ts:List Nat) (m:Nat),m≤ts.foldl max m∧∀x∈ts,x≤ts.foldl max m
 | [],m=>⟨Nat.le_refl _,fun x h=>by cases h⟩
 |y::ts,m=>by
   obtain⟨h1,h2⟩:=foldl_max ts (max m y);rw[List.foldl_cons];refine⟨Nat.le_trans (Nat.le_max_left _ _) h1,fun x hx=>?_⟩;rcases List.mem_cons.1 hx with rfl|hx
   ·exact Nat.le_trans (Nat.le_max_right _ _) h1
   ·exact h2 x hx
theorem row_vr {τ:Rel} {e:Env} {a':Act} (ha:EnvR τ e a') {ts:List Nat} (hs:e.has ts=true) (t:Nat) (ht:t∈ts):VR τ ((e.row ts).getD t undef) (a'.tmps.getD t undef):=by
 unfold Env.has at hs;rw[List.all_eq_true] at hs;obtain⟨v,hv⟩:=Option.isSome_iff_exists.1 (hs t ht)
 have e1:(e.row ts)[t]?=some v:=by
  unfold Env.row;rw[row_get e ts _ t (fun x hx=>⟨hs x hx,by have:=(foldl_max ts 0).2 x hx;simp;omega⟩),if_pos ht,hv]
 rw[Array.getD_eq_getD_getElem?,e1];exact ha.tmps t v hv
def argsL:Nat→List Value→List (Nat×Value)
 |_,[]=>[]
 |i,v::vs=>(i,v)::argsL (i+1) vs
theorem argsL_look:∀(vs:List Value) (i t:Nat),look (argsL i vs) t=if i≤t then vs[t-i]? else none
 | [],i,t=>by simp[argsL,look]
 |v::vs,i,t=>by
   unfold argsL look
   by_cases h:i=t
   ·subst h
    rw[Nat.beq_refl];simp
   ·have hb:Nat.beq i t=false:=by
     cases hq:Nat.beq i t with
     |false=>rfl
     |true=>exact absurd (Nat.eq_of_beq_eq_true hq) h
    rw[hb];dsimp only;rw[argsL_look vs (i+1) t]
    by_cases h2:i+1≤t
    ·rw[if_pos h2,if_pos (by omega)]
     rw[show t-i=(t-(i+1))+1 by omega,List.getElem?_cons_succ]
    ·rw[if_neg h2,if_neg (by omega)]
end sound
def oeq (a b:Obj):Bool:=match a,b with
 |.cells a e f,.cells b e' f'=>leq (veq 20) a.toList b.toList&&e==e'&&f==f'
 |.map a c,.map b d=>leq (fun(x y:MapEntry)=>veq 20 x.key y.key&&veq 20 x.val y.val&&x.born==y.born) a.toList b.toList&&c==d
 |.stringIter s p,.stringIter t q=>bytesEq s t&&p==q
 |_,_=>false
theorem oeq_eq (a b:Obj) (h:oeq a b=true):a=b:=by
 unfold oeq at h;split at h
 ·simp only[Bool.and_eq_true,beq_iff_eq] at h
  rw[Array.toList_inj.1 (leq_eq _ (veq_eq 20) _ _ h.1.1),h.1.2,h.2]
 ·simp only[Bool.and_eq_true,beq_iff_eq] at h
  rw[Array.toList_inj.1 (leq_eq _ (fun x y hxy=>?_) _ _ h.1),h.2];simp only[Bool.and_eq_true,beq_iff_eq] at hxy;obtain⟨k,v,b⟩:=x;obtain⟨k',v',b'⟩:=y;have e1:=veq_eq _ _ _ hxy.1.1;have e2:=veq_eq _ _ _ hxy.1.2;have e3:=hxy.2;dsimp only at e1 e2 e3;rw[e1,e2,e3]
 ·simp only[Bool.and_eq_true,beq_iff_eq] at h
  rw[bytesEq_eq _ _ h.1,h.2]
 ·cases h
def optVeq:Option Value→Option Value→Bool
 |some a,some b=>veq 20 a b
 |_,_=>false
theorem look_mem:∀(l:List (Nat×Value)) (t:Nat) (v:Value),look l t=some v→∃p∈l,p.1=t
 |(k,u)::r,t,v,h=>by
   unfold look at h
   cases hb:Nat.beq k t with
   |true=>exact⟨(k,u),by simp,Nat.eq_of_beq_eq_true hb⟩
   |false=>
     rw[hb] at h;obtain⟨p,h1,h2⟩:=look_mem r t v h;exact⟨p,by simp[h1],h2⟩
section ev
variable (P:Program) (G:Gl) (sp:Spec) (ev:Ev)
def forceB {β:Type} (xs:Array Bool) (k:Array Bool→β):β:=match xs with|⟨l⟩=>spine l fun l=>k ⟨l⟩
theorem forceB_eq {β:Type} (xs:Array Bool) (k:Array Bool→β):forceB xs k=k xs:=by cases xs;simp[forceB,spine_eq]
end ev
section sound
variable {P:Program} {G:Gl} {sp:Spec} {ev:Ev}
def QN (Q:Exit→Act→World→Prop):Exit→Act→World→Prop
 |.panic _,_,_=>False
 |e,a,w=>Q e a w
theorem QN.imp {Q:Exit→Act→World→Prop} (e:Exit) (a:Act) (w:World) (h:QN Q e a w):Q e a w:=by
 cases e<;>first|exact h|exact h.elim
theorem WR.drewn {B:FM} {w0:World} {τ:Rel} {H:Array Obj} {w:World} (h:WR G B w0 τ H w) (n:Nat):WR G B w0 τ H { w with drawn:=n }:=
 ⟨h.blk,h.fn,h.inj,h.dom,h.ok,h.old,h.glob,h.kp.drewn n,h.sy⟩
end sound
end Go.Ev
