/- The run on the small world, once more: the same, put so that the kernel reckons it faster. Small worlds told as lists, and calls that were reckoned between them. What symbols stand for, out of what the given ones stand for. The sort of the bus's regions: its contract. The bus's regions: the walk up  Conditions: those that each statement shows. -/
import Derived.Test.YtkndlfdpmpdihaaGreatDoorX28
import Derived.Test.YtkndlfdpmpdihaaGreatDoorX00
import Derived.Test.YtkndlfdpmpdihaaGreatDoorX20
import Derived.Test.YtkndlfdpmpdihaaGreatDoorX05
import Derived.Test.YtkndlfdpmpdihaaGreatDoorX26
import Derived.KernelRfl
namespace Go.Ev
open Go.RowKit
set_option linter.unusedVariables false
set_option linter.unusedSimpArgs false
section ev
variable (P:Program) (G:Gl) (ev:EvF) (evi:EvI) (rd:Rd)
noncomputable def stepY (ops:Array Oper) (o:Oper) (k:Env→TW→Option (Env×TW)) (e:Env) (w:TW):Option (Env×TW):=match e.fits o.dst with
 | true=>match wantedE ops e o with
   | some true=>match stepV P G (specT P) ev o e w with
     | some (v,w')=>putK e o.dst v fun e'=>k e' w'
     | none=>none
   | some false=>putK e o.dst undef fun e'=>k e' w
   | none=>none
 | false=>none
noncomputable def stepsY (ops:Array Oper) (l:List Oper):Env→TW→Option (Env×TW):=
 List.rec (motive:=fun _=>Env→TW→Option (Env×TW)) (fun e w=>some (e,w)) (fun o _ ih=>stepY P G ev ops o ih) l
def isIter:FSt→Bool
 | .iter _ _=>true
 | _=>false
theorem stepsY_eq (ops:Array Oper):∀ (l:List Oper) (k:Nat) (s:FSt) (e:Env) (w:TW),isIter s=false→(∀ i,l[i]?=ops[k+i]?) →
 stepOpsX P G ev rd ops (List.range' k l.length) s e w=(match stepsY P G ev ops l e w with | some (e',w')=>some (s,e',w') | none=>none)
 | [],k,s,e,w,hs,h=>rfl
 | o::l,k,s,e,w,hs,h=>by
   have h0:ops[k]?=some o:=by have:=h 0;simpa using this.symm
   have ht:∀ i,l[i]?=ops[k+1+i]?:=fun i=>by
    have:=h (i+1)
    rw [List.getElem?_cons_succ] at this
    rw [this];congr 1;omega
   rw [List.length_cons,List.range'_succ]
   unfold stepOpsX
   rw [h0]
   have e1:moveOf s o=none:=by cases s<;>first | rfl | cases hs
   have e2:offY s o.dst=true:=by cases s<;>first | rfl | cases hs
   have e3:yieldOf s o=none:=by cases s<;>first | rfl | cases hs
   show (match e.fits o.dst with
    | false=>none
    | true=>match wantedE ops e o with
      | some true=>_
      | some false=>_
      | none=>none)=(match stepY P G ev ops o (stepsY P G ev ops l) e w with | some (e',w')=>some (s,e',w') | none=>none)
   unfold stepY
   cases e.fits o.dst with
   | false=>rfl
   | true=>
     dsimp only
     cases wantedE ops e o with
     | none=>rfl
     | some b=>
       cases b with
       | false=>
         dsimp only
         rw [e2,putK_eq,putK_eq]
         exact stepsY_eq ops l (k+1) s _ w hs ht
       | true=>
         dsimp only
         rw [e1,e2,e3]
         dsimp only
         cases stepV P G (specT P) ev o e w with
         | none=>rfl
         | some r=>
           obtain ⟨v,w'⟩:=r
           dsimp only
           rw [putK_eq,putK_eq]
           exact stepsY_eq ops l (k+1) s _ w' hs ht
noncomputable def plainY (ops:Array Oper):Bd:=fun s a w=>match regNd ops with
 | true=>match isIter s with
   | false=>match stepsY P G ev ops ops.toList a w with
     | some (a',w')=>some (.normal,s,a',w')
     | none=>none
   | true=>match stepOpsX P G ev rd ops (List.range ops.size) s a w with
     | some (s',a',w')=>some (.normal,s',a',w')
     | none=>none
 | false=>none
noncomputable def drawnY (dr:DrawnT) (ops:Array Oper):Bd:=fun s a w=>match regOk s ops with
 | true=>match dr ops a w with
   | some (a',w')=>some (.normal,s,a',w')
   | none=>none
 | false=>none
noncomputable def seqY (run:Code→Bd) (x y:Code):Bd:=fun s a w=>match run x s a w with
 | some (.normal,s',a',w')=>run y s' a' w'
 | r=>r
noncomputable def condY (G:Gl) (run:Code→Bd) (c:Operand) (x y:Code):Bd:=fun s a w=>match condK G a c with
 | some true=>run x s a w
 | some false=>run y s a w
 | none=>none
noncomputable def blockY (run:Code→Bd) (id:Nat) (body:Code):Bd:=fun s a w=>match run body s a w with
 | some (.exit k,s',a',w')=>match Nat.beq k id with
   | true=>some (.normal,s',a',w')
   | false=>some (.exit k,s',a',w')
 | r=>r
noncomputable def loopY (body:Bd) (n:Nat):Bd:=Nat.rec (motive:=fun _=>Bd) (fun _ _ _=>none) (fun _ ih s a w=>match body s a w with
 | some (.normal,s',a',w')=>ih s' a' w'
 | r=>r) n
noncomputable def rangeY (run:Code→Bd) (g:Operand) (ps:Array Tmp) (assign body:Code):Bd:=fun s a w=>match s,a.ok G g,a.eval g with
 | .fresh,true,.func (.func gf) ⟨[]⟩ lb=>
   match evi gf lb (fun vals w=>putsK ps.toList vals a fun a1=>match run assign .round a1 w with
    | some (.normal,_,a2,w2)=>match run body .round a2 w2 with
      | some (.normal,_,_,w3)=>some (none,w3)
      | some (.ret,_,_,w3)=>some (some .ret,w3)
      | some (.exit id,_,_,w3)=>some (some (.exit id),w3)
      | some (.goto l,_,_,w3)=>some (some (.goto l),w3)
      | _=>none
    | _=>none) w with
   | some (none,w')=>some (.normal,.marked,a,w')
   | some (some .ret,w')=>some (.ret,.marked,a,w')
   | some (some (.exit id),w')=>some (.exit id,.marked,a,w')
   | some (some (.goto l),w')=>some (.goto l,.marked,a,w')
   | _=>none
 | _,_,_=>none
noncomputable def codeY1 (dr:DrawnT) (n:Nat) (run:Code→Bd) (c:Code):Bd:=match c with
 | .skip=>fun s a w=>some (.normal,s,a,w)
 | .label _=>fun s a w=>some (.normal,s,a,w)
 | .ret=>fun s a w=>some (.ret,s,a,w)
 | .exit id=>fun s a w=>some (.exit id,s,a,w)
 | .goto l=>fun s a w=>some (.goto l,s,a,w)
 | .region _ ops false=>plainY P G ev rd ops
 | .region _ ops true=>drawnY dr ops
 | .seq x y=>seqY run x y
 | .cond c x y=>condY G run c x y
 | .block id body=>blockY run id body
 | .loop body=>loopY (run body) n
 | .scope body=>evalScopeX run body n body
 | .rangeFunc g ps assign body=>rangeY G evi run g ps assign body
 | .refuse _=>fun _ _ _=>none
noncomputable def codeY (dr:DrawnT) (n:Nat):Code→Bd:=Nat.rec (motive:=fun _=>Code→Bd) (fun _ _ _ _=>none) (fun n ih=>codeY1 P G ev evi rd dr n ih) n
theorem loopY_eq (body:Bd):∀ n,loopY body n=evalLoopX body n
 | 0=>by funext s a w;rfl
 | n+1=>by
   funext s a w
   unfold evalLoopX
   show (match body s a w with
    | some (.normal,s',a',w')=>loopY body n s' a' w'
    | r=>r)=_
   rw [loopY_eq body n]
   rcases body s a w with _ | ⟨e1,s1,a1,w1⟩
   ·rfl
   ·cases e1<;>rfl
theorem codeY_eq (dr:DrawnT):∀ n,codeY P G ev evi rd dr n=evalCodeX P G ev evi rd dr n
 | 0=>by funext c s a w;rfl
 | n+1=>by
   have ih:=codeY_eq dr n
   funext c s a w
   show codeY1 P G ev evi rd dr n (codeY P G ev evi rd dr n) c s a w=_
   rw [ih]
   unfold codeY1 evalCodeX
   cases c with
   | region id ops dw=>
     cases dw with
     | true=>rfl
     | false=>
       dsimp only
       unfold plainY
       cases regNd ops with
       | false=>rfl
       | true=>
         dsimp only
         cases hs:isIter s with
         | true=>rfl
         | false=>
           dsimp only
           have:=stepsY_eq P G ev rd ops ops.toList 0 s a w hs (fun i=>by simp)
           rw [←List.range_eq_range',Array.length_toList] at this
           rw [this]
           cases stepsY P G ev ops ops.toList a w with
           | none=>rfl
           | some r=>rfl
   | block id body=>
     dsimp only
     unfold blockY
     cases evalCodeX P G ev evi rd dr n body s a w with
     | none=>rfl
     | some r=>
       obtain ⟨e1,s1,a1,w1⟩:=r
       cases e1 with
       | exit k=>
         dsimp only
         by_cases hk:k=id
         ·subst hk
          rw [if_pos rfl,Nat.beq_refl]
         ·have:Nat.beq k id=false:=by
           cases hq:Nat.beq k id with
           | false=>rfl
           | true=>exact absurd (Nat.eq_of_beq_eq_true hq) hk
          rw [if_neg hk,this]
       | _=>rfl
   | loop body=>dsimp only;rw [loopY_eq]
   | _=>rfl
end ev
noncomputable def endY (P:Program) (fn:Func) (s:FSt) (e:Env) (w:TW):Option (Value×FSt×TW):=match e.has (resTmps fn) with
 | true=>match runW P (results fn (e.row (resTmps fn))) w with
   | some (v,w)=>forceV 20 v fun v=>some (v,s,w)
   | none=>none
 | false=>none
noncomputable def bodyY (P:Program) (G:Gl) (dr:EvF→DrawnT) (fuel:Nat) (ev:EvF) (evi:EvI) (r:Option Rd) (f:FuncId) (args:Array Value) (w:TW):Option (Value×FSt×TW):=match P.funcs[f]? with
 | none=>none
 | some fn=>match (match r with | none=>false | some _=>fn.name == "runtime.NumGoroutine"),fn.body with
   | false,some body=>match codeY P G ev evi (rdOf r) (dr ev) fuel body (stOf r) (envOf r fn args) w with
     | some (.ret,s,e,w)=>endY P fn s e w
     | some (.normal,s,e,w)=>endY P fn s e w
     | _=>none
   | _,_=>none
noncomputable def fY (X:Option Rd→FuncId→Array Value→TW→Option (Value×FSt×TW)):EvF:=fun f args w=>match X none f args w with
 | some (v,.fresh,w)=>some (v,w)
 | some (v,.marked,w)=>some (v,w)
 | _=>none
noncomputable def iY (X:Option Rd→FuncId→Array Value→TW→Option (Value×FSt×TW)):EvI:=fun f lb rd w=>match X (some rd) f lb w with
 | some (_,.iter _ p,w)=>some (p,w)
 | _=>none
noncomputable def callY (P:Program) (G:Gl) (dr:EvF→DrawnT) (book:EvF) (fuel:Nat) (X:Option Rd→FuncId→Array Value→TW→Option (Value×FSt×TW)):Option Rd→FuncId→Array Value→TW→Option (Value×FSt×TW):=fun r f args w=>match (match r with | none=>book f args w | some _=>none) with
 | some (v,w)=>some (v,.fresh,w)
 | none=>bodyY P G dr fuel (fY X) (iY X) r f args w
noncomputable def evalY (P:Program) (G:Gl) (dr:EvF→DrawnT) (book:EvF) (fuel n:Nat):Option Rd→FuncId→Array Value→TW→Option (Value×FSt×TW):=
 Nat.rec (motive:=fun _=>Option Rd→FuncId→Array Value→TW→Option (Value×FSt×TW)) (fun _ _ _ _=>none) (fun _ ih=>callY P G dr book fuel ih) n
theorem evalY_eq (P:Program) (G:Gl) (dr:EvF→DrawnT) (book:EvF) (fuel:Nat):∀ n,evalY P G dr book fuel n=evalX P G dr book fuel n
 | 0=>by funext r f args w;rfl
 | n+1=>by
   have ih:=evalY_eq P G dr book fuel n
   funext r f args w
   show callY P G dr book fuel (evalY P G dr book fuel n) r f args w=_
   rw [ih]
   unfold callY evalX
   cases r
   all_goals dsimp only
   ·cases book f args w with
    | some x=>rfl
    | none=>
      dsimp only
      unfold bodyY
      cases P.funcs[f]? with
      | none=>rfl
      | some fn=>
        dsimp only
        cases fn.body with
        | none=>rfl
        | some body=>
          dsimp only
          rw [codeY_eq]
          rfl
   ·unfold bodyY
    cases P.funcs[f]? with
    | none=>rfl
    | some fn=>
      dsimp only
      cases (fn.name == "runtime.NumGoroutine") with
      | true=>cases fn.body<;>rfl
      | false=>
        cases fn.body with
        | none=>rfl
        | some body=>
          dsimp only
          rw [codeY_eq]
          rfl
noncomputable def evY (P:Program) (G:Gl) (dr:EvF→DrawnT) (book:EvF) (fuel n:Nat):EvF:=fY (evalY P G dr book fuel n)
theorem evY_ok {P:Program} {G:Gl} {dr:EvF→DrawnT} (hdr:∀ ev,EvOkT P G ev→DrOkW P G (dr ev)) {book:EvF} (hb:EvOkT P G book) (fuel n:Nat):EvOkT P G (evY P G dr book fuel n):=by
 have:evY P G dr book fuel n=evFn P G dr book fuel n:=by
  unfold evY
  rw [evalY_eq]
  rfl
 rw [this]
 exact (evalX_sound hdr hb fuel n).1
end Go.Ev
namespace Go.Ev
open Go.RowKit
namespace Lit
def u64 (n:Nat):Value:=.int .u64 (.ofNat n)
def u32 (n:Nat):Value:=.int .u32 (.ofNat n)
def u8 (n:Nat):Value:=.int .u8 (.ofNat n)
def i64 (n:Nat):Value:=.int .i64 (.ofNat n)
end Lit
noncomputable def fillR {β:Type} (l:List Obj):(TW→β)→TW→β:=List.rec (fun k w=>k w) (fun o _ ih k w=>w.pushK o fun w=>ih k w) l
noncomputable def fillT (l:List Obj):TW:=fillR l (fun w=>w) ⟨.nil,0⟩
theorem pushK_eq {β:Type} (w:TW) (o:Obj) (c:TW→β):w.pushK o c=c (w.pushK o fun w=>w):=by
 simp only [TW.pushK,forceObj_eq,T.setK_eq,forceNat_eq]
theorem fillR_eq {β:Type}:∀ (l:List Obj) (k:TW→β) (w:TW),fillR l k w=k (fillR l (fun w=>w) w)
 | [],_,_=>rfl
 | o::l,k,w=>by
   show w.pushK o (fun w=>fillR l k w)=k (w.pushK o fun w=>fillR l (fun w=>w) w)
   rw [pushK_eq,pushK_eq w o (fun w=>fillR l (fun w=>w) w)]
   exact fillR_eq l k _
theorem fillR_fillT {β:Type} (l:List Obj) (k:TW→β):fillR l k ⟨.nil,0⟩=k (fillT l):=fillR_eq l k _
structure ML where
 f:Nat
 args:List Value
 l:List Obj
 v:Value
 l':List Obj
noncomputable def ML.mem (m:ML):Mem:=⟨m.f,m.args,fillT m.l,m.v,fillT m.l'⟩
noncomputable def memL (ms:List ML):EvF:=fun f args w=>List.rec (motive:=fun _=>Option (Value×TW)) none (fun m _ ih=>match Nat.beq m.f f with
 | true=>match argsEq m.args args.toList with
   | true=>match fillR m.l (fun u=>Nat.beq u.n w.n&&teq u.t w.t) ⟨.nil,0⟩ with
     | true=>fillR m.l' (fun u=>some (m.v,u)) ⟨.nil,0⟩
     | false=>ih
   | false=>ih
 | false=>ih) ms
theorem memL_eq (f:FuncId) (args:Array Value) (w:TW):∀ ms:List ML,memL ms f args w=memB (ms.map ML.mem) f args w
 | []=>rfl
 | m::ms=>by
   have ih:=memL_eq f args w ms
   show (match Nat.beq m.f f with
    | true=>match argsEq m.args args.toList with
      | true=>match fillR m.l (fun u=>Nat.beq u.n w.n&&teq u.t w.t) ⟨.nil,0⟩ with
        | true=>fillR m.l' (fun u=>some (m.v,u)) ⟨.nil,0⟩
        | false=>memL ms f args w
      | false=>memL ms f args w
    | false=>memL ms f args w)=(match Nat.beq m.f f with
    | true=>match argsEq m.args args.toList&&(Nat.beq (fillT m.l).n w.n&&teq (fillT m.l).t w.t) with
      | true=>some (m.v,fillT m.l')
      | false=>memB (ms.map ML.mem) f args w
    | false=>memB (ms.map ML.mem) f args w)
   rw [ih,fillR_fillT,fillR_fillT]
   cases Nat.beq m.f f with
   | false=>rfl
   | true=>
     dsimp only
     cases argsEq m.args args.toList with
     | false=>rfl
     | true=>
       rw [Bool.true_and]
section
variable {P:Program} {G:Gl}
def MLOk (P:Program) (G:Gl) (m:ML):Prop:=MemOk P G m.mem
theorem memL_ok {ms:List ML} (h:∀ m∈ms,MLOk P G m):EvOkT P G (memL ms):=by
 intro f args wa v wa2 hb
 rw [memL_eq] at hb
 refine memB_ok (ms.map ML.mem) (fun m hm=>?_) f args wa v wa2 hb
 rw [List.mem_map] at hm
 obtain ⟨x,hx,rfl⟩:=hm
 exact h x hx
noncomputable def mlAsk (ev:EvF) (m:ML):Bool:=fillR m.l (fun w=>fillR m.l' (fun w'=>endIs (ev m.f ⟨m.args⟩ w) m.v w') ⟨.nil,0⟩) ⟨.nil,0⟩
theorem ml_is {ev:EvF} (hev:EvOkT P G ev) {m:ML} (h:mlAsk ev m=true):MLOk P G m:=by
 unfold mlAsk at h
 rw [fillR_fillT,fillR_fillT] at h
 exact mem_is hev h
end
end Go.Ev
namespace Go.Ev
open Go.RowKit
set_option linter.unusedVariables false
set_option linter.unusedSimpArgs false
def denL (f:Value→Option Value):List Value→Option (List Value)
 | []=>some []
 | x::xs=>match (if sb x=true then some x else f x),denL f xs with
   | some v,some vs=>some (v::vs)
   | _,_=>none
def typed (t:Value):Option Value→Option Value
 | some v=>if sameTy t v=true then some v else none
 | none=>none
theorem typed_eq {t:Value} {o:Option Value} {v:Value}:typed t o=some v↔o=some v∧sameTy t v=true:=by
 cases o with
 | none=>simp [typed]
 | some u=>
   simp only [typed]
   split
   ·rename_i h;constructor
    ·intro e;cases e;exact ⟨rfl,h⟩
    ·rintro ⟨e,_⟩;exact e
   ·rename_i h;constructor
    ·intro e;cases e
    ·rintro ⟨e,k⟩;cases e;exact absurd k h
def den (ρ:Nat→Option Value):Nat→Value→Option Value
 | 0,_=>none
 | n+1,.func (.yield l) ⟨xs⟩ ⟨[c,t]⟩=>match l with
   | 0=>match c with
     | .int .u64 (.ofNat i)=>typed t (ρ i)
     | _=>none
   | l+1=>match denL (den ρ n) xs with
     | some vs=>typed t (symApp (l+1) vs c t)
     | none=>none
 | n+1,.func (.yield 0) ⟨[]⟩ ⟨[.int .u64 (.ofNat i)]⟩=>ρ i
 | _,_=>none
theorem denL_mono {f g:Value→Option Value} (h:∀ x v,f x=some v→g x=some v):∀ {l vs},denL f l=some vs→denL g l=some vs
 | [],vs,e=>e
 | x::xs,vs,e=>by
   unfold denL at e ⊢
   split at e<;>first | (cases e;done) | skip
   rename_i v ws h1 h2
   cases e
   rw [denL_mono h h2]
   by_cases hb:sb x=true
   ·rw [if_pos hb] at h1 ⊢
    rw [h1]
   ·rw [if_neg hb] at h1 ⊢
    rw [h x v h1]
theorem den_mono (ρ:Nat→Option Value):∀ n e v,den ρ n e=some v→den ρ (n+1) e=some v:=by
 intro n
 induction n with
 | zero=>intro e v h;unfold den at h;cases h
 | succ n ih=>
   intro e v h
   unfold den at h ⊢
   split at h<;>first | (cases h;done) | skip
   rotate_left
   ·exact h
   rename_i m l xs c t hm
   cases hm
   cases l with
   | zero=>exact h
   | succ l=>
     dsimp only at h ⊢
     split at h<;>first | (cases h;done) | skip
     rename_i vs hvs
     rw [denL_mono (ih) hvs]
     exact h
theorem den_le (ρ:Nat→Option Value) {n m:Nat} (h:n≤m) {e v:Value} (hd:den ρ n e=some v):den ρ m e=some v:=by
 induction h with
 | refl=>exact hd
 | step _ ih=>exact den_mono ρ _ e v ih
def symS (ρ:Nat→Option Value) (e v:Value):Prop:=∃ n,den ρ n e=some v
theorem symS_fn {ρ:Nat→Option Value} {e v v':Value} (h:symS ρ e v) (h':symS ρ e v'):v=v':=by
 obtain ⟨n,h⟩:=h
 obtain ⟨m,h'⟩:=h'
 have h1:=den_le ρ (Nat.le_max_left n m) h
 have h2:=den_le ρ (Nat.le_max_right n m) h'
 rw [h1] at h2
 exact Option.some.inj h2
theorem symS_args {ρ:Nat→Option Value} {xs vs:List Value} (h:symArgs (symS ρ) xs vs):∃ n,denL (den ρ n) xs=some vs:=by
 induction h with
 | nil=>exact ⟨0,rfl⟩
 | cons x v xs vs h1 _ ih=>
   obtain ⟨m,hm⟩:=ih
   by_cases hb:sb x=true
   ·rcases h1 with ⟨rfl,_⟩ | ⟨n,hn⟩
    ·exact ⟨m,by unfold denL;rw [if_pos hb,hm]⟩
    ·exfalso
     cases n with
     | zero=>unfold den at hn;cases hn
     | succ n=>cases x<;>first | (cases hb;done) | (unfold den at hn;cases hn)
   ·rcases h1 with ⟨rfl,h⟩ | ⟨n,hn⟩
    ·exact absurd h hb
    ·refine ⟨max n m,?_⟩
     unfold denL
     rw [if_neg hb,den_le ρ (Nat.le_max_left n m) hn,denL_mono (fun x v h=>den_le ρ (Nat.le_max_right n m) h) hm]
def mkG (n:Nat) (ρ:Nat→Option Value) (dl:List (Value×Bool)) (h:∀ e b,(e,b)∈dl→∃ m,den ρ m e=some (.bool b)):Gl where
 n:=n
 s:=symS ρ
 dl:=dl
 ty:=by
  rintro e v t ⟨m,hm⟩ ht
  cases m with
  | zero=>unfold den at hm;cases hm
  | succ m=>
    unfold den at hm
    split at hm<;>first | (cases hm;done) | skip
    rotate_left
    ·cases ht
    rename_i k l xs c t' _
    have:t'=t:=by simpa [symTy] using ht
    subst this
    cases l with
    | zero=>
      dsimp only at hm
      split at hm<;>first | (cases hm;done) | skip
      exact (typed_eq.1 hm).2
    | succ l=>
      dsimp only at hm
      split at hm<;>first | (cases hm;done) | skip
      exact (typed_eq.1 hm).2
 cl:=by
  intro l xs vs c t v ha hv ht
  obtain ⟨n,hn⟩:=symS_args ha
  refine ⟨n+1,?_⟩
  unfold den
  dsimp only
  rw [hn]
  exact typed_eq.2 ⟨hv,ht⟩
 dec:=by
  intro e b v hm hs
  exact symS_fn hs (h e b hm)
 fn:=fun e v v' h h'=>symS_fn h h'
def plainG (n:Nat):Gl:=mkG n (fun _=>none) [] (fun e b h=>by cases h)
end Go.Ev
namespace Go.Proofs.YtkndlfdpmpdihaaGreatDoor
open Go.RowKit Go.Sort Go.Shelf Go.Lib
set_option linter.unusedVariables false
set_option linter.unusedSimpArgs false
theorem hlen184 (n:Nat) (W:World) (h:n≤12):Calls Tryz.prog 184 #[.int .u64 n] W fun e w'=>(∃ l:Int,e=.returned (.int .i64 l))∧w'=W:=
 (Any.bits_Len Tryz.bitsLen n W (by omega) (by omega)).mono fun _ _ ⟨he,hw⟩=>⟨⟨_,he⟩,hw⟩
set_option maxHeartbeats 1000000 in
theorem none311 (fv:Value) (w:World):Calls Tryz.prog 311 #[.slice none 0 0,.int .i64 0,.int .i64 0,fv] w fun e w'=>e=.returned (.tuple #[])∧w'=w:=by
 go_enter Tryz.func311,Tryz.ntmps311
 go_wp2
 refine wp_loop_rounds 1 ?_
 rw [rounds_succ]
 go_wp2
 go_end0
 exact ⟨rfl,rfl⟩
set_option maxHeartbeats 1000000 in
theorem none263 (lim:Int) (fv:Value) (w:World):Calls Tryz.prog 263 #[.slice none 0 0,.int .i64 0,.int .i64 0,.int .i64 lim,fv] w fun e w'=>e=.returned (.tuple #[])∧w'=w:=by
 have hi:=fun W=>none311 fv W
 go_enter Tryz.func263,Tryz.ntmps263
 go_wp2
 refine wp_loop_rounds 1 ?_
 rw [rounds_succ]
 go_wp2_with (go_at_call 311;refine (hi _).mono ?_;rintro e w' ⟨rfl,rfl⟩)
 (try simp only [Exit.inBlock,Exit.then]);refine bodyPost_ret (results_none rfl _ _ _) rfl ?_
 exact ⟨rfl,rfl⟩
set_option maxHeartbeats 1000000 in
theorem none195 (fv:Value) (w:World):Calls Tryz.prog 195 #[.slice none 0 0,fv] w fun e w'=>e=.returned (.tuple #[])∧w'=w:=by
 have hp:=fun lim W=>none263 lim fv W
 have hl:∀ W,Calls Tryz.prog 184 #[.int .u64 0] W fun e w'=>e=.returned (.int .i64 (Lib.bitLen 0:Nat))∧w'=W:=fun W=>by
  have h:=Any.bits_Len Tryz.bitsLen 0 W (by omega) (by omega)
  exact h
 go_enter Tryz.func195,Tryz.ntmps195
 go_wp2_with (first | (go_at_call 184;refine (hl _).mono ?_;rintro e w' ⟨rfl,rfl⟩) | (go_at_call 263;refine (hp _ _).mono ?_;rintro e w' ⟨rfl,rfl⟩))
 go_end0
 exact ⟨rfl,rfl⟩
def cfRg (x y:Int×Int):Int:=Lib.compareInt x.1 y.1
theorem ltRg (x y:Int×Int):ltOf cfRg x y=decide (x.1<y.1):=by
 unfold ltOf cfRg Lib.compareInt
 by_cases h:x.1<y.1
 ·simp [h]
 ·by_cases h2:x.1 > y.1<;>simp [h,h2]
theorem swoRg:SWO (ltOf cfRg):=by
 refine ⟨fun x=>?_,fun x y z h1 h2=>?_,fun x y z h1 h2=>?_⟩<;>simp only [ltRg,decide_eq_true_eq,decide_eq_false_iff_not] at*<;> omega
instance :Inhabited (Int×Int):=⟨(0,0)⟩
set_option maxHeartbeats 1000000 in
theorem sort195 {w:World} {base:Nat} {v:Value} {pre L:List (Int×Int)} (hO:w.ownsRow base 177 2 v pre.length (regC pre)) (hp:pre.Perm L) (hL:L.Pairwise (fun a b=>a.1<b.1)) (h12:pre.length≤12) :
 Calls Tryz.prog 195 #[v,.func (.func 196) #[] #[]] w fun e w'=>e=.returned (.tuple #[])∧w'.ownsRow base 177 2 v L.length (regC L)∧w.grownBy w' v.ownBlock:=by
 obtain ⟨h0,⟨rfl,hn⟩ | ⟨g,cap,cur,rfl,hb,hg,hcap,hmax,hcs,hct⟩⟩:=hO
 ·have e0:pre=[]:=List.eq_nil_of_length_eq_zero hn
  subst e0
  have e1:=hp.symm.eq_nil
  subst e1
  refine (none195 (.func (.func 196) #[] #[]) w).mono ?_
  rintro e w' ⟨rfl,rfl⟩
  exact ⟨rfl,World.ownsRow_nil _ _ _ _,⟨rfl,rfl,rfl,Nat.le_refl _,fun k hk _=>rfl⟩⟩
 ·have hgl:=(Array.getElem?_eq_some_iff.1 hg).1
  have eg:∀ args w,(callFunc 196 args).run Tryz.prog w=.ok (.enter 196 args) w:=enters_of Tryz.func196 (by kernel_rfl) rfl
  have hcon:=AnyQ.slices_SortFunc_small_sorted Tryz.sortRg 2 (fun w=>by kernel_rfl) (fun w=>by kernel_rfl) encRg (fun _=>rfl) (fun x v hv=>by simp [encRg] at hv;rcases hv with rfl | rfl<;>rfl) cfRg 196 #[] swoRg g 0 cap pre.toArray w eg (fun _ _ _ _ x y=>clo196 x y _) (holds_row hg hct) hgl (by simpa using h12) hlen184
  refine Calls.mono hcon ?_
  rintro e w' ⟨rfl,d',n,os,hP,hS,rfl⟩
  obtain ⟨hp1,_,hp2⟩:=hP
  have hds:d'.size=pre.length:=by simpa using hp1
  have hperm:d'.toList.Perm pre:=by
   have e3:(d'.extract 0 pre.toArray.size).toList=d'.toList:=by
    rw [Array.toList_extract,List.extract_eq_take_drop]
    rw [List.drop_zero]
    exact List.take_of_length_le (by simp [hds])
   have e4:(pre.toArray.extract 0 pre.toArray.size).toList=pre:=by simp
   rw [e3,e4] at hp2
   exact hp2
  have e2:d'.toList=L:=by
   refine sorted_unique L _ (hperm.trans hp) hL ?_
   rw [List.pairwise_iff_getElem]
   intro i j hi hj hij
   have hi':i<d'.size:=by simpa using hi
   have hj':j<d'.size:=by simpa using hj
   have:=hS i j (Nat.zero_le _) hij (by simpa [←hds] using hj')
   rw [ltRg,getElem!_pos d' j hj',getElem!_pos d' i hi'] at this
   simpa using this
  have hLl:L.length=pre.length:=hp.symm.length_eq
  refine ⟨rfl,?_,sortWorld_grown⟩
  obtain ⟨cur',c1,c2,c3⟩:=row_sorted (m:=n) (os:=os) (d:=d') hg (by omega)
  refine ⟨regC_length L,.inr ⟨g,cap,cur',by rw [hLl],hb,c1,by omega,hmax,by omega,?_⟩⟩
  rw [←e2,←c3,e2]
  congr 1
  omega
end Go.Proofs.YtkndlfdpmpdihaaGreatDoor
namespace Go.Proofs.YtkndlfdpmpdihaaGreatDoor
open Go.RowKit Go.ChangeMaps
set_option linter.unusedVariables false
set_option linter.unusedSimpArgs false
theorem info177:(Tryz.prog.info? 177).map (fun i=>(i.zero,i.size,i.bytes))=some (some (.agg #[U 0,U 0]),2,8):=by kernel_rfl
def RelRG (w0:World) (r mp c:Nat) (es:Array MapEntry) (kk:MapEntry→Int×Int) (k:Nat) (v:Value) (wr:World):Prop:=
 ∃ (pre:List (Int×Int)) (seen:Array Nat) (c0:Nat),wr.heap[r]?=some (.mapIter (some mp) c seen c0)∧wr.heap[mp]?=some (.map es c)∧c≤c0∧k=(leftOf es seen).size∧(pre++(leftOf es seen).toList.map kk).Perm (es.toList.map kk) ∧
  wr.ownsRow (w0.heap.size+1) 177 2 v pre.length (regC pre)∧Below w0.heap.size w0 wr∧w0.heap.size+1≤wr.heap.size∧(pre=[]→v=.slice none 0 0)
theorem next_world {w w1:World} {r:Nat} {o o0:Obj} (hw:w1=w∨w1=w.drew) (hr:w.heap[r]?=some o0):(setBlock w1 r o).heap[r]?=some o∧(∀ j,j≠r→(setBlock w1 r o).heap[j]?=w.heap[j]?)∧w.grownBy (setBlock w1 r o) (some r)∧(setBlock w1 r o).heap.size=w.heap.size:=by
 have hl:=(Array.getElem?_eq_some_iff.1 hr).1
 have e:w1.heap=w.heap:=by rcases hw with rfl | rfl<;>rfl
 have h1:(setBlock w1 r o).heap=w.heap.setIfInBounds r o:=by show w1.heap.setIfInBounds r o=_;rw [e]
 have h2:∀ j,j≠r→(setBlock w1 r o).heap[j]?=w.heap[j]?:=fun j hj=>by rw [h1,Array.getElem?_setIfInBounds_ne (fun x=>hj x.symm)]
 have hs:(setBlock w1 r o).heap.size=w.heap.size:=by rw [h1];simp
 refine ⟨by rw [h1,Array.getElem?_setIfInBounds_self,if_pos hl],h2,⟨?_,?_,?_,Nat.le_of_eq hs.symm,fun i hi hne=>h2 i (fun x=>hne (by rw [x]))⟩,hs⟩
 ·rcases hw with rfl | rfl<;>rfl
 ·rcases hw with rfl | rfl<;>rfl
 ·rcases hw with rfl | rfl<;>rfl
set_option maxRecDepth 100000 in
set_option maxHeartbeats 1000000 in
theorem regions_walk (w:World) (b mp c:Nat) (es:Array MapEntry) (kk:MapEntry→Int×Int) (hb:w.cell? ⟨b,0,none⟩=some (.map (some mp))) (hm:w.heap[mp]?=some (.map es c))
 (hk:∀ e∈es.toList,e.key=.agg #[U (kk e).1,U (kk e).2]) (hold:∀ x∈es.toList,x.born<c) (hn:(es.toList.map (·.born)).Nodup) (h64:es.size≤12) (L:List (Int×Int)) (hL:L.Perm (es.toList.map kk)) (hLs:L.Pairwise (fun a b=>a.1<b.1)) :
 Calls Tryz.prog 135 #[.pointer (some ⟨b,0,none⟩)] w fun e w'=>∃ v,e=.returned v∧w'.ownsRow w.heap.size 177 2 v L.length (regC L)∧Below w.heap.size w w'∧(L=[]→v=.slice none 0 0):=by
 obtain ⟨i177,hi,hz0,hz1,hz2⟩:=info_parts info177
 have HM:=Lib.hid hm
 have HK:=Lib.hid hk
 have HOLD:=Lib.hid hold
 have HN:=Lib.hid hn
 clear hm hk hold hn
 go_enter Tryz.func135,Tryz.ntmps135
 go_wp2_with (first | (at_range;refine wpList_range_raw rfl _ 180 rfl _ _ Tryz.underlying180 mp rfl es c HM.out ?_) | fail)
 have hst:RelRG w w.heap.size mp c es kk (leftOf es #[]).size (.slice none 0 0) (w.alloc (.mapIter (some mp) c #[] c)):=by
  refine ⟨[],#[],c,heap_alloc_new w _,?_,Nat.le_refl _,rfl,?_,World.ownsRow_nil _ _ _ _,(Below.refl _ _).alloc (Nat.le_refl _) _,by show _≤(w.heap.push _).size;simp,fun _=>rfl⟩
  ·have hl:=(Array.getElem?_eq_some_iff.1 HM.out).1
   rw [Below.heap_alloc w _ mp hl];exact HM.out
  ·rw [left_none];exact List.Perm.refl _
 go_frame
 go_loopg [3] (leftOf es #[]).size (fun k v wr=>RelRG w w.heap.size mp c es kk k v wr)
 case atStart=>exact hst
 case round=>
  obtain ⟨pre,seen,c0,hr,hm,hc0,hkk,hp,hO,hB,hS,hNil⟩:=hrel
  have HR:=Lib.hid hr
  have HM2:=Lib.hid hm
  have HO:=Lib.hid hO
  have HB:=Lib.hid hB
  have HP:=Lib.hid hp
  have HKK:=Lib.hid hkk
  clear hr hm hO hB hp hkk hst
  go_wp2_with (first | (at_next;refine wpList_next_raw rfl _ rfl w.heap.size mp c c0 seen es c rfl HR.out HM2.out HOLD.out hc0 ?_ ?_) | fail)
  ·intro h0
   have hpl:(pre.Perm L):=by
    have:=HP.out
    rw [h0] at this
    simp only [List.map_nil,List.append_nil] at this
    exact this.trans hL.symm
   have hp12:pre.length≤12:=by
    have h1:=hpl.length_eq
    have h2:=hL.length_eq
    simp at h2
    omega
   have hB:=HB.out
   have hO:=HO.out
   have hsort:=sort195 hO hpl hLs hp12
   have hbase:∀ k,u3.ownBlock=some k→w.heap.size≤k:=fun k hk=>by have:=own_base hO k hk;omega
   clear HR HM2 HO HB HP HKK
   go_wp2_with (go_at_call 195;refine hsort.mono ?_;rintro e w' ⟨rfl,hO2,hG2⟩)
   go_ret
   obtain ⟨o1,o2⟩:=hO2
   refine ⟨_,rfl,⟨o1,o2.imp id ?_⟩,hB.grown hG2 hB.size hbase,fun e=>hNil (List.Perm.eq_nil (e ▸ hpl))⟩
   rintro ⟨g,cap,cur,x1,x2,x3⟩
   exact ⟨g,cap,cur,x1,by omega,x3⟩
  ·intro e he w1 hw1
   have he':e∈(leftOf es seen).toList:=by simpa using he
   obtain ⟨n1,n2,n3,n4⟩:=next_world (o:=.mapIter (some mp) c (seen.push e.born) c) hw1.out HR.out
   have hml:=(Array.getElem?_eq_some_iff.1 HM2.out).1
   have hmr:mp≠w.heap.size:=fun x=>by have h1:=HR.out;have h2:=HM2.out;rw [x,h1] at h2;cases h2
   have hkey:=HK.out e (left_sub es seen e he')
   have hen:=run_entry_at (P:=Tryz.prog) (setBlock w1 w.heap.size (.mapIter (some mp) c (seen.push e.born) c)) w.heap.size mp c seen es c e n1 ((n2 mp hmr).trans HM2.out) (left_sub es seen e he') HN.out
   rw [hkey] at hen
   have hO2:=HO.out.kept n3 (by
    by_cases hv:Value.ownBlock u3=none
    ·exact .inl hv
    ·right;intro hx;have:=own_base HO.out _ hx;omega)
   have hB2:=HB.out.grown n3 (by omega) (fun k hk=>by cases hk;omega)
   have hMM:=(n2 mp hmr).trans HM2.out
   obtain ⟨st1,st2⟩:=left_step es seen kk pre e HN.out he' HP.out
   have hpl:pre.length+1≤64:=by
    have h1:=st1.length_eq
    simp only [List.length_append,List.length_map,List.length_cons,List.length_nil,Array.length_toList] at h1
    omega
   have R1:=Lib.hid n1
   have M1:=Lib.hid hMM
   have O1:=Lib.hid hO2
   have B1:=Lib.hid hB2
   have S1:=Lib.hid st1
   have S2:=Lib.hid st2
   have N4:=Lib.hid n4
   rw [hkey]
   clear n1 n2 n3 n4 hO2 hB2 hMM st1 st2 hkey he he' hw1 HR HM2 HO HB HP
   generalize setBlock w1 w.heap.size (.mapIter (some mp) c (seen.push e.born) c)=w2 at *
   generalize kk e=ke at *
   obtain ⟨kb,ks⟩:=ke
   have HO3:Hid (((w2.alloc (.cells #[U kb,U ks] 177)).alloc (.cells #[U kb,U ks] 177)).ownsRow (w.heap.size+1) 177 2 u3 pre.length (regC pre)):=Lib.hid ((O1.out.alloc _).alloc _)
   have HCN:Hid (∀ j u,[U kb,U ks][j]?=some u→((w2.alloc (.cells #[U kb,U ks] 177)).alloc (.cells #[U kb,U ks] 177)).cell? ((⟨w2.heap.size+1,0,none⟩:Addr).add j)=some u):=Lib.hid (by
    have:=World.news_of_block (Blk.new (w2.alloc (.cells #[U kb,U ks] 177)) #[U kb,U ks] 177)
    simpa using this)
   have HC21:Hid (∀ u∈[U kb,U ks],u.oneCell'=true):=Lib.hid (by simp [Value.oneCell'])
   have HC31:Hid (pre.length+1≤maxLen):=Lib.hid (by unfold maxLen;omega)
   have HC41:Hid ((pre.length+1)*8≤140737488355328):=Lib.hid (by omega)
   have HC51:Hid (w.heap.size+1≤((w2.alloc (.cells #[U kb,U ks] 177)).alloc (.cells #[U kb,U ks] 177)).heap.size):=Lib.hid (by have:=N4.out;simp;omega)
   go_wp2_with (at_builtin;(refine wpList_append_lies _ rfl (.tmp 16) (.tmp 18) 255 rfl (w.heap.size+1) 177 i177 (.agg #[U 0,U 0]) 2 8 Tryz.underlying255 hi hz0 hz1 hz2 rfl (by omega) _ pre.length _ rfl HO3.out ⟨w2.heap.size+1,0,none⟩ 1 1 _ rfl rfl HCN.out HC21.out (by omega) HC31.out HC41.out HC51.out (w2.heap.size+2) (by simp) ?_);(intro g1 cap1 w4 hown1 hgrow1 hor1 _);(have Q1:=Lib.hid hown1);(have Q2:=Lib.hid hgrow1);(clear hown1 hgrow1 hor1))
   go_roundg (leftOf es (seen.push e.born)).size
   case measure=>have:=HKK.out;have:=S2.out;omega
   case rel=>
    have hsz:=N4.out
    have hml:=(Array.getElem?_eq_some_iff.1 HM.out).1
    have g1':∀ j,j<w2.heap.size→some j≠Value.ownBlock u3→w4.heap[j]?=w2.heap[j]?:=fun j hj hne=>by
     rw [Q2.out.block j (by simp;omega) hne,Below.heap_alloc _ _ _ (by simp;omega),Below.heap_alloc _ _ _ hj]
    have hne:∀ j,j<w.heap.size+1→some j≠Value.ownBlock u3:=fun j hj hx=>by
     have:=own_base O1.out j hx.symm;omega
    refine ⟨pre++[(kb,ks)],seen.push e.born,c,(g1' _ (by omega) (hne _ (by omega))).trans R1.out,(g1' _ (by omega) (hne _ (by omega))).trans M1.out,Nat.le_refl _,rfl,S1.out,?_,?_,?_,fun e=>absurd e (by simp)⟩
    ·rw [regC_append,List.length_append]
     exact Q1.out
    ·exact ((B1.out.alloc (by omega) _).alloc (by simp;omega) _).grown Q2.out (by simp;omega) (fun k hk=>by have:=own_base O1.out k hk;omega)
    ·have:=Q2.out.size
     simp at this
     omega
end Go.Proofs.YtkndlfdpmpdihaaGreatDoor
namespace Go.Proofs.YtkndlfdpmpdihaaGreatDoor
open Go.RowKit Go.Ev
set_option linter.unusedVariables false
set_option linter.unusedSimpArgs false
def keyRg (v:Value):Option (Int×Int):=match v with
 | .agg ⟨[.int .u32 a,.int .u32 b]⟩=>some (a,b)
 | _=>none
def kkRg (e:MapEntry):Int×Int:=(keyRg e.key).getD (0,0)
def insRg (x:Int×Int):List (Int×Int)→List (Int×Int)
 | []=>[x]
 | y::l=>match decide (x.1<y.1) with | true=>x::y::l | false=>y::insRg x l
def srtRg:List (Int×Int)→List (Int×Int)
 | []=>[]
 | x::l=>insRg x (srtRg l)
theorem insRg_perm (x:Int×Int):∀ l,(insRg x l).Perm (x::l)
 | []=>List.Perm.refl _
 | y::l=>by
   unfold insRg
   split
   ·exact List.Perm.refl _
   ·exact ((insRg_perm x l).cons y).trans (List.Perm.swap x y l)
theorem srtRg_perm:∀ l,(srtRg l).Perm l
 | []=>List.Perm.refl _
 | x::l=>(insRg_perm x _).trans ((srtRg_perm l).cons x)
def strictRg:List (Int×Int)→Bool
 | []=>true
 | x::l=>(match l with | []=>true | y::_=>decide (x.1<y.1))&&strictRg l
theorem strictRg_pw:∀ l,strictRg l=true→l.Pairwise (fun a b=>a.1<b.1)
 | [],_=>List.Pairwise.nil
 | [x],_=>by simp
 | x::y::l,h=>by
   unfold strictRg at h
   rw [Bool.and_eq_true,decide_eq_true_eq] at h
   have ih:=strictRg_pw (y::l) h.2
   rw [List.pairwise_cons]
   refine ⟨fun z hz=>?_,ih⟩
   rcases List.mem_cons.1 hz with rfl | hz
   ·exact h.1
   ·exact Int.lt_trans h.1 ((List.pairwise_cons.1 ih).1 z hz)
def nodupN:List Nat→Bool
 | []=>true
 | x::l=>(l.all fun y=>!(Nat.beq x y))&&nodupN l
theorem nodupN_pw:∀ l,nodupN l=true→l.Nodup
 | [],_=>List.Pairwise.nil
 | x::l,h=>by
   unfold nodupN at h
   rw [Bool.and_eq_true,List.all_eq_true] at h
   rw [List.nodup_cons]
   refine ⟨fun hx=>?_,nodupN_pw l h.2⟩
   have:=h.1 x hx
   rw [Nat.beq_refl] at this
   cases this
def okRg (es:List MapEntry) (c:Nat):Bool:=(es.all fun e=>(keyRg e.key).isSome&&decide (e.born<c))&&(nodupN (es.map (·.born))&&(decide (es.length≤12)&&strictRg (srtRg (es.map kkRg))))
def regionsB:Ev:=fun f args w=>match Nat.beq f 135,args with
 | true,⟨[.pointer (some ⟨b,0,none⟩)]⟩=>match w.heap[b]? with
   | some (.cells ⟨.map (some m)::_⟩ _ (0,0))=>match w.heap[m]? with
    | some (.map es c)=>match okRg es.toList c with
      | true=>match srtRg (es.toList.map kkRg) with
        | []=>some (.slice none 0 0,w)
        | x::l=>match w with
          | ⟨⟨h⟩,t,d,os,u⟩=>forceNat h.length fun n=>forceNat (l.length+1) fun k=>forceL (forceV 20) (regC (x::l)) fun cs=>Go.Ev.spine (h++[.cells ⟨cs⟩ 177 (4,1)]) fun h=>
            some (.slice (some ⟨n,0,none⟩) k k,⟨⟨h⟩,t,d,os,u⟩)
      | false=>none
    | _=>none
   | _=>none
 | _,_=>none
theorem ar_single {τ:Rel} {v:Value} {ys:Array Value} (h:AR τ ⟨[v]⟩ ys):∃ v',ys=#[v']∧VR τ v v':=by
 have hs:ys.size=1:=h.1.symm
 obtain ⟨v',rfl⟩:=Array.size_eq_one_iff.1 hs
 exact ⟨v',rfl,h.2 0 v v' rfl rfl⟩
theorem key_shape {k:Value} {a b:Int} (h:keyRg k=some (a,b)):k=.agg #[U a,U b]:=by
 unfold keyRg at h
 split at h
 ·cases h;rfl
 ·cases h
theorem key_vr {τ:Rel} {k k':Value} {a b:Int} (h:keyRg k=some (a,b)) (hv:VR τ k k'):k'=k∧k=.agg #[U a,U b]:=by
 unfold keyRg at h
 split at h
 ·rename_i a' b'
  cases h
  cases hv with
  | agg xs ys hs hx=>
    obtain ⟨l⟩:=ys
    have hs2:l.length=2:=hs.symm
    match l,hs2,hx with
    | [y0,y1],_,hx=>
      have h0:=hx 0 (.int .u32 a) y0 rfl rfl
      have h1:=hx 1 (.int .u32 b) y1 rfl rfl
      cases h0;cases h1
      exact ⟨rfl,rfl⟩
 ·cases h
theorem maps_keys {τ:Rel} {es fs:Array MapEntry} (h:ER τ es fs) (hk:∀ e∈es.toList,(keyRg e.key).isSome=true):es.toList.map (·.key)=fs.toList.map (·.key)∧es.toList.map (·.born)=fs.toList.map (·.born):=by
 have hl:es.toList.length=fs.toList.length:=by simpa using h.1
 have key:∀ i (h1:i<es.toList.length) (h2:i<fs.toList.length),es.toList[i].key=fs.toList[i].key∧es.toList[i].born=fs.toList[i].born:=by
  intro i h1 h2
  have h1':i<es.size:=by simpa using h1
  have h2':i<fs.size:=by simpa using h2
  obtain ⟨k1,_,k2⟩:=h.2 i es[i] fs[i] (Array.getElem?_eq_getElem h1') (Array.getElem?_eq_getElem h2')
  have hsm:=hk es.toList[i] (List.getElem_mem h1)
  simp only [Array.getElem_toList] at hsm ⊢
  obtain ⟨⟨a,b⟩,hab⟩:=Option.isSome_iff_exists.1 hsm
  exact ⟨(key_vr hab k1).1.symm,k2⟩
 constructor
 ·refine List.ext_getElem (by simpa using hl) fun i h1 h2=>?_
  rw [List.getElem_map,List.getElem_map]
  exact (key i (by simpa using h1) (by simpa using h2)).1
 ·refine List.ext_getElem (by simpa using hl) fun i h1 h2=>?_
  rw [List.getElem_map,List.getElem_map]
  exact (key i (by simpa using h1) (by simpa using h2)).2
theorem regionsB_ok {G:Gl}:EvOk Tryz.prog G regionsB:=by
 intro f args wa v wa2 h B w0 τ args' wr hA hw
 unfold regionsB at h
 split at h
 ·rename_i b hf
  have hf:=Nat.eq_of_beq_eq_true hf
  subst hf
  obtain ⟨p',rfl,hp⟩:=ar_single hA
  split at h
  ·rename_i m cr ct hb
   split at h
   ·rename_i es c hm
    split at h
    ·rename_i hok
     cases hp with
     | ptr _ r _ i ht=>
     obtain ⟨r1,i1,o1,ht1,hr1,hO1⟩:=hw.blk _ _ hb rfl
     obtain ⟨rfl,rfl⟩:=hw.fn _ _ _ _ _ ht ht1
     cases hO1 with
     | cells cs cs' e hcs=>
     obtain ⟨v0,hv0,hvr0⟩:=hcs.get (i:=0) (v:=.map (some m)) rfl
     cases hvr0 with
     | map _ m' i2 ht2=>
     obtain ⟨r3,i3,o3,ht3,hr3,hO3⟩:=hw.blk _ _ hm rfl
     obtain ⟨rfl,rfl⟩:=hw.fn _ _ _ _ _ ht2 ht3
     cases hO3 with
     | map _ fs _ hER=>
     unfold okRg at hok
     rw [Bool.and_eq_true,Bool.and_eq_true,Bool.and_eq_true,List.all_eq_true] at hok
     obtain ⟨k1,k2,k3,k4⟩:=hok
     have k1':∀ e∈es.toList,(keyRg e.key).isSome=true∧e.born<c:=fun e he=>by
      have:=k1 e he
      rw [Bool.and_eq_true,decide_eq_true_eq] at this
      exact this
     obtain ⟨q1,q2⟩:=maps_keys hER (fun e he=>(k1' e he).1)
     have hkeys:es.toList.map kkRg=fs.toList.map kkRg:=by
      have:∀ l:List MapEntry,l.map kkRg=(l.map (·.key)).map (fun k=>(keyRg k).getD (0,0)):=fun l=>by rw [List.map_map];rfl
      rw [this,this,q1]
     have hk:∀ e∈fs.toList,e.key=.agg #[U (kkRg e).1,U (kkRg e).2]:=by
      intro e he
      have hmem:e.key∈es.toList.map (·.key):=by rw [q1];exact List.mem_map_of_mem he
      obtain ⟨e',he',hke⟩:=List.mem_map.1 hmem
      obtain ⟨⟨a,b⟩,hab⟩:=Option.isSome_iff_exists.1 (k1' e' he').1
      rw [hke] at hab
      have e1:=key_shape hab
      unfold kkRg
      rw [hab]
      exact e1
     have hold:∀ e∈fs.toList,e.born<c:=by
      intro e he
      have hmem:e.born∈es.toList.map (·.born):=by rw [q2];exact List.mem_map_of_mem he
      obtain ⟨e',he',hke⟩:=List.mem_map.1 hmem
      rw [←hke];exact (k1' e' he').2
     have hn:(fs.toList.map (·.born)).Nodup:=by rw [←q2];exact nodupN_pw _ k2
     have h12:fs.size≤12:=by
      rw [decide_eq_true_eq] at k3
      rw [←hER.1];simpa using k3
     have hcell:wr.cell? ⟨r,0,none⟩=some (.map (some m')):=by
      have:cs'[0]?=some (Value.map (some m')):=hv0
      simp [World.cell?,hr1,this]
     have hL:(srtRg (es.toList.map kkRg)).Perm (fs.toList.map kkRg):=by rw [←hkeys];exact srtRg_perm _
     have hcon:=regions_walk wr r m' c fs kkRg hcell hr3 hk hold hn h12 _ hL (strictRg_pw _ k4)
     refine Calls.mono hcon ?_
     rintro e w' ⟨u,rfl,hown,hbel,hnil⟩
     have hW:=hw.belowed hbel
     split at h
     ·rename_i hs
      cases h
      rw [hs] at hnil
      rw [hnil rfl]
      exact ⟨τ,_,rfl,Rel.le.refl _,.sl0 0 0,hW⟩
     ·rename_i x l hs
      obtain ⟨hh,t,d,os,uu⟩:=wa
      obtain ⟨hh⟩:=hh
      simp only [forceNat_eq,forceL_eq _ (forceV_eq 20),Go.Ev.spine_eq,Option.some.injEq,Prod.mk.injEq] at h
      obtain ⟨rfl,rfl⟩:=h
      rw [hs] at hown
      obtain ⟨ol,⟨_,o0⟩ | ⟨g,cap,cur,rfl,hge,hg,hcap,hmax,hcsz,htk⟩⟩:=hown
      ·simp at o0
      have hor:OR τ (some (cap*2,2)) (.cells ⟨regC (x::l)⟩ 177 (4,1)) (.cells cur 177 (0,0)):=by
       refine .more _ _ _ _ 2 ?_ hcsz ?_
       ·have:=regC_length (x::l)
        simp at this ⊢
        simp at hcap
        omega
       ·intro j v1 v2 hv1 hv2
        have e1:(regC (x::l))[j]?=some v1:=by simpa using hv1
        rw [←htk] at e1
        have hj:j<(x::l).length*2:=by
         have:=(List.getElem?_eq_some_iff.1 e1).1
         simp at this ⊢
         omega
        rw [List.getElem?_take,if_pos hj,Array.getElem?_toList,hv2] at e1
        cases e1
        have e2:(regC (x::l))[j]?=some v1:=by simpa using hv1
        have hU:∀ u∈regC (x::l),∃ a,u=U a:=by
         intro u hu
         unfold regC at hu
         simp only [List.mem_flatten,List.mem_map] at hu
         obtain ⟨q,⟨p,_,rfl⟩,hq⟩:=hu
         simp at hq
         rcases hq with rfl | rfl<;>exact ⟨_,rfl⟩
        obtain ⟨a,rfl⟩:=hU v1 (List.mem_of_getElem? e2)
        exact .int _ _
      obtain ⟨τ',l1,t1,W1⟩:=hW.addAt hg (by cases e:B g with | none=>rfl | some o=>have:=hw.kp.lt (j:=g) (by rw [e];simp);omega) (fun k i hki=>by have:=(hw.dom _ _ _ hki).2.1;omega) hor
      refine ⟨τ',_,rfl,l1,?_,by simpa using W1⟩
      exact .sl _ _ _ _ _ _ _ t1 ⟨hcap,by simp⟩
    ·cases h
   ·cases h
  ·cases h
 ·cases h
end Go.Proofs.YtkndlfdpmpdihaaGreatDoor
namespace Go.Ev
theorem EvOkT.of {P:Program} {G:Gl} {bk:Ev} (hb:EvOk P G bk) {bkT:EvF} (h:∀ f args w v w' H,bkT f args w=some (v,w')→Rep w H→∃ u',bk f args (wOf H)=some (v,u')∧Rep w' u'.heap):EvOkT P G bkT:=by
 intro f args wa v wa2 he B w0 τ args' wr hA hw
 obtain ⟨H,hR,hw⟩:=hw
 obtain ⟨u',h1,h2⟩:=h f args wa v wa2 H he hR
 refine Calls.mono (hb f args (wOf H) v u' h1 B w0 τ args' wr hA hw) ?_
 rintro e wr' ⟨τ',v',rfl,l1,hv,hw'⟩
 exact ⟨τ',v',rfl,l1,hv,_,h2,hw'⟩
end Go.Ev
namespace Go.Proofs.YtkndlfdpmpdihaaGreatDoor
open Go.RowKit Go.Ev
set_option linter.unusedVariables false
set_option linter.unusedSimpArgs false
noncomputable def regionsT:EvF:=fun f args w=>match Nat.beq f 135,args with
 | true,⟨[.pointer (some ⟨b,0,none⟩)]⟩=>match w.blk b with
   | some (.cells ⟨.map (some m)::_⟩ _ (0,0))=>match w.blk m with
    | some (.map es c)=>match okRg es.toList c with
      | true=>match srtRg (es.toList.map kkRg) with
        | []=>some (.slice none 0 0,w)
        | x::l=>match Nat.blt w.n 65536 with
          | true=>forceNat (l.length+1) fun k=>forceL (forceV 20) (regC (x::l)) fun cs=>w.pushK (.cells ⟨cs⟩ 177 (4,1)) fun w'=>some (.slice (some ⟨w.n,0,none⟩) k k,w')
          | false=>none
      | false=>none
    | _=>none
   | _=>none
 | _,_=>none
theorem regionsT_ok {G:Gl}:EvOkT Tryz.prog G regionsT:=by
 refine EvOkT.of regionsB_ok ?_
 intro f args w v w' H h hR
 unfold regionsT at h
 split at h<;>first | (cases h;done) | skip
 rename_i b hf
 split at h<;>first | (cases h;done) | skip
 rename_i m cr ct hb
 have e1:H[b]?=_:=(hR.blk hb).1
 split at h<;>first | (cases h;done) | skip
 rename_i es c hm
 have e2:H[m]?=_:=(hR.blk hm).1
 split at h<;>first | (cases h;done) | skip
 rename_i hok
 have e0:=Nat.eq_of_beq_eq_true hf
 subst e0
 split at h
 ·rename_i hs
  cases h
  refine ⟨wOf H,?_,hR⟩
  simp only [regionsB,wOf,Nat.beq_refl,e1,e2,hok,hs]
 ·rename_i x l hs
  split at h<;>first | (cases h;done) | skip
  rename_i hlt
  simp only [forceNat_eq,forceL_eq _ (forceV_eq 20),TW.pushK,forceObj_eq,T.setK_eq,Option.some.injEq,Prod.mk.injEq] at h
  obtain ⟨rfl,rfl⟩:=h
  refine ⟨wOf (H.push (.cells ⟨regC (x::l)⟩ 177 (4,1))),?_,?_⟩
  ·simp only [regionsB,wOf,Nat.beq_refl,e1,e2,hok,hs,forceNat_eq,forceL_eq _ (forceV_eq 20),Go.Ev.spine_eq]
   rw [←hR.size]
   obtain ⟨hh⟩:=H
   simp
  ·exact hR.push (by simpa [Nat.blt_eq] using hlt) _
end Go.Proofs.YtkndlfdpmpdihaaGreatDoor
namespace Go.Ev
open Go.Proofs Go.Proofs.YtkndlfdpmpdihaaGreatDoor
set_option maxRecDepth 1000000
namespace Lit
def e0:Ent:=⟨158,[.string ⟨#[98,111,97,114,100,32,49,32,49,32,49,32,48,32,50]⟩],.tuple #[.agg #[.int .i64 1,.int .i64 1,.int .u32 1,.int .i64 0,.int .i64 2],.int .i64 0]⟩
def e1:Ent:=⟨215,[.string ⟨#[97,116]⟩],.int .i64 1⟩
def e2:Ent:=⟨215,[.string ⟨#[116,105,99,107]⟩],.int .i64 5⟩
def e3:Ent:=⟨215,[.string ⟨#[115,101,114,118,101]⟩],.int .i64 6⟩
def e4:Ent:=⟨216,[.string ⟨#[51]⟩],.tuple #[.int .u64 3,.int .i64 0]⟩
def e5:Ent:=⟨216,[.string ⟨#[48]⟩],.tuple #[.int .u64 0,.int .i64 0]⟩
def e6:Ent:=⟨231,[.int .i64 1],.agg #[.string ⟨#[97,116]⟩,.int .i64 2,.bool false,.bool true]⟩
def e7:Ent:=⟨231,[.int .i64 5],.agg #[.string ⟨#[116,105,99,107]⟩,.int .i64 1,.bool false,.bool false]⟩
def e8:Ent:=⟨231,[.int .i64 6],.agg #[.string ⟨#[115,101,114,118,101]⟩,.int .i64 0,.bool false,.bool true]⟩
end Lit
def G8:Gl:=plainG 8
noncomputable def ev0:EvF:=evY Tryz.prog G8 (evalDrawnP Tryz.prog G8) noB 3000 100
theorem draws_ok {G:Gl} (ev:EvF) (h:EvOkT Tryz.prog G ev):DrOkW Tryz.prog G (evalDrawnP Tryz.prog G ev):=evalDrawnP_okW (by kernel_rfl) ev h
theorem ev0_ok:EvOkT Tryz.prog G8 ev0:=evY_ok draws_ok noB_ok 3000 100
theorem e0_ok:EntOk Tryz.prog 8 Lit.e0:=ent_is ev0_ok (by decide) (by kernel_rfl)
theorem e1_ok:EntOk Tryz.prog 8 Lit.e1:=ent_is ev0_ok (by decide) (by kernel_rfl)
theorem e2_ok:EntOk Tryz.prog 8 Lit.e2:=ent_is ev0_ok (by decide) (by kernel_rfl)
theorem e3_ok:EntOk Tryz.prog 8 Lit.e3:=ent_is ev0_ok (by decide) (by kernel_rfl)
theorem e4_ok:EntOk Tryz.prog 8 Lit.e4:=ent_is ev0_ok (by decide) (by kernel_rfl)
theorem e5_ok:EntOk Tryz.prog 8 Lit.e5:=ent_is ev0_ok (by decide) (by kernel_rfl)
theorem e6_ok:EntOk Tryz.prog 8 Lit.e6:=ent_is ev0_ok (by decide) (by kernel_rfl)
theorem e7_ok:EntOk Tryz.prog 8 Lit.e7:=ent_is ev0_ok (by decide) (by kernel_rfl)
theorem e8_ok:EntOk Tryz.prog 8 Lit.e8:=ent_is ev0_ok (by decide) (by kernel_rfl)
def ents:List Ent:=[Lit.e0,Lit.e1,Lit.e2,Lit.e3,Lit.e4,Lit.e5,Lit.e6,Lit.e7,Lit.e8]
theorem ents_ok:∀ en∈ents,EntOk Tryz.prog 8 en:=by
 intro en h
 simp only [ents,List.mem_cons,List.not_mem_nil,or_false] at h
 rcases h with rfl | rfl | rfl | rfl | rfl | rfl | rfl | rfl | rfl
 ·exact e0_ok
 ·exact e1_ok
 ·exact e2_ok
 ·exact e3_ok
 ·exact e4_ok
 ·exact e5_ok
 ·exact e6_ok
 ·exact e7_ok
 ·exact e8_ok
noncomputable def bk:EvF:=orB (entB ents) regionsT
theorem bk_any {G:Gl} (h:G.n=8):EvOkT Tryz.prog G bk:=orB_ok (entB_ok (by rw [h];decide) ents (by rw [h];exact ents_ok)) regionsT_ok
theorem bk_ok:EvOkT Tryz.prog G8 bk:=bk_any rfl
end Go.Ev
namespace Go.Ev.Lit
open Go
def sl (k l c:Nat):Value:=.slice (some ⟨k,0,none⟩) l c
def pt (k:Nat):Value:=.pointer (some ⟨k,0,none⟩)
def st (x:Array UInt8):Value:=.string ⟨x⟩
def bF:Value:=.bool false
def bT:Value:=.bool true
def s0:Value:=.slice none 0 0
def cl (t:TypeId) (x:Array Value):Obj:=.cells x t (0,0)
def dd:Obj:=.cells #[] 0 (1,1)
abbrev me:=@Go.MapEntry.mk
end Go.Ev.Lit
