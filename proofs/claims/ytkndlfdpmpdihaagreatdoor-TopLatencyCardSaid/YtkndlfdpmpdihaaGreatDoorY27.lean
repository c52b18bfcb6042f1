/- Regions in the frames of rounds and of functions that hold marks; scopes with jumps. The run on the small world, with ranges over functions and jumps: what is reckoned. The run on the small world, with ranges over functions and jumps: regions. Conditions: those that each statement shows. -/
import Derived.Test.YtkndlfdpmpdihaaGreatDoorY26
import Derived.RangeFuncLeaves
import Derived.RangeFuncRecord
import Derived.LoopNIn
import Derived.RangeFuncOwn
namespace Go.Ev
open Go.RowKit
set_option linter.unusedVariables false
set_option linter.unusedSimpArgs false
abbrev Wf (r:Option Nat):Fence:={ Fence.wide with round:=r }
theorem stepsIn_W {P:Program} {r:Option Nat} {m m':Machine}:StepsIn (Machine.fenced P (Wf r)) P m m'↔Steps P m m':=
 ⟨StepsIn.steps,fun h=>(StepsIn.of_steps h).mono fun m _=>fenced_wide P m⟩
theorem callsIn_W {r:Option Nat} {n:Nat} {P:Program} {f:FuncId} {args:Array Value} {w:World} {R:Ending→World→Prop}:CallsIn (Wf r) n P f args w R↔Calls P f args w R:=
 ⟨fun h=>(callsIn_wide (n:=n)).1 h,fun h=>(callsIn_wide (n:=n)).2 h⟩
theorem rowsIn_W {r:Option Nat} {n:Nat} {P:Program} {row:String} {args:Array Value} {w:World} {R:Value→World→Prop} (h:Rows P row args w R):RowsIn (Wf r) n P row args w R:=
 fun c cs _=>let ⟨v,w',q,s⟩:=h c cs;⟨v,w',q,stepsIn_W.2 s⟩
def nd (a:Act):Act:={ a with defers:=[] }
theorem nd_eval (a:Act):(nd a).eval=a.eval:=by funext x;cases x<;>rfl
theorem nd_put (a:Act) (d:Option Tmp) (v:Value):nd (a.put d v)=(nd a).put d v:=by cases d<;>rfl
theorem put_defers (a:Act) (d:Option Tmp) (v:Value):(a.put d v).defers=a.defers:=by cases d<;>rfl
theorem put_with (a:Act) (ds:List Deferred) (d:Option Tmp) (v:Value):({ a with defers:=ds }).put d v={ a.put d v with defers:=ds }:=by cases d<;>rfl
theorem eval_with (a:Act) (ds:List Deferred):({ a with defers:=ds }:Act).eval=a.eval:=by funext x;cases x<;>rfl
section
variable {P:Program} {ops:Array Oper} {Q:Exit→Act→World→Prop}
theorem wp_defers {o:Oper} {a:Act} {w:World} {K:Act→World→Prop} (hQ:∀e a w,Q e a w→e=.normal) (hK:∀a w,a.defers≠[]→¬K a w) (ha:a.defers≠[]):¬o.wp P a w K Q:=by
 intro h;unfold Oper.wp Oper.upon at h
 have hp:∀v,(a.put o.dst v).defers≠[]:=fun v=>by rw[put_defers];exact ha
 split at h
 ·exact hK _ _ (hp _) h
 ·exact hK _ _ (hp _) h
 ·exact hK _ _ (by rw[put_defers];simp) h
 ·obtain⟨e,w',fr,hR,_⟩:=h []
  cases e with
  |returned v=>exact hK _ _ (hp _) hR
  |panicked ch=>have:=hQ _ _ _ hR;cases this
  |outgrown=>obtain⟨a1,w1,hq⟩:=hR;have:=hQ _ _ _ hq;cases this
 ·obtain⟨v,w',hR,_⟩:=h default []
  exact hK _ _ (hp _) hR
 ·have:=hQ _ _ _ h;cases this
 ·exact h
theorem no_letsOut (hQ:∀e a w,Q e a w→e=.normal):¬LetsOut Q:=by
 rintro ⟨a1,w1,hq⟩;have:=hQ _ _ _ hq;cases this
theorem wpOps_defers (hQ:∀e a w,Q e a w→e=.normal∧a.defers=[]):∀(l:List Nat) (a:Act) (w:World),a.defers≠[]→¬wpOps P ops Q l a w
 | [],a,w,ha,h=>ha (hQ _ _ _ h).2
 |i::rest,a,w,ha,h=>by
   unfold wpOps at h;split at h
   ·exact wpOps_defers hQ rest a w ha h
   ·split at h
    ·rcases h with h|h
     ·exact wp_defers (fun e a w hq=>(hQ e a w hq).1) (fun a w hd=>wpOps_defers hQ rest a w hd) ha h
     ·exact no_letsOut (fun e a w hq=>(hQ e a w hq).1) h.2
    ·exact wpOps_defers hQ rest _ w (by rw[put_defers];exact ha) h
theorem lift_op {r:Option Nat} {o:Oper} {a:Act} {w:World} {K K':Act→World→Prop} {Q':Exit→Act→World→Prop} (ds:List Deferred) (hnd:∀c,o.op≠.defer c) (ha:a.defers=[]) (hQ:∀e a w,Q e a w→e=.normal)
 (hK0:∀a w,a.defers≠[]→¬K a w) (hK:∀v w',K (a.put o.dst v) w'→K' ({ a.put o.dst v with defers:=ds }) w') (h:o.wp P a w K Q):o.wpIn (Wf r) 0 P { a with defers:=ds } w K' Q':=by
 unfold Oper.wpIn;refine⟨fun _ _=>trivial,?_⟩;rw[Oper.semAt_eq _ _ _ hnd,eval_with];unfold Oper.wp Oper.upon at h;unfold Oper.uponIn;generalize (execOp a.eval o).run P w=res at h ⊢
 have hno:∀b:Bool,(Wf r).depth.isSome=true→1≤0:=fun _ hh=>by simp[Fence.wide] at hh
 cases res with
 |ok n w'=>
   cases n with
   |value v=>dsimp only at h ⊢;rw[put_with];exact hK _ _ h
   |skip=>dsimp only at h ⊢;rw[put_with];exact hK _ _ h
   |defer d=>exact absurd h (hK0 _ _ (by rw[put_defers];simp))
   |enter f args=>
     refine⟨hno true,(callsIn_W (n:=0-1)).2 (Calls.mono h ?_)⟩;intro e w2 hR
     cases e with
     |returned v=>dsimp only at hR ⊢;rw[put_with];exact hK _ _ hR
     |panicked ch=>have:=hQ _ _ _ hR;cases this
     |outgrown=>exact absurd hR (no_letsOut hQ)
   |row rw0 args=>
     refine⟨hno true,rowsIn_W (Rows.mono h ?_)⟩;intro v w2 hR;rw[put_with];exact hK _ _ hR
   |_=>exact h.elim
 |halt x w'=>
   cases x with
   |panic v=>have:=hQ _ _ _ h;cases this
   |_=>exact h.elim
theorem lift_ops {r:Option Nat} (ds:List Deferred) (hnd:∀(i:Nat) (o:Oper),ops[i]?=some o→∀c,o.op≠.defer c) (hQ:∀e a w,Q e a w→e=.normal∧a.defers=[]) {Z:Act→Prop} (hZ:∀(i:Nat) (o:Oper) (a:Act) (v:Value),ops[i]?=some o→Z a→Z (a.put o.dst v)) :
 ∀(l:List Nat) (a:Act) (w:World),a.defers=[]→Z a→wpOps P ops Q l a w→wpOpsIn (Wf r) 0 P ops (fun e a2 w2=>∃a0,Q e a0 w2∧Z a0∧a2={ a0 with defers:=ds }) l { a with defers:=ds } w
 | [],a,w,ha,hz,h=>⟨a,h,hz,rfl⟩
 |i::rest,a,w,ha,hz,h=>by
   unfold wpOps at h;unfold wpOpsIn
   cases ho:ops[i]? with
   |none=>rw[ho] at h;exact lift_ops ds hnd hQ hZ rest a w ha hz h
   |some o=>
     rw[ho] at h;dsimp only at h ⊢;split at h
     ·rename_i hw
      rw[if_pos hw];rcases h with h|h
      ·refine lift_op ds (hnd i o ho) ha (fun e a w hq=>(hQ e a w hq).1) (fun a w hd=>wpOps_defers hQ rest a w hd) ?_ h
       intro v w' hk;exact lift_ops ds hnd hQ hZ rest _ w' (by rw[put_defers];exact ha) (hZ i o a v ho hz) hk
      ·exact absurd h.2 (no_letsOut (fun e a w hq=>(hQ e a w hq).1))
     ·rename_i hw
      rw[if_neg hw];refine⟨fun _ _=>trivial,?_⟩;rw[put_with];exact lift_ops ds hnd hQ hZ rest _ w (by rw[put_defers];exact ha) (hZ i o a undef ho hz) h
end
section scope
variable {P:Program} {b:Frame} {a:Act} {k:List Item} {cs:List Frame} {w:World}
theorem stepR_scope {c:Code}:step P (lone (b.atR a (.code (.scope c)::k)) cs w)=.next (lone (b.atR a (.code c::.inScope c::k)) cs w):=
 step_lone_go (by simp[stepG,stepG.exec,Frame.atR])
theorem stepR_inScope {c:Code}:step P (lone (b.atR a (.inScope c::k)) cs w)=.next (lone (b.atR a k) cs w):=
 step_lone_go (by simp[stepG,stepG.exec,Frame.atR])
def scopeIn (F:Fence) (n:Nat) (P:Program) (c:Code) (Q:Exit→Act→World→Prop):Nat→Code→Act→World→Prop
 | 0,_,_,_=>False
 |m+1,d,a,w=>d.wpIn F n P (fun e a' w'=>match e with|.goto l=>∃rest,findLabel c l=some rest∧scopeIn F n P c Q m rest a' w'|e=>Q e a' w') a w
theorem wpIn_scope {F:Fence} {n:Nat} {c:Code} {Q:Exit→Act→World→Prop} (m:Nat) (h:scopeIn F n P c Q m c a w):(Code.scope c).wpIn F n P Q a w:=by
 intro b k cs hro hb hr
 have hx:∀id,exitTo id (.inScope c::k)=exitTo id k:=fun id=>by simp[exitTo]
 have key:∀m d a w,scopeIn F n P c Q m d a w→∃e a' w',Q e a' w'∧ArrivesIn (Machine.fenced P F) P (lone (b.atR a (.code d::.inScope c::k)) cs w) b k cs e a' w':=by
  intro m
  induction m with
  |zero=>intro d a w h;exact h.elim
  |succ m ih=>
    intro d a w h;obtain⟨e,a₁,w₁,hq,harr⟩:=h b (.inScope c::k) cs hro hb hr
    cases e with
    |normal=>exact⟨.normal,a₁,w₁,hq,StepsIn.trans harr (.one (fenced_calm hb hr rfl) stepR_inScope)⟩
    |exit id=>exact⟨.exit id,a₁,w₁,hq,fun k' hk=>harr.1 k' (by rw[hx];exact hk),fun hr' hk=>harr.2 hr' (by rw[hx];exact hk)⟩
    |goto l=>
      obtain⟨rest,hf,hs⟩:=hq
      have hg:gotoIn l (.inScope c::k)=some (.code rest::.inScope c::k):=by simp[gotoIn,hf]
      obtain⟨e₂,a₂,w₂,hq₂,harr₂⟩:=ih rest a₁ w₁ hs;exact⟨e₂,a₂,w₂,hq₂,.of_steps (harr.1 _ hg) harr₂⟩
    |ret=>exact⟨_,a₁,w₁,hq,harr⟩
    |panic ch=>exact⟨_,a₁,w₁,hq,harr⟩
    |outgrown=>exact⟨_,a₁,w₁,hq,harr⟩
 obtain⟨e,a',w',hq,harr⟩:=key m c a w h;exact⟨e,a',w',hq,.of_steps (.one (fenced_calm hb hr rfl) stepR_scope) harr⟩
end scope
noncomputable def truthK (G:Gl) (v:Value):Option Bool:=match v with
 |.bool b=>some b
 |.func (.yield _) _ _=>knownB G.dl v
 |_=>none
theorem truthK_spec {G:Gl} {τ:Rel} {v v':Value} {b:Bool} (h:truthK G v=some b) (hs:τ.s=G.s) (hv:VR τ v v'):v'=.bool b:=by
 cases hv<;>first|(cases h;done)|skip
 ·cases h;rfl
 ·rename_i fn xs ys us vs hf _ _ _ _
  cases fn<;>first|(cases h;done)|exact absurd rfl (hf _)
 ·rename_i l xs ys h1 h2
  rw[hs] at h1;exact G.dec _ _ _ (knownB_spec h) h1
noncomputable def condK (G:Gl) (a:Env) (c:Operand):Option Bool:=match c with
 |.tmp _=>truthK G (a.eval c)
 |c=>match a.eval c with
   |.bool b=>some b
   |_=>none
inductive FSt where
 |fresh
 |marked
 |round
 |iter (ys:List Nat) (p:Option Code)
abbrev Rd:=List Value→TW→Option (Option Code×TW)
abbrev EvI:=FuncId→Array Value→Rd→TW→Option (Option Code×TW)
def regNd (ops:Array Oper):Bool:=ops.toList.all fun o=>match o.op with|.defer _=>false|_=>true
def offY (s:FSt) (d:Option Tmp):Bool:=match s with
 |.iter ys _=>match d with|some d=>!(ys.any (Nat.beq d))|none=>true
 |_=>true
def regOk (s:FSt) (ops:Array Oper):Bool:=regNd ops&&(match s with
 |.iter ys p=>ops.toList.all fun o=>offY (.iter ys p) o.dst
 |_=>true)
def yieldOf (s:FSt) (o:Oper):Option (List Nat×List Operand):=match s with
 |.iter ys none=>match o.op with
   |.call ⟨.value (.tmp t),args,_⟩=>match ys.any (Nat.beq t) with|true=>some (ys,args.toList)|false=>none
   |_=>none
 |_=>none
def moveOf (s:FSt) (o:Oper):Option (Nat×List Nat×Option Code):=match s with
 |.iter ys p=>match o.op,o.dst with
   |.move (.tmp t),some d=>match ys.any (Nat.beq t) with|true=>some (d,ys,p)|false=>none
   |_,_=>none
 |_=>none
def putsK {β:Type}:List Tmp→List Value→Env→(Env→Option β)→Option β
 | [],[],e,k=>k e
 |t::ts,v::vs,e,k=>match e.fits (some t) with
   |true=>putK e (some t) v fun e'=>putsK ts vs e' k
   |false=>none
 |_,_,_,_=>none
section ev
variable (P:Program) (G:Gl) (ev:EvF) (evi:EvI) (rd:Rd)
noncomputable def stepOpsX (ops:Array Oper):List Nat→FSt→Env→TW→Option (FSt×Env×TW)
 | [],s,e,w=>some (s,e,w)
 |i::rest,s,e,w=>match ops[i]? with
   |none=>stepOpsX ops rest s e w
   |some o=>match e.fits o.dst with
     |false=>none
     |true=>match wantedE ops e o with
       |some true=>match moveOf s o with
         |some (d,ys,p)=>match look e.l d with
           |none=>stepOpsX ops rest (.iter (d::ys) p) e w
           |some _=>none
         |none=>match offY s o.dst with
           |true=>match yieldOf s o with
             |some (ys,xs)=>match xs.all (e.ok G) with
               |true=>match forceL (forceV 20) (xs.map e.eval) (fun vs=>rd vs w) with
                 |some (c,w')=>putK e o.dst (.bool c.isNone) fun e'=>stepOpsX ops rest (.iter ys c) e' w'
                 |none=>none
               |false=>none
             |none=>match stepV P G (specT P) ev o e w with
               |some (v,w')=>putK e o.dst v fun e'=>stepOpsX ops rest s e' w'
               |none=>none
           |false=>none
       |some false=>match offY s o.dst with
         |true=>putK e o.dst undef fun e'=>stepOpsX ops rest s e' w
         |false=>none
       |none=>none
abbrev Bd:=FSt→Env→TW→Option (Exit×FSt×Env×TW)
noncomputable def evalLoopX (body:Bd):Nat→Bd
 | 0,_,_,_=>none
 |n+1,s,a,w=>match body s a w with
   |some (.normal,s',a',w')=>evalLoopX body n s' a' w'
   |r=>r
noncomputable def evalScopeX (run:Code→Bd) (c:Code):Nat→Code→Bd
 | 0,_,_,_,_=>none
 |m+1,d,s,a,w=>match run d s a w with
   |some (.goto l,s',a',w')=>match findLabel c l with
     |some rest=>evalScopeX run c m rest s' a' w'
     |none=>none
   |r=>r
noncomputable def evalCodeX (dr:DrawnT):Nat→Code→Bd
 | 0,_,_,_,_=>none
 |n+1,c,s,a,w=>match c with
   |.skip=>some (.normal,s,a,w)
   |.label _=>some (.normal,s,a,w)
   |.ret=>some (.ret,s,a,w)
   |.exit id=>some (.exit id,s,a,w)
   |.goto l=>some (.goto l,s,a,w)
   |.region _ ops false=>match regNd ops with
     |true=>match stepOpsX P G ev rd ops (List.range ops.size) s a w with
       |some (s',a',w')=>some (.normal,s',a',w')
       |none=>none
     |false=>none
   |.region _ ops true=>match regOk s ops with
     |true=>match dr ops a w with
       |some (a',w')=>some (.normal,s,a',w')
       |none=>none
     |false=>none
   |.seq x y=>match evalCodeX dr n x s a w with
     |some (.normal,s',a',w')=>evalCodeX dr n y s' a' w'
     |r=>r
   |.cond c x y=>match condK G a c with
     |some true=>evalCodeX dr n x s a w
     |some false=>evalCodeX dr n y s a w
     |none=>none
   |.block id body=>match evalCodeX dr n body s a w with
     |some (.exit k,s',a',w')=>if k=id then some (.normal,s',a',w') else some (.exit k,s',a',w')
     |r=>r
   |.loop body=>evalLoopX (evalCodeX dr n body) n s a w
   |.scope body=>evalScopeX (evalCodeX dr n) body n body s a w
   |.rangeFunc g ps assign body=>match s,a.ok G g,a.eval g with
     |.fresh,true,.func (.func gf) ⟨[]⟩ lb=>
       match evi gf lb (fun vals w=>putsK ps.toList vals a fun a1=>match evalCodeX dr n assign .round a1 w with
        |some (.normal,_,a2,w2)=>match evalCodeX dr n body .round a2 w2 with
          |some (.normal,_,_,w3)=>some (none,w3)
          |some (.ret,_,_,w3)=>some (some .ret,w3)
          |some (.exit id,_,_,w3)=>some (some (.exit id),w3)
          |some (.goto l,_,_,w3)=>some (some (.goto l),w3)
          |_=>none
        |_=>none) w with
       |some (none,w')=>some (.normal,.marked,a,w')
       |some (some .ret,w')=>some (.ret,.marked,a,w')
       |some (some (.exit id),w')=>some (.exit id,.marked,a,w')
       |some (some (.goto l),w')=>some (.goto l,.marked,a,w')
       |_=>none
     |_,_,_=>none
   |.refuse _=>none
end ev
def stOf:Option Rd→FSt
 |none=>.fresh
 |some _=>.iter [0] none
noncomputable def rdOf:Option Rd→Rd
 |none=>fun _ _=>none
 |some rd=>rd
def envOf (r:Option Rd) (fn:Func) (args:Array Value):Env:=match r with
 |none=>⟨args.size+(fn.ntmps-args.size),argsL 0 args.toList⟩
 |some _=>⟨1+args.size+(fn.ntmps-(1+args.size)),argsL 1 args.toList⟩
noncomputable def evalX (P:Program) (G:Gl) (dr:EvF→DrawnT) (book:EvF) (fuel:Nat):Nat→Option Rd→FuncId→Array Value→TW→Option (Value×FSt×TW)
 | 0,_,_,_,_=>none
 |n+1,r,f,args,w=>match (match r with|none=>book f args w|some _=>none) with
   |some (v,w)=>some (v,.fresh,w)
   |none=>match P.funcs[f]? with
     |none=>none
     |some fn=>match (match r with|none=>false|some _=>fn.name == "runtime.NumGoroutine"),fn.body with
       |false,some body=>
         match evalCodeX P G (fun f args w=>match evalX P G dr book fuel n none f args w with|some (v,.fresh,w)=>some (v,w)|some (v,.marked,w)=>some (v,w)|_=>none)
          (fun f lb rd w=>match evalX P G dr book fuel n (some rd) f lb w with|some (_,.iter _ p,w)=>some (p,w)|_=>none) (rdOf r)
          (dr (fun f args w=>match evalX P G dr book fuel n none f args w with|some (v,.fresh,w)=>some (v,w)|some (v,.marked,w)=>some (v,w)|_=>none)) fuel body (stOf r) (envOf r fn args) w with
         |some (.ret,s,e,w)=>match e.has (resTmps fn) with
           |true=>match runW P (results fn (e.row (resTmps fn))) w with
             |some (v,w)=>forceV 20 v fun v=>some (v,s,w)
             |none=>none
           |false=>none
         |some (.normal,s,e,w)=>match e.has (resTmps fn) with
           |true=>match runW P (results fn (e.row (resTmps fn))) w with
             |some (v,w)=>forceV 20 v fun v=>some (v,s,w)
             |none=>none
           |false=>none
         |_=>none
       |_,_=>none
noncomputable def evFn (P:Program) (G:Gl) (dr:EvF→DrawnT) (book:EvF) (fuel n:Nat):EvF:=fun f args w=>match evalX P G dr book fuel n none f args w with
 |some (v,.fresh,w)=>some (v,w)
 |some (v,.marked,w)=>some (v,w)
 |_=>none
noncomputable def evIt (P:Program) (G:Gl) (dr:EvF→DrawnT) (book:EvF) (fuel n:Nat):EvI:=fun f lb rd w=>match evalX P G dr book fuel n (some rd) f lb w with
 |some (_,.iter _ p,w)=>some (p,w)
 |_=>none
section wt
variable {G:Gl} {B B':FM} {w0:World} {τ:Rel} {wa:TW} {w:World}
theorem WT.turn (h:WT G B w0 τ wa w) {r:Nat} {o' u:Obj} (hr:B r=some u) (hu:u.isCells=false) (hB:∀j,j≠r→B' j=B j) (hr':B' r=none∨B' r=some o'):WT G B' w0 τ wa (w.putObj r o'):=by
 obtain⟨H,hR,h⟩:=h;have hh:=h.kp.block r u hr;have hl:=(Array.getElem?_eq_some_iff.1 hh).1;have old:∀ {j:Nat},j≠r→(w.putObj r o').heap[j]?=w.heap[j]?:=fun{j} hj=>World.putObj_heap_other hj;refine⟨H,hR,fun k v hk hv=>?_,h.fn,h.inj,fun k r2 i x=>?_,h.ok,fun k cs e hk=>?_,h.glob,?_,h.sy⟩
 ·obtain⟨r2,i,o2,h1,h2,h3⟩:=h.blk k v hk hv
  have hn:=(h.dom _ _ _ h1).2.2 ⟨v,hk,hv⟩;exact⟨r2,i,o2,h1,by rw[old (fun e=>by rw[e,hr] at hn;cases hn)];exact h2,h3⟩
 ·obtain⟨a,b,c⟩:=h.dom _ _ _ x
  refine⟨a,by simp[World.putObj];exact b,fun l=>?_⟩;have hn:=c l;rw[hB r2 (fun e=>by rw[e,hr] at hn;cases hn)];exact hn
 ·obtain⟨r2,i,cs',e',f,h1,h2,h3,h4,h5⟩:=h.old k cs e hk
  have hne:r2≠r:=fun e=>by
   rw[e,hh] at h2;cases h2;cases hu
  exact⟨r2,i,cs',e',f,h1,by rw[old hne];exact h2,h3,h4,h5.imp id fun hb=>by rw[hB r2 hne];exact hb⟩
 ·refine⟨h.kp.os,h.kp.tape,h.kp.output,by simp[World.putObj];exact h.kp.size,fun j v hj=>?_⟩
  by_cases e:j=r
  ·subst e
   rcases hr' with q|q
   ·rw[q] at hj;cases hj
   ·rw[q] at hj;cases hj
    exact World.putObj_heap_same hl
  ·rw[old e]
   rw[hB j e] at hj;exact h.kp.block j v hj
end wt
structure Ctx where
 B0:FM
 L:Nat
 rc:Option Code→Loop
def yv (L:Nat):Value:=.func (.yield L) #[] #[]
def RdOk (P:Program) (G:Gl) (w0:World) (rd:Rd) (C:Ctx) (τ0:Rel):Prop:=∀vals wa c wa2,rd vals wa=some (c,wa2)→∀(τ:Rel) (vals':List Value) (wr:World),τ0.le τ→AR τ ⟨vals⟩ ⟨vals'⟩→WT G (upd C.B0 C.L (some (.loop (C.rc none)))) w0 τ wa wr →
 ∃fn tmps assign body,(Instr.yield C.L ⟨vals'⟩).run P wr=.ok (.round C.L fn tmps assign body) wr∧RoundIn (Wf none) 0 P C.L fn tmps assign body wr fun e wr'=>∃ τ',e=.returned (.bool c.isNone)∧τ.le τ'∧WT G (upd C.B0 C.L (some (.loop (C.rc c)))) w0 τ' wa2 wr'
abbrev mk0 (D:Nat):Obj:=.deferred (some [])
def Fr (P:Program) (G:Gl) (w0:World) (rd:Rd) (C:Ctx) (τ0:Rel) (r:Option Nat) (B:FM) (a':Act):FSt→Prop
 |.fresh=>r=none∧a'.defers=[]∧B=C.B0
 |.marked=>r=none∧∃D,C.B0 D=none∧a'.defers=[{ target:=.collected D,args:=#[] }]∧B=upd C.B0 D (some (.deferred (some [])))
 |.round=>(∃l,r=some l)∧a'.defers=[]∧B=C.B0
 |.iter ys p=>r=none∧a'.defers=[]∧B=upd C.B0 C.L (some (.loop (C.rc p)))∧(∀y∈ys,a'.tmps.getD y undef=yv C.L)∧RdOk P G w0 rd C τ0
theorem getD_put_ne {a:Act} {d:Option Tmp} {v:Value} {y:Nat} (h:d≠some y):(a.put d v).tmps.getD y undef=a.tmps.getD y undef:=by
 cases d with
 |none=>rfl
 |some d=>
   have:d≠y:=fun e=>h (by rw[e]);simp only[Act.put,Array.getD_eq_getD_getElem?];rw[Array.getElem?_setIfInBounds_ne this]
theorem offY_ne {ys:List Nat} {p:Option Code} {d:Option Tmp} (h:offY (.iter ys p) d=true) {y:Nat} (hy:y∈ys):d≠some y:=by
 rintro rfl;have h:(!(ys.any (Nat.beq y)))=true:=h;have:ys.any (Nat.beq y)=true:=List.any_eq_true.2 ⟨y,hy,Nat.beq_refl y⟩;rw[this] at h;cases h
theorem any_mem {ys:List Nat} {t:Nat} (h:ys.any (Nat.beq t)=true):t∈ys:=by
 obtain⟨y,hy,e⟩:=List.any_eq_true.1 h;rw[Nat.eq_of_beq_eq_true e];exact hy
section sound
variable {P:Program} {G:Gl} {ev:EvF} {rd:Rd} {C:Ctx} {τ0:Rel} {w0:World} {r:Option Nat}
theorem Fr.put {B:FM} {a':Act} {s:FSt} (h:Fr P G w0 rd C τ0 r B a' s) {d:Option Tmp} (hd:offY s d=true) (v:Value):Fr P G w0 rd C τ0 r B (a'.put d v) s:=by
 cases s with
 |fresh=>exact⟨h.1,by rw[put_defers];exact h.2.1,h.2.2⟩
 |marked=>
   obtain⟨h1,D,h2,h3,h4⟩:=h;exact⟨h1,D,h2,by rw[put_defers];exact h3,h4⟩
 |round=>exact⟨h.1,by rw[put_defers];exact h.2.1,h.2.2⟩
 |iter ys p=>
   obtain⟨h1,h2,h3,h4,h5⟩:=h;exact⟨h1,by rw[put_defers];exact h2,h3,fun y hy=>by rw[getD_put_ne (offY_ne hd hy)];exact h4 y hy,h5⟩
theorem regNd_nd {ops:Array Oper} (h:regNd ops=true) (i:Nat) (o:Oper) (ho:ops[i]?=some o) (c:Call):o.op≠.defer c:=by
 have:=List.all_eq_true.1 h o (by simpa using Array.mem_of_getElem? ho);intro e;rw[e] at this;cases this
theorem regOk_nd {s:FSt} {ops:Array Oper} (h:regOk s ops=true):regNd ops=true:=by
 unfold regOk at h;rw[Bool.and_eq_true] at h;exact h.1
theorem regOk_off {ys:List Nat} {p:Option Code} {ops:Array Oper} (h:regOk (.iter ys p) ops=true) (i:Nat) (o:Oper) (ho:ops[i]?=some o):offY (.iter ys p) o.dst=true:=by
 unfold regOk at h;rw[Bool.and_eq_true] at h;exact List.all_eq_true.1 h.2 o (by simpa using Array.mem_of_getElem? ho)
theorem nd_of (a:Act) (h:a.defers=[]) (ds:List Deferred):nd { a with defers:=ds }=a:=by cases a;simp only at h;subst h;rfl
theorem yieldOf_spec {s:FSt} {o:Oper} {ys:List Nat} {xs:List Operand} (h:yieldOf s o=some (ys,xs)):s=.iter ys none∧∃t args ts,t∈ys∧o.op=.call ⟨.value (.tmp t),args,ts⟩∧xs=args.toList:=by
 unfold yieldOf at h
 split at h<;>first|(cases h;done)|skip
 split at h<;>first|(cases h;done)|skip
 rename_i t args ts hop
 split at h<;>first|(cases h;done)|skip
 rename_i ha;cases h;exact⟨rfl,t,args,ts,any_mem ha,hop,rfl⟩
theorem moveOf_spec {s:FSt} {o:Oper} {d:Nat} {ys:List Nat} {p:Option Code} (h:moveOf s o=some (d,ys,p)):s=.iter ys p∧∃t,t∈ys∧o.op=.move (.tmp t)∧o.dst=some d:=by
 unfold moveOf at h
 split at h<;>first|(cases h;done)|skip
 split at h<;>first|(cases h;done)|skip
 rename_i t d2 hop hd
 split at h<;>first|(cases h;done)|skip
 rename_i ha;cases h;exact⟨rfl,t,any_mem ha,hop,hd⟩
theorem run_yieldOp {o:Oper} {t:Nat} {args:Array Operand} {ts:Array TypeId} {a:Act} {L:Nat} {w:World} {n:Next} (ho:o.op=.call ⟨.value (.tmp t),args,ts⟩) (ha:a.tmps.getD t undef=yv L) (hy:(Instr.yield L (args.map a.eval)).run P w=.ok n w):(execOp a.eval o).run P w=.ok n w:=by
 have he:a.eval (.tmp t)=yv L:=ha;unfold execOp;rw[ho];simp only[resolve,he,yv];simp[go_sem,invoke,hy]
theorem run_moveOp {o:Oper} {x:Operand} {a:Act} {w:World} (ho:o.op=.move x):(execOp a.eval o).run P w=.ok (.value (a.eval x)) w:=by
 unfold execOp;rw[ho];rfl
theorem ar_map {τ:Rel} {a:Env} {a':Act} {xs:List Operand} (h:∀x∈xs,VR τ (a.eval x) (a'.eval x)):AR τ ⟨xs.map a.eval⟩ ⟨xs.map a'.eval⟩:=by
 refine⟨by simp,fun i v v' h1 h2=>?_⟩;simp only[List.getElem?_toArray,List.getElem?_map,Option.map_eq_some_iff] at h1 h2;obtain⟨x,hx,rfl⟩:=h1;obtain⟨y,hy,rfl⟩:=h2;rw[hx] at hy;cases hy;exact h x (List.mem_of_getElem? hx)
theorem stepOpsX_sound (hev:EvOkT P G ev) (ops:Array Oper) (hreg:regNd ops=true):∀(l:List Nat) {s s2:FSt} {a a2:Env} {wa wa2:TW},stepOpsX P G ev rd ops l s a wa=some (s2,a2,wa2) →
 ∀ {B:FM} {τ:Rel} {a':Act} {wr:World},τ0.le τ→EnvR τ a (nd a')→Fr P G w0 rd C τ0 r B a' s→WT G B w0 τ wa wr →
 ∀ {Q:Exit→Act→World→Prop},(∀ τ' B' a2' wr',τ.le τ'→EnvR τ' a2 (nd a2')→Fr P G w0 rd C τ0 r B' a2' s2→WT G B' w0 τ' wa2 wr'→Q .normal a2' wr')→wpOpsIn (Wf r) 0 P ops Q l a' wr:=by
 intro l
 induction l with
 |nil=>
   intro s s2 a a2 wa wa2 h B τ a' wr h0 ha hf hw Q hQ;simp only[stepOpsX,Option.some.injEq,Prod.mk.injEq] at h;obtain⟨rfl,rfl,rfl⟩:=h;exact hQ τ B _ _ (Rel.le.refl _) ha hf hw
 |cons i rest ih=>
   intro s s2 a a2 wa wa2 h B τ a' wr h0 ha hf hw Q hQ;unfold stepOpsX at h;unfold wpOpsIn
   cases ho:ops[i]? with
   |none=>rw[ho] at h;exact ih h h0 ha hf hw hQ
   |some o=>
     rw[ho] at h;dsimp only at h ⊢
     split at h<;>first|(cases h;done)|skip
     rename_i hfit;split at h
     ·rename_i hwant
      have hwant':Region.wanted o (yielded ops a'.tmps)=true:=wantedE_spec (a':=nd a') hwant ha;rw[if_pos hwant'];split at h
      ·rename_i d ys p hm
       obtain⟨rfl,t,hty,hop,hdst⟩:=moveOf_spec hm
       split at h<;>first|(cases h;done)|skip
       rename_i hlk;obtain⟨rfl,f2,rfl,f4,f5⟩:=hf;refine⟨fun _ _=>trivial,?_⟩;rw[Oper.semAt_none,run_moveOp hop,Oper.uponIn_value];have hv:a'.eval (.tmp t)=yv C.L:=f4 t hty;rw[hv,hdst];rw[hdst] at hfit
       have hlt:d<a'.tmps.size:=by
        have h1:=fits_lt hfit;have h2:=ha.size;have h3:a'.tmps.size=a.n:=h2;omega
       refine ih (s:=.iter (d::ys) p) h h0 ?_ ⟨rfl,by rw[put_defers];exact f2,rfl,?_,f5⟩ hw hQ
       ·rw[nd_put]
        refine⟨fun y u hu=>?_,by simp[Act.put];exact ha.size,rfl⟩
        have hne:some d≠some y:=fun e=>by cases e;rw[hlk] at hu;cases hu
        rw[getD_put_ne hne];exact ha.tmps y u hu
       ·intro y hy
        by_cases e:d=y
        ·subst e
         simp only[Act.put,Array.getD_eq_getD_getElem?];rw[Array.getElem?_setIfInBounds_self,if_pos hlt];rfl
        ·rw[getD_put_ne (fun x=>e (Option.some.inj x))]
         rcases List.mem_cons.1 hy with h'|h'
         ·exact absurd h'.symm e
         ·exact f4 y h'
      ·rename_i hmv
       split at h<;>first|(cases h;done)|skip
       rename_i hoff;split at h
       ·rename_i ys xs hy
        obtain⟨rfl,t,args,ts,hty,hop,rfl⟩:=yieldOf_spec hy
        split at h<;>first|(cases h;done)|skip
        rename_i hok;rw[forceL_eq _ (forceV_eq 20)] at h
        split at h<;>first|(cases h;done)|skip
        rename_i c w' hrd;rw[putK_eq] at h;obtain⟨rfl,f2,rfl,f4,f5⟩:=hf
        have hvr:∀x∈args.toList,VR τ (a.eval x) (a'.eval x):=fun x hx=>by
         have:=ha.eval hw.glob x (List.all_eq_true.1 hok x hx);rw[nd_eval] at this;exact this
        obtain⟨fn,tmps,assign,body,y1,y2⟩:=f5 _ _ _ _ hrd τ _ wr h0 (ar_map hvr) hw
        have y1':(Instr.yield C.L (args.map a'.eval)).run P wr=.ok (.round C.L fn tmps assign body) wr:=by
         have e:args.map a'.eval=⟨args.toList.map a'.eval⟩:=by cases args;simp
         rw[e];exact y1
        have hrun:=run_yieldOp hop (f4 t hty) y1';refine⟨fun _ _=>trivial,?_⟩;rw[Oper.semAt_none,hrun,Oper.uponIn_round];refine⟨fun hh=>by simp[Fence.wide] at hh,y2.mono ?_⟩;rintro e w2 ⟨τ',rfl,l1,hw2⟩;dsimp only;refine ih (s:=.iter ys c) h (h0.trans l1) ?_ ?_ hw2 (fun τ2 B' a2' wr' l2 h2 h3 h4=>hQ τ2 B' a2' wr' (l1.trans l2) h2 h3 h4)
        ·rw[nd_put];exact(ha.mono l1).put o.dst hfit (.bool _)
        ·have hf':Fr P G w0 rd C τ0 none (upd C.B0 C.L (some (.loop (C.rc c)))) a' (.iter ys c):=⟨rfl,f2,rfl,f4,f5⟩
         exact hf'.put hoff _
       ·rename_i hy
        split at h<;>first|(cases h;done)|skip
        rename_i v w' hst;rw[putK_eq] at h;have hv:∀x∈o.op.operands,a.ok G x=true→VR τ (a.eval x) ((nd a').eval x):=fun x _ hx=>ha.eval hw.glob x hx;have hwp:=stepV_sound (K:=fun a2 w2=>∃ τ' v',τ.le τ'∧VR τ' v v'∧WT G B w0 τ' w' w2∧a2=(nd a').put o.dst v') (Q:=fun _ _ _=>False) hev hst hv hw (fun τ' v' wr' l1 hvv hw'=>⟨τ',v',l1,hvv,hw',rfl⟩);have:=lift_op (r:=r) (K':=wpOpsIn (Wf r) 0 P ops Q rest) (Q':=Q) a'.defers (regNd_nd hreg i o ho) rfl (fun e a w hq=>hq.elim) ?_ ?_ hwp
        ·exact this
        ·rintro a3 w3 hd ⟨τ',v',_,_,_,rfl⟩
         exact hd (by rw[put_defers];rfl)
        ·rintro v0 w3 ⟨τ',v',l1,hvv,hw3,he⟩
         rw[he]
         have e1:({ (nd a').put o.dst v' with defers:=a'.defers }:Act)=a'.put o.dst v':=by cases o.dst<;>rfl
         rw[e1];refine ih h (h0.trans l1) ?_ (hf.put hoff v') hw3 (fun τ2 B' a2' wr' l2 h2 h3 h4=>hQ τ2 B' a2' wr' (l1.trans l2) h2 h3 h4);rw[nd_put];exact(ha.mono l1).put o.dst hfit hvv
     ·rename_i hwant
      have hwant':Region.wanted o (yielded ops a'.tmps)=false:=wantedE_spec (a':=nd a') hwant ha;rw[if_neg (by rw[hwant'];simp)]
      split at h<;>first|(cases h;done)|skip
      rename_i hoff;rw[putK_eq] at h;refine⟨fun _ _=>trivial,?_⟩;refine ih h h0 ?_ (hf.put hoff undef) hw hQ;rw[nd_put];exact ha.put o.dst hfit (undef_vr _)
     ·cases h
def DrOkW (P:Program) (G:Gl) (dr:DrawnT):Prop:=∀ops a a2 wa wa2,dr ops a wa=some (a2,wa2)→∀B w0 τ a' wr,EnvR τ a a'→WT G B w0 τ wa wr →
 ∀t,wpOps P ops (QN fun e a2' wr'=>e=.normal∧∃ τ',τ.le τ'∧EnvR τ' a2 a2'∧WT G B w0 τ' wa2 wr') (Region.schedule (P.follows .mixedOrders) ops t) a' { wr with drawn:=wr.drawn+1 }
theorem evalDrawnP_okW (hm:P.follows .mixedOrders=true) (ev:EvF) (hev:EvOkT P G ev):DrOkW P G (evalDrawnP P G ev):=by
 intro ops a a2 wa wa2 h B w0 τ a' wr ha hw t;have hQ:∀ τ' a2' wr',τ.le τ'→EnvR τ' a2 a2'→WT G B w0 τ' wa2 wr'→(fun(e:Exit) (a2':Act) (wr':World)=>e=.normal∧∃ τ',τ.le τ'∧EnvR τ' a2 a2'∧WT G B w0 τ' wa2 wr') .normal a2' wr':=fun τ' a2' wr' h1 h2 h3=>⟨rfl,τ',h1,h2,h3⟩;unfold evalDrawnP at h;simp only[Region.schedule,hm,Bool.true_or,if_true];split at h
 ·rename_i hns
  refine wpAny_sound ops.size t _ a' _ ?_;split at h
  ·rename_i r hr
   rw[runP_eq] at hr;cases h;exact(evalP_sound hev hns ops.size hr ⟨fun k hk=>(by cases hk),fun k hk=>(by cases hk),trivial,fun k hk=>(by cases hk),fun k hk=>(by cases hk)⟩ hQ).1 [] _ τ a' _ (fun k hk=>by cases hk) List.nodup_nil ⟨rfl,fun j d=>by simp⟩ (Rel.le.refl _) (EnvD.of ha _) hw.drewn
  ·exact evalAnyT_sound (specT_ok P G) hev hns _ h ha hw.drewn hQ
 ·cases h
theorem drawn_in {dr:DrawnT} (hdr:DrOkW P G dr) {id:Nat} {ops:Array Oper} {s:FSt} {a a2:Env} {wa wa2:TW} (h:dr ops a wa=some (a2,wa2)) (hreg:regOk s ops=true) {B:FM} {τ:Rel} {a':Act} {wr:World} (ha:EnvR τ a (nd a')) (hf:Fr P G w0 rd C τ0 r B a' s) (hw:WT G B w0 τ wa wr)
 {Q:Exit→Act→World→Prop} (hQ:∀ τ' B' a2' wr',τ.le τ'→EnvR τ' a2 (nd a2')→Fr P G w0 rd C τ0 r B' a2' s→WT G B' w0 τ' wa2 wr'→Q .normal a2' wr'):(Code.region id ops true).wpIn (Wf r) 0 P Q a' wr:=by
 let Z:Act→Prop:=fun x=>match s with|.iter ys p=>∀y∈ys,x.tmps.getD y undef=a'.tmps.getD y undef|_=>True
 have hZ0:Z (nd a'):=by
  show match s with|.iter ys p=>∀y∈ys,(nd a').tmps.getD y undef=a'.tmps.getD y undef|_=>True
  cases s<;>first|trivial|(intro y _;rfl)
 have hZp:∀(i:Nat) (o:Oper) (x:Act) (v:Value),ops[i]?=some o→Z x→Z (x.put o.dst v):=by
  intro i o x v ho hz
  revert hz
  show (match s with|.iter ys p=>∀y∈ys,x.tmps.getD y undef=a'.tmps.getD y undef|_=>True)→(match s with|.iter ys p=>∀y∈ys,(x.put o.dst v).tmps.getD y undef=a'.tmps.getD y undef|_=>True)
  cases s<;>first|(intro _;trivial)|skip
  rename_i ys p;intro hz y hy;rw[getD_put_ne (offY_ne (regOk_off hreg i o ho) hy)];exact hz y hy
 refine wpIn_mono (Q:=fun e a3 w3=>∃a0,QN (fun e a2' wr'=>e=.normal∧∃ τ',τ.le τ'∧EnvR τ' a2 a2'∧WT G B w0 τ' wa2 wr') e a0 w3∧Z a0∧a3={ a0 with defers:=a'.defers }) (wpIn_region_draw fun t=>?_) ?_
 ·have h1:=hdr ops a a2 wa wa2 h B w0 τ (nd a') wr ha hw t
  refine lift_ops (r:=r) (Z:=Z) a'.defers (fun i o ho c=>regNd_nd (regOk_nd hreg) i o ho c) ?_ hZp _ (nd a') _ rfl hZ0 h1;intro e x w hq
  cases e<;>first|(obtain⟨h,_⟩:=hq;cases h;done)|exact hq.elim|skip
  obtain⟨_,τ',_,h3,_⟩:=hq;exact⟨rfl,h3.d'⟩
 ·rintro e a3 w3 ⟨a0,hq,hz,rfl⟩
  have hn:e=.normal:=by cases e<;>first|rfl|(obtain⟨h,_⟩:=hq;cases h;done)|exact hq.elim
  subst hn;obtain⟨_,τ',l1,h3,h4⟩:=hq;refine hQ τ' B _ _ l1 ?_ ?_ h4
  ·rw[nd_of a0 h3.d'];exact h3
  ·revert hz
   show (match s with|.iter ys p=>∀y∈ys,a0.tmps.getD y undef=a'.tmps.getD y undef|_=>True)→_
   cases s with
   |fresh=>intro _;exact hf
   |marked=>intro _;exact hf
   |round=>intro _;exact hf
   |iter ys p=>
     intro hz;obtain⟨g1,g2,g3,g4,g5⟩:=hf;exact⟨g1,g2,g3,fun y hy=>(hz y hy).trans (g4 y hy),g5⟩
end sound
end Go.Ev
