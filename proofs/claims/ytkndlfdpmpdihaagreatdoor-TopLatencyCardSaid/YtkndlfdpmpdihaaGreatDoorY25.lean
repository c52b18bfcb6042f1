/- Regions that draw their order, reckoned in one order. Regions that draw their order, reckoned in one order: all orders agree. Conditions: those that each statement shows. -/
import Derived.Test.YtkndlfdpmpdihaaGreatDoorY24
namespace Go.Ev
open Go.RowKit
set_option linter.unusedVariables false
set_option linter.unusedSimpArgs false
def bindsOn (o:Oper) (k:Nat):Bool:=o.after.any fun e=>Region.binds .any e&&e.on==k
theorem bindsOn_spec {o:Oper} {k:Nat} (h:bindsOn o k=true):∃e∈o.after,Region.binds .any e=true∧e.on=k:=by
 obtain⟨e,he,hb⟩:=Array.any_eq_true'.1 h;simp only[Bool.and_eq_true,beq_iff_eq] at hb;exact⟨e,he,hb.1,hb.2⟩
theorem bindsOn_of {o:Oper} {k:Nat} {e:Edge} (he:e∈o.after) (hb:Region.binds .any e=true) (hk:e.on=k):bindsOn o k=true:=
 Array.any_eq_true'.2 ⟨e,he,by simp[hb,hk]⟩
def lookConf (ops:Array Oper) (pend:List Nat) (o:Oper):Bool:=pend.all fun k=>bindsOn o k || (match ops[k]? with
 |some ok=>(match ok.dst with|some d=>!((o.looksAt ops).contains d)|none=>true)
 |none=>false)
def freshD (ops:Array Oper) (pend:List Nat) (o:Oper):Bool:=match o.dst with
 |none=>true
 |some d=>pend.all fun k=>match ops[k]? with
   |some ok=>ok.dst != some d&&!((ok.looksAt ops).contains d)
   |none=>false
def selfD (ops:Array Oper) (o:Oper):Bool:=match o.dst with|none=>true|some d=>!((o.looksAt ops).contains d)
def quietKind (o:Oper):Bool:=match o.op with
 |.call ⟨.builtin .len,_,_⟩=>true
 |.call ⟨.builtin .cap,_,_⟩=>true
 |.call ⟨.builtin .min,_,_⟩=>true
 |.call ⟨.builtin .max,_,_⟩=>true
 |.call _=>false
 |.store _ _ _=>false
 |.alloc _=>false
 |.box _ _=>false
 |.makeMap _ _=>false
 |.buildSlice _ _ _=>false
 |.makeSlice _ _ _=>false
 |.mapUpdate _ _ _ _=>false
 |.insert _ _ _ _=>false
 |.mapEntry _ _ _=>false
 |.entryStore _ _ _ _=>false
 |.select _ _=>false
 |_=>true
def pickP (ops:Array Oper) (pend:List Nat):List Nat→Option Nat
 | []=>none
 |i::rs=>match ops[i]? with
   |none=>pickP ops pend rs
   |some o=>match quietKind o&&(noSel o&&(selfD ops o&&(freshD ops pend o&&lookConf ops pend o))) with
     |true=>some i
     |false=>pickP ops pend rs
theorem pickP_spec {ops:Array Oper} {pend:List Nat}:∀ {rs:List Nat} {i:Nat},pickP ops pend rs=some i→i∈rs∧∃o,ops[i]?=some o∧quietKind o=true∧noSel o=true∧selfD ops o=true∧freshD ops pend o=true∧lookConf ops pend o=true
 |r::rs,i,h=>by
   unfold pickP at h;split at h
   ·obtain⟨h1,h2⟩:=pickP_spec h
    exact⟨List.mem_cons_of_mem _ h1,h2⟩
   ·rename_i o ho
    split at h
    ·rename_i hc
     cases h;simp only[Bool.and_eq_true] at hc;exact⟨List.mem_cons_self,o,ho,hc.1,hc.2.1,hc.2.2.1,hc.2.2.2.1,hc.2.2.2.2⟩
    ·obtain⟨h1,h2⟩:=pickP_spec h
     exact⟨List.mem_cons_of_mem _ h1,h2⟩
def pureK (ops:Array Oper) (k:Nat):Bool:=match ops[k]? with
 |some o=>!(isLd o)&&(match o.op with|.slice _ _ _ _ _=>false|_=>true)
 |none=>false
def zeroIs (P:Program) (t:TypeId):Bool:=match P.info? t with
 |some i=>match i.zero with
   |some z=>AFb 10 z
   |none=>false
 |none=>false
def allocOk (P:Program) (ops:Array Oper) (a:Nat):Bool:=match ops[a]? with
 |some o=>match o.op,o.dst,o.guard with
   |.alloc t,some d,none=>zeroIs P t&&(List.range ops.size).all fun j=>Nat.beq j a || (match ops[j]? with
     |some oj=>(bindsOn oj a || !((oj.looksAt ops).contains d))&&oj.dst != some d
     |none=>false)
   |_,_,_=>false
 |none=>false
def afterBoth (ops:Array Oper) (a r:Nat):Bool:=(List.range ops.size).all fun j=>match ops[j]? with
 |some oj=>!(bindsOn oj a) || bindsOn oj r
 |none=>false
def effOf (P:Program) (ops:Array Oper) (l:List Nat):Option (Nat×Option Nat):=match l with
 | [r]=>some (r,none)
 | [x,y]=>match Nat.beq x y with
   |true=>none
   |false=>match allocOk P ops x&&afterBoth ops x y with
     |true=>some (y,some x)
     |false=>match allocOk P ops y&&afterBoth ops y x with
       |true=>some (x,some y)
       |false=>none
 |_=>none
section ev
variable (P:Program) (G:Gl) (ev:EvF)
noncomputable def goodB (ops:Array Oper) (e:Env) (w:TW) (k:Nat):Bool:=match ops[k]? with
 |none=>false
 |some o=>match noSel o&&(e.fits o.dst) with
   |false=>false
   |true=>match wantedE ops e o with
     |some true=>match quietT P G w e o with
       |some v=>match o.dst with|some d=>optVeq (some v) (look e.l d)|none=>true
       |none=>false
     |some false=>match o.dst with|some d=>optVeq (some undef) (look e.l d)|none=>true
     |none=>false
noncomputable def evalP (ops:Array Oper):Nat→Array Bool→List Nat→Env→TW→Option (Env×TW)
 | 0,listed,_,e,w=>if (Region.ready .any ops listed).isEmpty then some (e,w) else none
 |n+1,listed,pend,e,w=>match Region.ready .any ops listed with
   | []=>some (e,w)
   |r::rs=>match pickP ops pend (r::rs) with
     |some i=>match ops[i]? with
       |none=>none
       |some o=>match e.fits o.dst,wantedE ops e o with
         |true,some true=>match quietT P G w e o with
           |some v=>forceV 20 v fun v=>forceB (listed.setIfInBounds i true) fun l'=>putK e o.dst v fun e'=>evalP ops n l' (i::pend) e' w
           |none=>none
         |true,some false=>forceB (listed.setIfInBounds i true) fun l'=>putK e o.dst undef fun e'=>evalP ops n l' (i::pend) e' w
         |_,_=>none
     |none=>match effOf P ops (r::rs) with
       |some (r,_)=>match ops[r]? with
         |none=>none
         |some o=>match lookConf ops pend o&&(freshD ops (pend.filter fun k=>!(bindsOn o k)) o&&e.fits o.dst) with
           |false=>none
           |true=>match (match wantedE ops e o with|some true=>stepV P G (specT P) ev o e w|some false=>some (undef,w)|none=>none) with
             |some (v,w')=>forceB (listed.setIfInBounds r true) fun l'=>putK e o.dst v fun e'=>spine (pend.filter fun k=>!(bindsOn o k)) fun pend'=>match (pend'.filter fun k=>!(pureK ops k)).all (goodB P G ops e' w') with
               |true=>evalP ops n l' pend' e' w'
               |false=>none
             |none=>none
       |none=>match (r::rs).all (fun j=>match ops[j]? with|some oj=>!(allocOk P ops j)&&pend.all (bindsOn oj)|none=>false) with
         |true=>evalAnyT P G (specT P) ev ops (n+1) listed e w
         |false=>none
inductive Pl where
 |done
 |bad
 |q (o:Oper) (k:Pl)
 |eff (o:Oper) (chk:List Nat) (k:Pl)
 |any (n:Nat) (listed:Array Bool)
def planP (P:Program) (ops:Array Oper):Nat→Array Bool→List Nat→Pl
 | 0,listed,_=>if (Region.ready .any ops listed).isEmpty then .done else .bad
 |n+1,listed,pend=>match Region.ready .any ops listed with
   | []=>.done
   |r::rs=>match pickP ops pend (r::rs) with
     |some i=>match ops[i]? with
       |none=>.bad
       |some o=>forceB (listed.setIfInBounds i true) fun l'=>.q o (planP P ops n l' (i::pend))
     |none=>match effOf P ops (r::rs) with
       |some (r,_)=>match ops[r]? with
         |none=>.bad
         |some o=>match lookConf ops pend o&&freshD ops (pend.filter fun k=>!(bindsOn o k)) o with
           |false=>.bad
           |true=>forceB (listed.setIfInBounds r true) fun l'=>spine (pend.filter fun k=>!(bindsOn o k)) fun pend'=>spine (pend'.filter fun k=>!(pureK ops k)) fun chk=>.eff o chk (planP P ops n l' pend')
       |none=>match (r::rs).all (fun j=>match ops[j]? with|some oj=>!(allocOk P ops j)&&pend.all (bindsOn oj)|none=>false) with
         |true=>.any (n+1) listed
         |false=>.bad
noncomputable def runP (ops:Array Oper) (p:Pl):Env→TW→Option (Env×TW):=
 Pl.rec (motive:=fun _=>Env→TW→Option (Env×TW)) (fun e w=>some (e,w)) (fun _ _=>none)
  (fun o _ ih e w=>match e.fits o.dst,wantedE ops e o with
   |true,some true=>match quietT P G w e o with
     |some v=>putK e o.dst v fun e'=>ih e' w
     |none=>none
   |true,some false=>putK e o.dst undef fun e'=>ih e' w
   |_,_=>none)
  (fun o chk _ ih e w=>match e.fits o.dst with
   |false=>none
   |true=>match (match wantedE ops e o with|some true=>stepV P G (specT P) ev o e w|some false=>some (undef,w)|none=>none) with
     |some (v,w')=>putK e o.dst v fun e'=>match chk.all (goodB P G ops e' w') with
       |true=>ih e' w'
       |false=>none
     |none=>none)
  (fun n listed e w=>evalAnyT P G (specT P) ev ops n listed e w) p
theorem runP_eq (ops:Array Oper):∀(n:Nat) (listed:Array Bool) (pend:List Nat) (e:Env) (w:TW),runP P G ev ops (planP P ops n listed pend) e w=evalP P G ev ops n listed pend e w
 | 0,listed,pend,e,w=>by
   unfold planP evalP
   split<;>rfl
 |n+1,listed,pend,e,w=>by
   unfold planP evalP
   cases Region.ready .any ops listed with
   |nil=>rfl
   |cons r rs=>
     dsimp only
     cases pickP ops pend (r::rs) with
     |some i=>
       dsimp only
       cases ops[i]? with
       |none=>rfl
       |some o=>
         dsimp only;rw[forceB_eq]
         show (match e.fits o.dst,wantedE ops e o with
          |true,some true=>match quietT P G w e o with
            |some v=>putK e o.dst v fun e'=>runP P G ev ops (planP P ops n (listed.setIfInBounds i true) (i::pend)) e' w
            |none=>none
          |true,some false=>putK e o.dst undef fun e'=>runP P G ev ops (planP P ops n (listed.setIfInBounds i true) (i::pend)) e' w
          |_,_=>none)=_
         simp only[runP_eq ops n,forceB_eq,forceV_eq]
     |none=>
       dsimp only
       cases effOf P ops (r::rs) with
       |some x=>
         obtain⟨r,al⟩:=x;dsimp only
         cases ops[r]? with
         |none=>rfl
         |some o=>
           dsimp only
           cases h1:lookConf ops pend o with
           |false=>rfl
           |true=>
           cases h2:freshD ops (pend.filter fun k=>!(bindsOn o k)) o with
           |false=>rfl
           |true=>
           simp only[Bool.true_and,forceB_eq,spine_eq]
           show (match e.fits o.dst with
            |false=>none
            |true=>match (match wantedE ops e o with|some true=>stepV P G (specT P) ev o e w|some false=>some (undef,w)|none=>none) with
              |some (v,w')=>putK e o.dst v fun e'=>match ((pend.filter fun k=>!(bindsOn o k)).filter fun k=>!(pureK ops k)).all (goodB P G ops e' w') with
                |true=>runP P G ev ops (planP P ops n (listed.setIfInBounds r true) (pend.filter fun k=>!(bindsOn o k))) e' w'
                |false=>none
              |none=>none)=_
           simp only[runP_eq ops n]
       |none=>
         dsimp only
         split<;>rfl
noncomputable def evalDrawnP:DrawnT:=fun ops e w=>if Region.noSelect ops then match runP P G ev ops (planP P ops ops.size (Array.replicate ops.size false) []) e w with
 |some r=>some r
 |none=>evalAnyT P G (specT P) ev ops ops.size (Array.replicate ops.size false) e w else none
end ev
def dstsOf (ops:Array Oper) (rem:List Nat):List Nat:=rem.filterMap fun k=>(ops[k]?).bind (·.dst)
theorem mem_dsts {ops:Array Oper} {rem:List Nat} {t:Nat}:t∈dstsOf ops rem↔∃k∈rem,∃o,ops[k]?=some o∧o.dst=some t:=by
 unfold dstsOf;rw[List.mem_filterMap];constructor
 ·rintro ⟨k,hk,h⟩
  cases ho:ops[k]? with
  |none=>rw[ho] at h;cases h
  |some o=>rw[ho] at h;exact⟨k,hk,o,ho,h⟩
 ·rintro ⟨k,hk,o,ho,h⟩
  exact⟨k,hk,by rw[ho];exact h⟩
structure EnvD (τ:Rel) (e:Env) (a':Act) (D:List Nat):Prop where
 tmps:∀t v,look e.l t=some v→t∉D→VR τ v (a'.tmps.getD t undef)
 size:a'.tmps.size=e.n
 d':a'.defers=[]
theorem EnvD.of {τ:Rel} {e:Env} {a':Act} (h:EnvR τ e a') (D:List Nat):EnvD τ e a' D:=⟨fun t v hv _=>h.tmps t v hv,h.size,h.d'⟩
theorem EnvD.all {τ:Rel} {e:Env} {a':Act} (h:EnvD τ e a' []):EnvR τ e a':=⟨fun t v hv=>h.tmps t v hv (by simp),h.size,h.d'⟩
theorem EnvD.mono {τ τ':Rel} (hl:τ.le τ') {e:Env} {a':Act} {D:List Nat} (h:EnvD τ e a' D):EnvD τ' e a' D:=⟨fun t v hv hd=>(h.tmps t v hv hd).mono hl,h.size,h.d'⟩
theorem look_put {e:Env} {d:Nat} {v:Value} (t:Nat):look (e.put (some d) v).l t=if d=t then some v else look e.l t:=by
 show (match Nat.beq d t with|true=>some v|false=>look e.l t)=_
 by_cases h:d=t
 ·subst h;rw[Nat.beq_refl,if_pos rfl]
 ·have hb:Nat.beq d t=false:=by
   cases hq:Nat.beq d t with
   |false=>rfl
   |true=>exact absurd (Nat.eq_of_beq_eq_true hq) h
  rw[hb,if_neg h]
theorem act_put {a':Act} {d:Nat} {v:Value} (t:Nat) (hd:d<a'.tmps.size):(a'.put (some d) v).tmps.getD t undef=if d=t then v else a'.tmps.getD t undef:=by
 simp only[Act.put,Array.getD_eq_getD_getElem?]
 by_cases h:d=t
 ·subst h;rw[Array.getElem?_setIfInBounds_self,if_pos hd,if_pos rfl];rfl
 ·rw[Array.getElem?_setIfInBounds_ne h,if_neg h]
theorem fits_lt {e:Env} {d:Nat} (h:e.fits (some d)=true):d<e.n:=by simpa[Env.fits,Nat.blt_eq] using h
theorem EnvD.put {τ:Rel} {e:Env} {a':Act} {D:List Nat} (x:EnvD τ e a' D) (d:Option Tmp) (hd:e.fits d=true) {v v':Value} (hv:VR τ v v'):EnvD τ (e.put d v) (a'.put d v') D:=by
 cases d with
 |none=>exact x
 |some d=>
   have hlt:=fits_lt hd;refine⟨fun t u hu ht=>?_,by simp[Act.put,Env.put,x.size],x.d'⟩;rw[look_put] at hu;rw[act_put t (by rw[x.size];exact hlt)]
   by_cases e1:d=t
   ·rw[if_pos e1] at hu;cases hu;rw[if_pos e1];exact hv
   ·rw[if_neg e1] at hu;rw[if_neg e1];exact x.tmps t u hu ht
theorem EnvD.catch {τ:Rel} {e:Env} {a':Act} {D D':List Nat} (x:EnvD τ e a' D) (d:Option Tmp) (hd:e.fits d=true) {v v':Value} (hv:VR τ v v') (hl:∀t,d=some t→look e.l t=some v) (hD:∀t,t∈D→t∉D'→d=some t):EnvD τ e (a'.put d v') D':=by
 cases d with
 |none=>exact⟨fun t u hu ht=>x.tmps t u hu (fun h=>by cases hD t h ht),x.size,x.d'⟩
 |some d=>
   have hlt:=fits_lt hd;refine⟨fun t u hu ht=>?_,by simp[Act.put,x.size],x.d'⟩;rw[act_put t (by rw[x.size];exact hlt)]
   by_cases e1:d=t
   ·subst e1
    rw[hl d rfl] at hu;cases hu;rw[if_pos rfl];exact hv
   ·rw[if_neg e1]
    exact x.tmps t u hu (fun h=>e1 (Option.some.inj (hD t h ht)))
theorem EnvD.ahead {τ:Rel} {e:Env} {a':Act} {D D':List Nat} (x:EnvD τ e a' D) (d:Option Tmp) (v:Value) (h1:∀t,d=some t→t∈D') (h2:∀t,t∈D→t∈D'):EnvD τ (e.put d v) a' D':=by
 cases d with
 |none=>exact⟨fun t u hu ht=>x.tmps t u hu (fun h=>ht (h2 t h)),x.size,x.d'⟩
 |some d=>
   refine⟨fun t u hu ht=>?_,x.size,x.d'⟩;rw[look_put] at hu
   by_cases e1:d=t
   ·subst e1;exact absurd (h1 d rfl) ht
   ·rw[if_neg e1] at hu;exact x.tmps t u hu (fun h=>ht (h2 t h))
theorem EnvD.eval {G:Gl} {τ:Rel} {e:Env} {a':Act} {D:List Nat} {ops:Array Oper} {o:Oper} (x:EnvD τ e a' D) (hg:∀g:Nat,g<G.n→τ g g none) (hD:∀t∈o.looksAt ops,t∉D):∀y∈o.op.operands,e.ok G y=true→VR τ (e.eval y) (a'.eval y):=by
 intro y hm hy
 cases y with
 |tmp t=>
   simp only[Env.ok] at hy;show VR τ (match look e.l t with|some v=>v|none=>undef) (a'.tmps.getD t undef)
   cases h:look e.l t with
   |none=>rw[h] at hy;cases hy
   |some v=>exact x.tmps t v h (hD t (List.mem_append_left _ (List.mem_filterMap.2 ⟨.tmp t,by simpa using hm,rfl⟩)))
 |const v=>exact AFb.vr _ _ hy
 |global g=>exact .ptr g g 0 none (hg g (by simpa[Env.ok] using hy))
 |func f=>exact .func _ _ _ _ _ (fun l h=>by cases h) rfl rfl (fun i v v' h=>by simp at h) (fun i v v' h=>by simp at h)
theorem wantedE_spec2 {τ:Rel} {ops:Array Oper} {e:Env} {a':Act} {D:List Nat} {o:Oper} {q:Bool} (h:wantedE ops e o=some q) (ha:EnvD τ e a' D) (hD:∀t∈o.looksAt ops,t∉D):Region.wanted o (yielded ops a'.tmps)=q:=by
 unfold wantedE at h;unfold Region.wanted
 cases hg:o.guard with
 |none=>rw[hg] at h;cases h;rfl
 |some x=>
   obtain⟨j,want⟩:=x;rw[hg] at h;dsimp only at h ⊢;unfold yielded
   cases hd:((ops[j]?).bind (·.dst)) with
   |none=>rw[hd] at h;cases h;rfl
   |some d=>
     rw[hd] at h;simp only[Option.bind_some];dsimp only at h
     have hdl:d∈o.looksAt ops:=by
      unfold Oper.looksAt;rw[hg];dsimp only;rw[hd];simp
     cases hl:look e.l d with
     |none=>rw[hl] at h;cases h
     |some v=>
       rw[hl] at h;have hv:=ha.tmps d v hl (hD d hdl);rw[Array.getD_eq_getD_getElem?] at hv
       cases hx:a'.tmps[d]? with
       |none=>
         rw[hx] at hv;simp only[Option.getD_none] at hv
         cases v<;>first|(cases h;done)|(cases h;rfl)|(cases hv)
       |some u=>
         rw[hx] at hv;simp only[Option.getD_some] at hv
         cases hv<;>first|(cases h;done)|(cases h;rfl)|(cases h;cases want<;>rename_i b<;>cases b<;>rfl)
theorem wantedE_congr {ops:Array Oper} {e:Env} {d:Option Tmp} {v:Value} {o:Oper} (h:∀t,d=some t→t∉o.looksAt ops):wantedE ops (e.put d v) o=wantedE ops e o:=by
 cases d with
 |none=>rfl
 |some d=>
   unfold wantedE
   cases hg:o.guard with
   |none=>rfl
   |some x=>
     obtain⟨j,want⟩:=x;dsimp only
     cases hd:((ops[j]?).bind (·.dst)) with
     |none=>rfl
     |some t=>
       dsimp only
       have ht:t∈o.looksAt ops:=by
        unfold Oper.looksAt;rw[hg];dsimp only;rw[hd];simp
       have hne:d≠t:=fun x=>h d rfl (x ▸ ht);rw[look_put,if_neg hne]
theorem eval_put {G:Gl} {ops:Array Oper} {e:Env} {d:Option Tmp} {v:Value} {o:Oper} (h:∀t,d=some t→t∉o.looksAt ops):∀x∈o.op.operands,(e.put d v).eval x=e.eval x∧(e.put d v).ok G x=e.ok G x:=by
 intro x hx
 cases d with
 |none=>exact⟨rfl,rfl⟩
 |some d=>
   cases x with
   |tmp t=>
     have ht:t∈o.looksAt ops:=List.mem_append_left _ (List.mem_filterMap.2 ⟨.tmp t,by simpa using hx,rfl⟩);have hne:d≠t:=fun e=>h d rfl (e ▸ ht);constructor
     ·show (match look (e.put (some d) v).l t with|some v=>v|none=>undef)=(match look e.l t with|some v=>v|none=>undef)
      rw[look_put,if_neg hne]
     ·show (look (e.put (some d) v).l t).isSome=(look e.l t).isSome
      rw[look_put,if_neg hne]
   |_=>exact⟨rfl,rfl⟩
section sound
variable {P:Program} {G:Gl}
def Good (P:Program) (G:Gl) (ops:Array Oper) (e:Env) (w:TW) (k:Nat):Prop:=∃o v,ops[k]?=some o∧noSel o=true∧e.fits o.dst=true∧((wantedE ops e o=some true∧quietT P G w e o=some v)∨(wantedE ops e o=some false∧v=undef))∧(∀d,o.dst=some d→look e.l d=some v)
theorem optVeq_look {v:Value} {x:Option Value} (h:optVeq (some v) x=true):x=some v:=by
 cases x with
 |none=>cases h
 |some u=>rw[veq_eq _ _ _ h]
theorem goodB_spec {ops:Array Oper} {e:Env} {w:TW} {k:Nat} (h:goodB P G ops e w k=true):Good P G ops e w k:=by
 unfold goodB at h
 split at h<;>first|(cases h;done)|skip
 rename_i o ho
 split at h<;>first|(cases h;done)|skip
 rename_i hc;rw[Bool.and_eq_true] at hc;split at h
 ·rename_i hw
  split at h<;>first|(cases h;done)|skip
  rename_i v hq;refine⟨o,v,ho,hc.1,hc.2,.inl ⟨hw,hq⟩,fun d hd=>?_⟩;rw[hd] at h;exact optVeq_look h
 ·rename_i hw
  refine⟨o,undef,ho,hc.1,hc.2,.inr ⟨hw,rfl⟩,fun d hd=>?_⟩;rw[hd] at h;exact optVeq_look h
 ·cases h
theorem Good.put {ops:Array Oper} {e:Env} {w:TW} {k:Nat} (h:Good P G ops e w k) {d:Option Tmp} {v:Value} (hd:∀o,ops[k]?=some o→∀t,d=some t→t∉o.looksAt ops∧o.dst≠some t):Good P G ops (e.put d v) w k:=by
 obtain⟨o,u,ho,hs,hf,hq,hl⟩:=h;have h1:∀t,d=some t→t∉o.looksAt ops:=fun t ht=>(hd o ho t ht).1;refine⟨o,u,ho,hs,?_,?_,fun t ht=>?_⟩
 ·cases d<;>exact hf
 ·rw[wantedE_congr h1,quietT_congr hs (eval_put h1)];exact hq
 ·cases d with
  |none=>exact hl t ht
  |some d=>
    have hne:d≠t:=fun x=>(hd o ho d rfl).2 (x ▸ ht);rw[look_put,if_neg hne];exact hl t ht
def Ord (ops:Array Oper) (listed:Array Bool):List Nat→Prop
 | []=>True
 |x::p=>(∀o,ops[x]?=some o→∀ed∈o.after,Region.binds .any ed=true→listed.getD ed.on false=true∧ed.on≠x)∧(∀y∈p,∀o,ops[y]?=some o→bindsOn o x=false)∧Ord ops listed p
structure PI (P:Program) (G:Gl) (ops:Array Oper) (listed:Array Bool) (pend:List Nat) (e:Env) (w:TW):Prop where
 good:∀k∈pend,Good P G ops e w k
 lk:∀k∈pend,listed.getD k false=true
 ord:Ord ops listed pend
 conf:∀k∈pend,∀m∈pend,∀ok om,ops[k]?=some ok→ops[m]?=some om→bindsOn ok m=true∨∀d,om.dst=some d→d∉ok.looksAt ops
 dis:∀k∈pend,∀m∈pend,k≠m→∀ok om,ops[k]?=some ok→ops[m]?=some om→∀d,om.dst=some d→ok.dst≠some d
structure Rl (listed:Array Bool) (rem:List Nat) (listed':Array Bool):Prop where
 size:listed'.size=listed.size
 get:∀j d,listed'.getD j d=if j∈rem then false else listed.getD j d
theorem lt_of_getD {a:Array Bool} {k:Nat} (h:a.getD k false=true):k<a.size:=by
 rcases Nat.lt_or_ge k a.size with h'|h'
 ·exact h'
 ·simp[Array.getElem?_eq_none h'] at h
theorem lt_of_getD' {a:Array Bool} {k:Nat} (h:a.getD k true=false):k<a.size:=by
 rcases Nat.lt_or_ge k a.size with h'|h'
 ·exact h'
 ·simp[Array.getElem?_eq_none h'] at h
theorem getD_in {a:Array Bool} {k:Nat} (h:k<a.size) (d d':Bool):a.getD k d=a.getD k d':=by simp[h]
theorem getD_set {a:Array Bool} {k:Nat} (h:k<a.size) (j:Nat) (d:Bool):(a.setIfInBounds k true).getD j d=if j=k then true else a.getD j d:=by
 by_cases e:j=k
 ·subst e;simp[h]
 ·rw[if_neg e,getD_set_ne d (fun x=>e x.symm)]
theorem Rl.nil {listed listed':Array Bool} (h:Rl listed [] listed'):listed'=listed:=by
 refine Array.ext h.size fun i h1 h2=>?_;have:=h.get i false;simpa[h1,h2] using this
theorem Rl.catch {listed listed':Array Bool} {rem:List Nat} (h:Rl listed rem listed') (hnd:rem.Nodup) {j:Nat} (hj:listed.getD j false=true):Rl listed (rem.erase j) (listed'.setIfInBounds j true):=by
 have hlt:j<listed'.size:=by rw[h.size];exact lt_of_getD hj
 refine⟨by simpa using h.size,fun i d=>?_⟩;rw[getD_set hlt]
 by_cases e:i=j
 ·subst e
  rw[if_pos rfl,if_neg (fun x=>by rw[List.Nodup.mem_erase_iff hnd] at x;exact x.1 rfl)];rw[getD_in (lt_of_getD hj) d false,hj]
 ·rw[if_neg e,h.get i d]
  have:i∈rem.erase j↔i∈rem:=List.mem_erase_of_ne e;simp only[this]
theorem Rl.ahead {listed listed':Array Bool} {rem:List Nat} (h:Rl listed rem listed') {i:Nat} (hi:listed.getD i true=false):Rl (listed.setIfInBounds i true) (i::rem) listed':=by
 have hlt:=lt_of_getD' hi;refine⟨by simpa using h.size,fun j d=>?_⟩;rw[h.get j d,getD_set hlt]
 by_cases e:j=i
 ·subst e
  rw[if_pos (List.mem_cons_self)]
  by_cases hr:j∈rem
  ·rw[if_pos hr]
  ·rw[if_neg hr,getD_in hlt d true,hi]
 ·have:j∈i::rem↔j∈rem:=by simp[e]
  simp only[this,if_neg e]
theorem Rl.both {listed listed':Array Bool} {rem:List Nat} (h:Rl listed rem listed') {i:Nat} (hi:listed.getD i true=false) (hr:i∉rem):Rl (listed.setIfInBounds i true) rem (listed'.setIfInBounds i true):=by
 have hlt:=lt_of_getD' hi;refine⟨by simpa using h.size,fun j d=>?_⟩;rw[getD_set hlt,getD_set (by rw[h.size];exact hlt),h.get j d]
 by_cases e:j=i
 ·subst e;rw[if_pos rfl,if_pos rfl,if_neg hr]
 ·rw[if_neg e,if_neg e]
theorem ready_sub {ops:Array Oper} {listed listed':Array Bool} {rem:List Nat} (h:Rl listed rem listed') {j:Nat} (hj:j∈Region.ready .any ops listed') (hr:j∉rem):j∈Region.ready .any ops listed:=by
 rw[mem_ready] at *;obtain⟨h0,o,ho,hall⟩:=hj;refine⟨by rw[h.get,if_neg hr] at h0;exact h0,o,ho,fun ed hed hb=>?_⟩;have:=hall ed hed hb;rw[h.get] at this;split at this
 ·cases this
 ·exact this
theorem no_rem {ops:Array Oper} {listed listed':Array Bool} {rem:List Nat} (h:Rl listed rem listed') {j:Nat} {o:Oper} (ho:ops[j]?=some o) (hj:j∈Region.ready .any ops listed') {k:Nat} (hk:k∈rem):bindsOn o k=false:=by
 cases hb:bindsOn o k with
 |false=>rfl
 |true=>
   obtain⟨ed,h1,h2,h3⟩:=bindsOn_spec hb;obtain⟨_,o2,ho2,hall⟩:=mem_ready.1 hj;rw[ho] at ho2;cases ho2;have:=hall ed h1 h2;rw[h3,h.get,if_pos hk] at this;cases this
theorem oldest {ops:Array Oper} {listed:Array Bool} {rem:List Nat}:∀(pend:List Nat),Ord ops listed pend→(∃x∈pend,x∈rem) →
 ∃x∈pend,x∈rem∧∀o,ops[x]?=some o→∀ed∈o.after,Region.binds .any ed=true→listed.getD ed.on false=true∧(ed.on∈pend→ed.on∉rem)
 | [],_,h=>by obtain⟨x,hx,_⟩:=h;cases hx
 |x::p,⟨h1,h2,h3⟩,h=>by
   by_cases hp:∃y∈p,y∈rem
   ·obtain⟨y,hy,hyr,hyo⟩:=oldest p h3 hp
    refine⟨y,List.mem_cons_of_mem _ hy,hyr,fun o ho ed hed hb=>⟨(hyo o ho ed hed hb).1,fun hm=>?_⟩⟩;rcases List.mem_cons.1 hm with e|hm
    ·have:=h2 y hy o ho
     rw[bindsOn_of hed hb e] at this;cases this
    ·exact(hyo o ho ed hed hb).2 hm
   ·have hx:x∈rem:=by
     obtain⟨y,hy,hyr⟩:=h;rcases List.mem_cons.1 hy with rfl|hy
     ·exact hyr
     ·exact absurd ⟨y,hy,hyr⟩ hp
    refine⟨x,List.mem_cons_self,hx,fun o ho ed hed hb=>⟨(h1 o ho ed hed hb).1,fun hm hr=>?_⟩⟩;rcases List.mem_cons.1 hm with e|hm
    ·exact(h1 o ho ed hed hb).2 e
    ·exact hp ⟨_,hm,hr⟩
theorem ready_ne {ops:Array Oper} {listed listed':Array Bool} {pend rem:List Nat} {e:Env} {w:TW} (hI:PI P G ops listed pend e w) (hsub:∀k∈rem,k∈pend) (h:Rl listed rem listed') (hne:rem≠[]):Region.ready .any ops listed'≠[]:=by
 obtain⟨k,hk⟩:=List.exists_mem_of_ne_nil rem hne;obtain⟨x,hx,hxr,hxo⟩:=oldest (rem:=rem) pend hI.ord ⟨k,hsub k hk,hk⟩;obtain⟨o,v,ho,_⟩:=hI.good x hx;intro h0
 have:x∈Region.ready .any ops listed':=by
  rw[mem_ready];refine⟨by rw[h.get,if_pos hxr],o,ho,fun ed hed hb=>?_⟩;obtain⟨q1,q2⟩:=hxo o ho ed hed hb;rw[h.get,if_neg (fun hr=>q2 (hsub _ hr) hr)];exact q1
 rw[h0] at this;cases this
theorem catchOne {ops:Array Oper} {listed listed':Array Bool} {pend rem:List Nat} {e:Env} {w:TW} {B:FM} {w0:World} {τ:Rel} {a':Act} {wr:World} {Q:Exit→Act→World→Prop} {D0:List Nat} (hI:PI P G ops listed pend e w) (hsub:∀k∈rem,k∈pend) (hnd:rem.Nodup) (h:Rl listed rem listed')
 (hD0:∀k∈pend,∀o,ops[k]?=some o→∀d∈D0,d∉o.looksAt ops∧o.dst≠some d)
 (ha:EnvD τ e a' (D0++dstsOf ops rem)) (hw:WT G B w0 τ w wr) {j:Nat} (hj:j∈Region.ready .any ops listed') (hjr:j∈rem) {K:Act→World→Prop}
 (hK:∀ τ1 a1 wr1,τ.le τ1→(∀d∈D0,a1.tmps.getD d undef=a'.tmps.getD d undef)→EnvD τ1 e a1 (D0++dstsOf ops (rem.erase j))→WT G B w0 τ1 w wr1→K a1 wr1):wpOp P ops Q j K a' wr:=by
 obtain⟨o,v,ho,hs,hf,hq,hl⟩:=hI.good j (hsub j hjr)
 have hD:∀t∈o.looksAt ops,t∉D0++dstsOf ops rem:=by
  intro t ht hd;rcases List.mem_append.1 hd with hd|hd
  ·exact(hD0 j (hsub j hjr) o ho t hd).1 ht
  ·obtain⟨m,hm,om,hom,hdm⟩:=mem_dsts.1 hd
   rcases hI.conf j (hsub j hjr) m (hsub m hm) o om ho hom with hb|hb
   ·rw[no_rem h ho hj hm] at hb;cases hb
   ·exact hb t hdm ht
 have hDD:∀t,t∈D0++dstsOf ops rem→t∉D0++dstsOf ops (rem.erase j)→o.dst=some t:=by
  intro t h1 h2;rcases List.mem_append.1 h1 with h1|h1
  ·exact absurd (List.mem_append_left _ h1) h2
  ·obtain⟨m,hm,om,hom,hdm⟩:=mem_dsts.1 h1
   by_cases e:m=j
   ·subst e;rw[ho] at hom;cases hom;exact hdm
   ·exact absurd (List.mem_append_right _ (mem_dsts.2 ⟨m,(List.mem_erase_of_ne e).2 hm,om,hom,hdm⟩)) h2
 have hkeep:∀v',∀d∈D0,(a'.put o.dst v').tmps.getD d undef=a'.tmps.getD d undef:=by
  intro v' d hd;have hne:=(hD0 j (hsub j hjr) o ho d hd).2
  cases ho2:o.dst with
  |none=>rfl
  |some x=>
    have:x≠d:=fun e=>hne (by rw[ho2,e]);simp only[Act.put,Array.getD_eq_getD_getElem?];rw[Array.getElem?_setIfInBounds_ne this]
 unfold wpOp;rw[ho];dsimp only;rcases hq with⟨hwt,hqq⟩|⟨hwt,rfl⟩
 ·rw[if_pos (wantedE_spec2 hwt ha hD)]
  refine .inl ?_;unfold Oper.wp;obtain⟨τ1,v',wr1,l1,r1,r2,r3⟩:=quietT_spec (ρ':=a'.eval) (ha.eval hw.glob hD) hw hqq;rw[r1];exact hK τ1 _ _ l1 (hkeep v') ((ha.mono l1).catch o.dst hf r2 hl hDD) r3
 ·rw[if_neg (by rw[wantedE_spec2 hwt ha hD];simp)]
  exact hK τ _ _ (Rel.le.refl _) (hkeep _) (ha.catch o.dst hf (undef_vr _) hl hDD) hw
end sound
end Go.Ev
