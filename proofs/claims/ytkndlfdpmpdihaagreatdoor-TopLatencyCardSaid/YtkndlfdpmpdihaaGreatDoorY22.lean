/- The run on the small world as a tree: regions, code. The run on the small world as a tree: functions. The run on the small world as a tree: regions that draw their order. Operations that write nothing; that an operation asks of its temporaries no more than its operands. Conditions: those that each statement shows. -/
import Derived.Test.YtkndlfdpmpdihaaGreatDoorY08
namespace Go.Ev
open Go.RowKit
set_option linter.unusedVariables false
set_option linter.unusedSimpArgs false
theorem WT.glob {G:Gl} {B:FM} {w0:World} {τ:Rel} {wa:TW} {wr:World} (h:WT G B w0 τ wa wr):∀g:Nat,g<G.n→τ g g none:=by
 obtain⟨H,_,h⟩:=h;exact h.glob
abbrev EvF:=FuncId→Array Value→TW→Option (Value×TW)
section ev
variable (P:Program) (G:Gl) (sp:SpecT) (ev:EvF)
noncomputable def stepBT (o:Oper) (e:Env) (w:TW):Option (Env×TW):=
 match e.fits o.dst with
 |false=>none
 |true=>match evalOpT P sp (e.ok G) e.eval o w with
   |some (.value v,w')=>forceV 20 v fun v=>putK e o.dst v fun e'=>some (e',w')
   |some (.skip,w')=>putK e o.dst undef fun e'=>some (e',w')
   |some (.enter f args,w')=>forceArr args fun args=>match ev f args w' with
     |some (v,w'')=>forceV 20 v fun v=>putK e o.dst v fun e'=>some (e',w'')
     |none=>none
   |_=>none
abbrev DrawnT:=Array Oper→Env→TW→Option (Env×TW)
end ev
section sound
variable {P:Program} {G:Gl} {sp:SpecT} {ev:EvF}
def EvOkT (P:Program) (G:Gl) (ev:EvF):Prop:=∀f args wa v wa2,ev f args wa=some (v,wa2)→∀B w0 τ args' wr,AR τ args args'→WT G B w0 τ wa wr →
 Calls P f args' wr fun e wr'=>∃ τ' v',e=.returned v'∧τ.le τ'∧VR τ' v v'∧WT G B w0 τ' wa2 wr'
theorem stepBT_sound (hsp:SpecOkT P G sp) (hev:EvOkT P G ev) {o:Oper} {a a2:Env} {wa wa2:TW} (h:stepBT P G sp ev o a wa=some (a2,wa2)) {B:FM} {w0:World} {τ:Rel} {a':Act} {wr:World} (ha:EnvR τ a a') (hw:WT G B w0 τ wa wr)
 {K:Act→World→Prop} {Q:Exit→Act→World→Prop} (hK:∀ τ' a2' wr',τ.le τ'→EnvR τ' a2 a2'→WT G B w0 τ' wa2 wr'→K a2' wr'):o.wp P a' wr K Q:=by
 unfold stepBT at h;unfold Oper.wp;split at h
 ·cases h
 rename_i hfit;have hρ:∀x,a.ok G x=true→VR τ (a.eval x) (a'.eval x):=fun x hx=>ha.eval hw.glob x hx;split at h
 ·rename_i v w' he
  simp only[forceV_eq,putK_eq,Option.some.injEq,Prod.mk.injEq] at h;obtain⟨rfl,rfl⟩:=h;obtain⟨τ',n',wr',h1,h2,h3,h4⟩:=evalOpT_sound hsp hρ hw he;rw[h2]
  cases h3 with
  |value v v' hv=>exact hK τ' _ _ h1 ((ha.mono h1).put o.dst hfit hv) h4
 ·rename_i w' he
  simp only[putK_eq,Option.some.injEq,Prod.mk.injEq] at h;obtain⟨rfl,rfl⟩:=h;obtain⟨τ',n',wr',h1,h2,h3,h4⟩:=evalOpT_sound hsp hρ hw he;rw[h2]
  cases h3 with
  |skip=>exact hK τ' _ _ h1 ((ha.mono h1).put o.dst hfit (undef_vr _)) h4
 ·rename_i f args w' he
  simp only[forceArr_eq] at h;split at h
  ·rename_i v w'' hc
   simp only[forceV_eq,putK_eq,Option.some.injEq,Prod.mk.injEq] at h;obtain⟨rfl,rfl⟩:=h;obtain⟨τ',n',wr',h1,h2,h3,h4⟩:=evalOpT_sound hsp hρ hw he;rw[h2]
   cases h3 with
   |enter f xs ys hx=>
     refine(hev _ _ _ _ _ hc B w0 τ' ys wr' hx h4).mono ?_;rintro e wr2 ⟨τ2,v',rfl,l2,hv,w2⟩;exact hK τ2 _ _ (h1.trans l2) ((ha.mono (h1.trans l2)).put o.dst hfit hv) w2
  ·cases h
 ·cases h
end sound
section sound
variable {P:Program} {G:Gl} {sp:SpecT} {ev:EvF}
end sound
noncomputable def teq (t:T):T→Bool:=
 T.rec (motive:=fun _=>T→Bool) (fun u=>match u with|.nil=>true|_=>false) (fun o u=>match u with|.leaf o'=>oeq o o'|_=>false)
  (fun _ _ fl fr u=>match u with|.br l r=>fl l&&fr r|_=>false) t
theorem teq_eq:∀(t u:T),teq t u=true→t=u
 |.nil,u,h=>by cases u<;>first|rfl|cases h
 |.leaf o,u,h=>by
   cases u with
   |leaf o'=>rw[oeq_eq o o' h]
   |_=>cases h
 |.br l r,u,h=>by
   cases u with
   |br l' r'=>
     have h:(teq l l'&&teq r r')=true:=h;rw[Bool.and_eq_true] at h;rw[teq_eq l l' h.1,teq_eq r r' h.2]
   |_=>cases h
noncomputable def sameBT (r s:Env×TW):Bool:=Nat.beq r.1.n s.1.n&&r.1.l.all (fun p=>optVeq (look r.1.l p.1) (look s.1.l p.1))&&(Nat.beq r.2.n s.2.n&&teq r.2.t s.2.t)
theorem sameBT_spec {r s:Env×TW} (h:sameBT r s=true) {τ:Rel} {a':Act} (ha:EnvR τ s.1 a'):EnvR τ r.1 a'∧r.2=s.2:=by
 simp only[sameBT,Bool.and_eq_true] at h;obtain⟨⟨h1,h2⟩,h3,h4⟩:=h;refine⟨⟨fun t v hv=>?_,ha.size.trans (Nat.eq_of_beq_eq_true h1).symm,ha.d'⟩,?_⟩
 ·obtain⟨p,hp,rfl⟩:=look_mem _ _ _ hv
  have hq:=List.all_eq_true.1 h2 p hp;rw[hv] at hq
  cases hs:look s.1.l p.1 with
  |none=>rw[hs] at hq;cases hq
  |some u=>
    rw[hs] at hq;have:=veq_eq _ _ _ hq;subst this;exact ha.tmps _ _ hs
 ·obtain⟨e1,t1,n1⟩:=r
  obtain⟨e2,t2,n2⟩:=s;have:=teq_eq _ _ h4;have:=Nat.eq_of_beq_eq_true h3;dsimp only at *
  subst_vars;rfl
theorem sameBT_heap {r s:Env×TW} (h:sameBT r s=true):r.2=s.2:=by
 simp only[sameBT,Bool.and_eq_true] at h;obtain⟨⟨h1,h2⟩,h3,h4⟩:=h;obtain⟨e1,t1,n1⟩:=r;obtain⟨e2,t2,n2⟩:=s;have:=teq_eq _ _ h4;have:=Nat.eq_of_beq_eq_true h3;dsimp only at *
 subst_vars;rfl
section ev
variable (P:Program) (G:Gl) (sp:SpecT) (ev:EvF)
noncomputable def stillOpT (w:TW) (e:Env) (o:Oper):Option Value:=
 if o.op.operands.toList.all (e.ok G) then
  match evalAF P e.eval o with
  |some v=>some v
  |none=>
    if kindOk P e.eval o&&cutT w e.eval o then
     match still P (execC o.op o.type e.eval) with
     |some (.value v)=>some v
     |_=>none
    else none
 else none
noncomputable def takeOneT (ops:Array Oper) (listed:Array Bool) (e:Env) (w:TW):List Nat→Option (Nat×Oper×Value)
 | []=>none
 |i::rs=>match ops[i]? with
   |none=>takeOneT ops listed e w rs
   |some o=>match Region.free .any ops listed i&&e.fits o.dst with
     |false=>takeOneT ops listed e w rs
     |true=>match wantedE ops e o with
       |some true=>match stillOpT P G w e o with
         |some v=>some (i,o,v)
         |none=>takeOneT ops listed e w rs
       |some false=>some (i,o,undef)
       |none=>takeOneT ops listed e w rs
noncomputable def branchBT (ops:Array Oper) (go:Env→TW→Option (Env×TW)) (e:Env) (w:TW) (i:Nat):Option (Env×TW):=match ops[i]? with
 |none=>none
 |some o=>match wantedE ops e o with
   |some true=>match stepBT P G sp ev o e w with
     |some (e',w')=>go e' w'
     |none=>none
   |some false=>match e.fits o.dst with
     |true=>putK e o.dst undef fun e'=>go e' w
     |false=>none
   |none=>none
noncomputable def evalAnyT (ops:Array Oper):Nat→Array Bool→Env→TW→Option (Env×TW)
 | 0,listed,e,w=>if (Region.ready .any ops listed).isEmpty then some (e,w) else none
 |n+1,listed,e,w=>match Region.ready .any ops listed with
   | []=>some (e,w)
   |r::rs=>match takeOneT P G ops listed e w (r::rs) with
     |some (i,o,v)=>forceV 20 v fun v=>forceB (listed.setIfInBounds i true) fun l'=>putK e o.dst v fun e'=>evalAnyT ops n l' e' w
     |none=>match branchBT P G sp ev ops (fun e w=>forceB (listed.setIfInBounds r true) fun l'=>evalAnyT ops n l' e w) e w r with
       |none=>none
       |some x=>if rs.all (fun j=>match branchBT P G sp ev ops (fun e w=>forceB (listed.setIfInBounds j true) fun l'=>evalAnyT ops n l' e w) e w j with
        |some y=>sameBT x y
        |none=>false) then some x else none
end ev
theorem WT.drewn {G:Gl} {B:FM} {w0:World} {τ:Rel} {wa:TW} {w:World} (h:WT G B w0 τ wa w) {n:Nat}:WT G B w0 τ wa { w with drawn:=n }:=by
 obtain⟨H,hR,h⟩:=h;exact⟨H,hR,h.drewn n⟩
section sound
variable {P:Program} {G:Gl} {sp:SpecT} {ev:EvF}
theorem stillOpT_spec {e:Env} {a':Act} {o:Oper} {v:Value} {τ:Rel} {B:FM} {w0:World} {w:TW} {wr:World} (ha:EnvR τ e a') (hw:WT G B w0 τ w wr) (h:stillOpT P G w e o=some v) :
 ∃v',VR τ v v'∧∀w,(execOp a'.eval o).run P w=.ok (.value v') w:=by
 unfold stillOpT at h;simp only[execQ_eq] at h;have hg0:=hw.glob;obtain⟨H,hR,hw⟩:=hw;split at h
 ·rename_i ho
  have hv:∀x∈o.op.operands,VR τ (e.eval x) (a'.eval x):=fun x hx=>ha.eval hw.glob x (List.all_eq_true.1 ho x (by simpa using hx));split at h
  ·rename_i u he
   cases h;obtain⟨h1,h2⟩:=evalAF_spec hv he;exact⟨_,AFb.vr _ _ h1,h2⟩
  ·split at h
   ·rename_i hk
    rw[Bool.and_eq_true] at hk
    have hs:Sim P NR τ (execOp e.eval o) (execOp a'.eval o):=by
     refine sim_exec e.eval a'.eval o hv hk.1 ?_;intro t x lo hi mx hop;have hc:=cutT_ref hR hk.2;unfold cutB at hc;rw[hop] at hc;dsimp only at hc;unfold cutOk;split
     ·rename_i ad l c hx
      rw[hx] at hc;simp only[Bool.or_eq_true] at hc;rcases hc with hc|hc
      ·exact .inl (hw.exact hc)
      ·exact .inr (zeroV_spec hc)
     ·rename_i ad hx
      rw[hx] at hc;exact hw.exact hc
     ·trivial
    split at h
    ·rename_i u hu
     cases h;obtain⟨b,h1,h2⟩:=hs.still hu
     cases h2 with
     |value v v' hvv=>exact⟨v',hvv,fun w=>still_run _ h1 w⟩
    ·cases h
   ·cases h
 ·cases h
theorem takeOneT_spec {ops:Array Oper} {listed:Array Bool} {e:Env} {w:TW}:∀(rs:List Nat) {i:Nat} {o:Oper} {v:Value},takeOneT P G ops listed e w rs=some (i,o,v) →
 i∈rs∧ops[i]?=some o∧Region.free .any ops listed i=true∧e.fits o.dst=true∧((wantedE ops e o=some true∧stillOpT P G w e o=some v)∨(wantedE ops e o=some false∧v=undef)):=by
 intro rs
 induction rs with
 |nil=>intro i o v h;cases h
 |cons r rs ih=>
   intro i o v h
   have up:takeOneT P G ops listed e w rs=some (i,o,v)→i∈r::rs∧ops[i]?=some o∧Region.free .any ops listed i=true∧e.fits o.dst=true∧((wantedE ops e o=some true∧stillOpT P G w e o=some v)∨(wantedE ops e o=some false∧v=undef)):=by
    intro h;obtain⟨h1,h2⟩:=ih h;exact⟨List.mem_cons_of_mem _ h1,h2⟩
   unfold takeOneT at h;split at h
   ·exact up h
   ·rename_i o2 ho
    split at h
    ·exact up h
    ·rename_i hf
     rw[Bool.and_eq_true] at hf;split at h
     ·rename_i hwt
      split at h
      ·rename_i u hu
       cases h;exact⟨List.mem_cons_self,ho,hf.1,hf.2,.inl ⟨hwt,hu⟩⟩
      ·exact up h
     ·rename_i hwt
      cases h;exact⟨List.mem_cons_self,ho,hf.1,hf.2,.inr ⟨hwt,rfl⟩⟩
     ·exact up h
theorem branchBT_sound (hsp:SpecOkT P G sp) (hev:EvOkT P G ev) {ops:Array Oper} {go:Env→TW→Option (Env×TW)} {Kp:Act→World→Prop} {e e2:Env} {a':Act} {wa wa2:TW} {wr:World} {i:Nat} {τ:Rel} {B:FM} {w0:World} {Q:Exit→Act→World→Prop}
 (hgo:∀ {a1 w1},go a1 w1=some (e2,wa2)→∀ {τ' a1' wr'},τ.le τ'→EnvR τ' a1 a1'→WT G B w0 τ' w1 wr'→Kp a1' wr')
 (ha:EnvR τ e a') (hw:WT G B w0 τ wa wr) (h:branchBT P G sp ev ops go e wa i=some (e2,wa2)):wpOp P ops Q i Kp a' wr:=by
 unfold branchBT at h;unfold wpOp
 cases ho:ops[i]? with
 |none=>rw[ho] at h;cases h
 |some o=>
   rw[ho] at h;dsimp only at h ⊢;split at h
   ·rename_i hwant
    rw[if_pos (wantedE_spec hwant ha)];split at h
    ·rename_i a1 w1 hs
     exact .inl (stepBT_sound hsp hev hs ha hw (fun τ' a1' wr' l1 ha1 hw1=>hgo h l1 ha1 hw1))
    ·cases h
   ·rename_i hwant
    rw[if_neg (by rw[wantedE_spec hwant ha];simp)];split at h
    ·rename_i hfit
     rw[putK_eq] at h;exact hgo h (Rel.le.refl _) (ha.put o.dst hfit (undef_vr _)) hw
    ·cases h
   ·cases h
theorem evalAnyT_sound (hsp:SpecOkT P G sp) (hev:EvOkT P G ev) {ops:Array Oper} (hns:Region.noSelect ops=true):∀(n:Nat) {listed:Array Bool} {e e2:Env} {wa wa2:TW},evalAnyT P G sp ev ops n listed e wa=some (e2,wa2)→∀ {B:FM} {w0:World} {τ:Rel} {a':Act} {wr:World},EnvR τ e a'→WT G B w0 τ wa wr →
 ∀ {Q:Exit→Act→World→Prop},(∀ τ' a2' wr',τ.le τ'→EnvR τ' e2 a2'→WT G B w0 τ' wa2 wr'→Q .normal a2' wr')→wpAny P .any ops (QN Q) n listed a' wr:=by
 intro n
 induction n with
 |zero=>
   intro listed a a2 wa wa2 h B w0 τ a' wr ha hw Q hQ;unfold evalAnyT at h;split at h
   ·rename_i he
    cases h;exact wpAny_done (P:=P) (Q:=QN Q) (by simpa using he) (hQ τ _ _ (Rel.le.refl _) ha hw) 0
   ·cases h
 |succ n ih=>
   intro listed a a2 wa wa2 h B w0 τ a' wr ha hw Q hQ;unfold evalAnyT at h;split at h
   ·rename_i he
    cases h;exact wpAny_done (P:=P) (Q:=QN Q) he (hQ τ _ _ (Rel.le.refl _) ha hw) (n+1)
   ·rename_i r rs he
    split at h
    ·rename_i i o v ht
     simp only[forceV_eq,forceB_eq,putK_eq] at h;obtain⟨h1,h2,h3,hfit,h4⟩:=takeOneT_spec _ ht
     have hy:∃v',VR τ v v'∧Yields P ops o v' a':=by
      rcases h4 with⟨hwt,hs⟩|⟨hwt,rfl⟩
      ·obtain⟨v',hv,hr⟩:=stillOpT_spec ha hw hs
       exact⟨v',hv,.inl ⟨wantedE_spec hwt ha,hr⟩⟩
      ·exact⟨undef,undef_vr _,.inr ⟨wantedE_spec hwt ha,rfl⟩⟩
     obtain⟨v',hv,hy⟩:=hy;refine wpAny_take h2 hns h3 (by rw[he];simpa using h1) (fun c a w hp=>hp.elim) hy ?_;exact ih h (ha.put o.dst hfit hv) hw hQ
    ·split at h
     ·cases h
     ·rename_i x hx
      split at h
      ·rename_i hall
       cases h;refine wpAny_all he (by simp) ?_;intro j hj
       have one:∀ {j a3 w3},branchBT P G sp ev ops (fun a w=>forceB (listed.setIfInBounds j true) fun l'=>evalAnyT P G sp ev ops n l' a w) a wa j=some (a3,w3)→(∀ τ a',EnvR τ a3 a'→EnvR τ a2 a')→w3=wa2 →
        wpOp P ops (QN Q) j (wpAny P .any ops (QN Q) n (listed.setIfInBounds j true)) a' wr:=by
        intro j a3 w3 hb e1 e2;refine branchBT_sound hsp hev ?_ ha hw hb;intro a1 w1 hg τ' a1' wr' l1 ha1 hw1;rw[forceB_eq] at hg;exact ih hg ha1 hw1 (fun τ2 a2' wr2 l2 h2 h3=>hQ τ2 a2' wr2 (l1.trans l2) (e1 _ _ h2) (e2 ▸ h3))
       rcases List.mem_cons.1 hj with rfl|hj
       ·exact one hx (fun _ _ h=>h) rfl
       ·have hb:=List.all_eq_true.1 hall j hj
        split at hb
        ·rename_i y hy
         exact one (a3:=y.1) (w3:=y.2) hy (fun τ a' h=>(sameBT_spec hb h).1) (sameBT_heap hb).symm
        ·cases hb
      ·cases h
end sound
theorem RO.sameT {α:Type} {P:Program} {s:Sem α} (h:RO s):∀ {w w':TW} {a:α},runW P s w=some (a,w')→w'=w:=by
 induction h with
 |pure a=>intro w w' b hr;cases hr;rfl
 |load m a k _ ih=>
   intro w w' b hr;unfold runW at hr
   split at hr<;>first|(cases hr;done)|skip
   split at hr<;>first|(cases hr;done)|skip
   split at hr<;>first|(cases hr;done)|skip
   exact ih _ hr
 |program k _ ih=>intro w w' b hr;exact ih P hr
 |mark m k _ ih=>intro w w' b hr;exact ih hr
 |halt h=>intro w w' b hr;cases hr
section congr
variable {P:Program} {ρ ρ':Operand→Value} {o:Oper}
theorem kindOk_congr (h:∀x∈o.op.operands,ρ x=ρ' x):kindOk P ρ o=kindOk P ρ' o:=by
 obtain⟨dst,op,type,pos,after,guard⟩:=o;dsimp only at h;unfold kindOk
 cases op<;>first|rfl|skip
 all_goals simp only[Op.operands] at h
 case binOp b t x y u=>
  cases b<;>first|rfl|(dsimp only;rw[h x (by simp),h y (by simp)])
 case nilCheck x=>dsimp only;rw[h x (by simp)]
 case makeFunc fn a b=>cases fn<;>rfl
 case slice t x lo hi mx=>cases hi<;>cases mx<;>rfl
 case call c=>
  dsimp only
  cases hc:c.callee with
  |value f=>dsimp only;rw[h f (by simp[Call.operands,hc])]
  |invoke r m=>dsimp only;rw[h r (by simp[Call.operands,hc])]
  |builtin b=>cases b<;>rfl
theorem cutT_congr {w:TW} (h:∀x∈o.op.operands,ρ x=ρ' x):cutT w ρ o=cutT w ρ' o:=by
 obtain⟨dst,op,type,pos,after,guard⟩:=o;dsimp only at h;unfold cutT
 cases op<;>first|rfl|skip
 simp only[Op.operands] at h;rename_i t x lo hi mx;dsimp only;rw[h x (by simp)]
 have hlo:lo.map ρ=lo.map ρ':=by
  cases lo with
  |none=>rfl
  |some y=>simp[h y (by simp)]
 rw[hlo]
theorem evalAF_congr (hs:noSel o=true) (h:∀x∈o.op.operands,ρ x=ρ' x):evalAF P ρ o=evalAF P ρ' o:=by
 have e:execOp ρ o=execOp ρ' o:=execOp_congr o (fun cs b hx=>by unfold noSel at hs;rw[hx] at hs;cases hs) h;unfold evalAF;simp only[execQ_eq]
 have ha:o.op.operands.toList.all (fun x=>AFb 10 (ρ x))=o.op.operands.toList.all (fun x=>AFb 10 (ρ' x)):=by
  rw[Bool.eq_iff_iff,List.all_eq_true,List.all_eq_true];exact⟨fun k x hx=>by rw[←h x (by simpa using hx)];exact k x hx,fun k x hx=>by rw[h x (by simpa using hx)];exact k x hx⟩
 rw[e,ha]
theorem specA_congr {w:TW} (h:∀x∈o.op.operands,ρ x=ρ' x):specA P ρ o w=specA P ρ' o w:=by
 obtain⟨dst,op,type,pos,after,guard⟩:=o;dsimp only at h;unfold specA
 cases op<;>first|rfl|skip
 all_goals simp only[Op.operands] at h
 case lookup t m k ok=>dsimp only;rw[h m (by simp),h k (by simp)]
 case mapUpdate t m k v=>dsimp only;rw[h m (by simp),h k (by simp),h v (by simp)]
 case insert t m k v=>dsimp only;rw[h m (by simp),h k (by simp),h v (by simp)]
 case call c=>
  obtain⟨callee,args,ts⟩:=c
  cases callee<;>first|rfl|skip
  rename_i b;have harg:∀x∈args,ρ x=ρ' x:=fun x hx=>h x (by simp[Call.operands,hx])
  cases b<;>first|rfl|skip
  all_goals
   dsimp only
   cases ha:args.toList with
   |nil=>rfl
   |cons s r=>
     cases r with
     |nil=>rfl
     |cons x r2=>
       cases r2 with
       |nil=>
         obtain⟨m1,m2⟩:=mem2 ha
         first
          |(simp only[harg s m1,harg x m2];done)
          |(cases ts.toList<;>first|rfl|(dsimp only;rw[harg s m1,harg x m2]))
       |cons y r3=>rfl
theorem specT_congr {w:TW} (h:∀x∈o.op.operands,ρ x=ρ' x):specT P ρ o w=specT P ρ' o w:=by
 unfold specT;split
 ·rename_i src dst x hop
  rw[h x (by rw[hop];simp[Op.operands])]
 ·rename_i t m k hop
  rw[h m (by rw[hop];simp[Op.operands]),h k (by rw[hop];simp[Op.operands])]
 ·rename_i t m s x hop
  rw[h m (by rw[hop];simp[Op.operands]),h s (by rw[hop];simp[Op.operands]),h x (by rw[hop];simp[Op.operands])]
 ·exact specA_congr h
end congr
section quiet
variable {P:Program} {G:Gl} {B:FM} {w0:World}
theorem evalOpT_sound2 {sp:SpecT} (hsp:SpecOkT P G sp) {okx:Operand→Bool} {ρ ρ':Operand→Value} {o:Oper} {wa wa':TW} {wr:World} {n:Next} {τ:Rel} (hv:∀x∈o.op.operands,okx x=true→VR τ (ρ x) (ρ' x)) (hw:WT G B w0 τ wa wr) (h:evalOpT P sp okx ρ o wa=some (n,wa')) :
 ∃ τ' n' wr',τ.le τ'∧(execOp ρ' o).run P wr=.ok n' wr'∧NR τ' n n'∧WT G B w0 τ' wa' wr':=by
 have hb:∀x,okx x=true→x∈o.op.operands∨True:=fun _ _=>.inr trivial;obtain⟨H,hR,hw⟩:=hw;unfold evalOpT at h;split at h
 ·rename_i ho
  have hv:∀x∈o.op.operands,VR τ (ρ x) (ρ' x):=fun x hx=>hv x hx (List.all_eq_true.1 ho x (by simpa using hx));split at h
  ·rename_i v he
   cases h;obtain⟨h1,h2⟩:=evalAF_spec hv he;exact⟨τ,_,wr,Rel.le.refl τ,h2 wr,.value _ _ (AFb.vr _ _ h1),H,hR,hw⟩
  ·rename_i hna
   split at h
   ·rename_i hk
    rw[Bool.and_eq_true] at hk
    have hs:Sim P NR τ (execOp ρ o) (execOp ρ' o):=by
     refine sim_exec ρ ρ' o hv hk.1 ?_;intro t x lo hi mx hop;have hc:=cutT_ref hR hk.2;unfold cutB at hc;rw[hop] at hc;dsimp only at hc;unfold cutOk;split
     ·rename_i ad l c hx
      rw[hx] at hc;simp only[Bool.or_eq_true] at hc;rcases hc with hc|hc
      ·exact .inl (hw.exact hc)
      ·exact .inr (zeroV_spec hc)
     ·rename_i ad hx
      rw[hx] at hc;exact hw.exact hc
     ·trivial
    obtain⟨u',r1,r2⟩:=runF_sound h (u:=wOf H) hR;obtain⟨τ',n',wr',l1,e1,e2,e3⟩:=hs.run (wa:=wOf H) hw r1;exact⟨τ',n',wr',l1,e1,e2,_,r2,e3⟩
   ·obtain⟨τ',n',wr',H',l1,e1,e2,e3,e4⟩:=hsp _ _ o wa wa' n h B w0 τ wr H hv hR hw
    exact⟨τ',n',wr',l1,e1,e2,H',e3,e4⟩
 ·cases h
def isLd (o:Oper):Bool:=match o.op with
 |.load _ _=>true
 |.lookup _ _ _ _=>true
 |_=>false
theorem load_same {ρ:Operand→Value} {o:Oper} {okx:Operand→Bool} {w w':TW} {n:Next} (hl:isLd o=true) (h:evalOpT P (specT P) okx ρ o w=some (n,w')):w'=w:=by
 obtain⟨dst,op,type,pos,after,guard⟩:=o;unfold evalOpT at h
 split at h<;>first|(cases h;done)|skip
 split at h
 ·cases h;rfl
 ·cases op<;>first|(cases hl;done)|skip
  ·split at h
   ·unfold runF at h
    simp only[execQ_eq] at h
    try dsimp only at h
    split at h
    ·cases h;rfl
    refine RO.sameT ?_ h
    try simp only[execOp]
    refine RO.then (RO.then ?_ (fun a=>ro_loadVar _ a)) (fun v=>.pure _);unfold Instr.sureAddr;split
    ·exact .pure _
    ·exact .halt _
   ·unfold specT specA at h
    cases h
  ·split at h
   ·rename_i hk
    cases hk
   ·unfold specT specA at h
    dsimp only at h
    split at h<;>first|(cases h;done)|skip
    cases h;rfl
noncomputable def quietT0 (P:Program) (G:Gl) (w:TW) (e:Env) (o:Oper):Option Value:=match isLd o with
 |true=>match evalOpT P (specT P) (e.ok G) e.eval o w with
   |some (.value v,_)=>some v
   |_=>none
 |false=>stillOpT P G w e o
theorem stillOpT_spec2 {e:Env} {ρ':Operand→Value} {o:Oper} {v:Value} {τ:Rel} {w:TW} {wr:World} (hv:∀x∈o.op.operands,e.ok G x=true→VR τ (e.eval x) (ρ' x)) (hw:WT G B w0 τ w wr) (h:stillOpT P G w e o=some v) :
 ∃v',VR τ v v'∧∀w,(execOp ρ' o).run P w=.ok (.value v') w:=by
 unfold stillOpT at h;simp only[execQ_eq] at h;obtain⟨H,hR,hw⟩:=hw;split at h
 ·rename_i ho
  have hv:∀x∈o.op.operands,VR τ (e.eval x) (ρ' x):=fun x hx=>hv x hx (List.all_eq_true.1 ho x (by simpa using hx));split at h
  ·rename_i u he
   cases h;obtain⟨h1,h2⟩:=evalAF_spec hv he;exact⟨_,AFb.vr _ _ h1,h2⟩
  ·split at h
   ·rename_i hk
    rw[Bool.and_eq_true] at hk
    have hs:Sim P NR τ (execOp e.eval o) (execOp ρ' o):=by
     refine sim_exec e.eval ρ' o hv hk.1 ?_;intro t x lo hi mx hop;have hc:=cutT_ref hR hk.2;unfold cutB at hc;rw[hop] at hc;dsimp only at hc;unfold cutOk;split
     ·rename_i ad l c hx
      rw[hx] at hc;simp only[Bool.or_eq_true] at hc;rcases hc with hc|hc
      ·exact .inl (hw.exact hc)
      ·exact .inr (zeroV_spec hc)
     ·rename_i ad hx
      rw[hx] at hc;exact hw.exact hc
     ·trivial
    split at h
    ·rename_i u hu
     cases h;obtain⟨b,h1,h2⟩:=hs.still hu
     cases h2 with
     |value v v' hvv=>exact⟨v',hvv,fun w=>still_run _ h1 w⟩
    ·cases h
   ·cases h
 ·cases h
theorem quietT0_spec {e:Env} {ρ':Operand→Value} {o:Oper} {v:Value} {τ:Rel} {w:TW} {wr:World} (hv:∀x∈o.op.operands,e.ok G x=true→VR τ (e.eval x) (ρ' x)) (hw:WT G B w0 τ w wr) (h:quietT0 P G w e o=some v) :
 ∃ τ' v' wr',τ.le τ'∧(execOp ρ' o).run P wr=.ok (.value v') wr'∧VR τ' v v'∧WT G B w0 τ' w wr':=by
 unfold quietT0 at h;split at h
 ·rename_i hl
  split at h<;>first|(cases h;done)|skip
  rename_i u w2 he;cases h;have e1:=load_same hl he;subst e1;obtain⟨τ',n',wr',l1,r1,r2,r3⟩:=evalOpT_sound2 (specT_ok P G) hv hw he
  cases r2 with
  |value v v' hvv=>exact⟨τ',v',wr',l1,r1,hvv,r3⟩
 ·obtain⟨v',h1,h2⟩:=stillOpT_spec2 hv hw h
  exact⟨τ,v',wr,Rel.le.refl _,h2 wr,h1,hw⟩
theorem quietT0_congr {e e':Env} {o:Oper} {w:TW} (hs:noSel o=true) (h:∀x∈o.op.operands,e.eval x=e'.eval x∧e.ok G x=e'.ok G x):quietT0 P G w e o=quietT0 P G w e' o:=by
 have h1:∀x∈o.op.operands,e.eval x=e'.eval x:=fun x hx=>(h x hx).1
 have ha:o.op.operands.toList.all (e.ok G)=o.op.operands.toList.all (e'.ok G):=by
  rw[Bool.eq_iff_iff,List.all_eq_true,List.all_eq_true];exact⟨fun k x hx=>by rw[←(h x (by simpa using hx)).2];exact k x hx,fun k x hx=>by rw[(h x (by simpa using hx)).2];exact k x hx⟩
 have ex:execOp e.eval o=execOp e'.eval o:=execOp_congr o (fun cs b hx=>by unfold noSel at hs;rw[hx] at hs;cases hs) h1;unfold quietT0 evalOpT stillOpT;simp only[execQ_eq];rw[ha,evalAF_congr hs h1,kindOk_congr h1,cutT_congr h1,runF_congr h1 ex,ex,specT_congr h1]
noncomputable def stepV0 (P:Program) (G:Gl) (sp:SpecT) (ev:EvF) (o:Oper) (e:Env) (w:TW):Option (Value×TW):=
 match evalOpT P sp (e.ok G) e.eval o w with
 |some (.value v,w')=>forceV 20 v fun v=>some (v,w')
 |some (.skip,w')=>some (undef,w')
 |some (.enter f args,w')=>forceArr args fun args=>match ev f args w' with
   |some (v,w'')=>forceV 20 v fun v=>some (v,w'')
   |none=>none
 |_=>none
theorem stepV0_sound {sp:SpecT} {ev:EvF} (hsp:SpecOkT P G sp) (hev:EvOkT P G ev) {o:Oper} {e:Env} {v:Value} {wa wa2:TW} (h:stepV0 P G sp ev o e wa=some (v,wa2)) {τ:Rel} {a':Act} {wr:World} (hv:∀x∈o.op.operands,e.ok G x=true→VR τ (e.eval x) (a'.eval x)) (hw:WT G B w0 τ wa wr)
 {K:Act→World→Prop} {Q:Exit→Act→World→Prop} (hK:∀ τ' v' wr',τ.le τ'→VR τ' v v'→WT G B w0 τ' wa2 wr'→K (a'.put o.dst v') wr'):o.wp P a' wr K Q:=by
 unfold stepV0 at h;unfold Oper.wp;split at h
 ·rename_i v1 w' he
  simp only[forceV_eq,Option.some.injEq,Prod.mk.injEq] at h;obtain⟨rfl,rfl⟩:=h;obtain⟨τ',n',wr',h1,h2,h3,h4⟩:=evalOpT_sound2 hsp hv hw he;rw[h2]
  cases h3 with
  |value v v' hvv=>exact hK τ' _ _ h1 hvv h4
 ·rename_i w' he
  simp only[Option.some.injEq,Prod.mk.injEq] at h;obtain⟨rfl,rfl⟩:=h;obtain⟨τ',n',wr',h1,h2,h3,h4⟩:=evalOpT_sound2 hsp hv hw he;rw[h2]
  cases h3 with
  |skip=>exact hK τ' _ _ h1 (undef_vr _) h4
 ·rename_i f args w' he
  simp only[forceArr_eq] at h;split at h
  ·rename_i v1 w'' hc
   simp only[forceV_eq,Option.some.injEq,Prod.mk.injEq] at h;obtain⟨rfl,rfl⟩:=h;obtain⟨τ',n',wr',h1,h2,h3,h4⟩:=evalOpT_sound2 hsp hv hw he;rw[h2]
   cases h3 with
   |enter f xs ys hx=>
     refine(hev _ _ _ _ _ hc B w0 τ' ys wr' hx h4).mono ?_;rintro e wr2 ⟨τ2,v',rfl,l2,hvv,w2⟩;exact hK τ2 _ _ (h1.trans l2) hvv w2
  ·cases h
 ·cases h
end quiet
end Go.Ev
