/- The run on the small world, with ranges over functions and jumps: code and functions; what is reckoned holds on the great one. What has been reckoned once is taken from a book. Conditions: those that each statement shows. -/
import Derived.Test.YtkndlfdpmpdihaaGreatDoorY27
namespace Go.Ev
open Go.RowKit
set_option linter.unusedVariables false
set_option linter.unusedSimpArgs false
def EvIOk (P:Program) (G:Gl) (evi:EvI):Prop:=∀gf lb rd wa p wa2,evi gf lb rd wa=some (p,wa2)→(∃fn body,P.funcs[gf]?=some fn∧fn.body=some body∧(fn.name == "runtime.NumGoroutine")=false) ∧
 ∀(C:Ctx) (τ:Rel) (w0:World) (lb':Array Value) (wr:World),AR τ lb lb'→RdOk P G w0 rd C τ→WT G (upd C.B0 C.L (some (.loop (C.rc none)))) w0 τ wa wr →
  Calls P gf (#[yv C.L]++lb') wr fun e wr'=>∃v τ',e=.returned v∧τ.le τ'∧WT G (upd C.B0 C.L (some (.loop (C.rc p)))) w0 τ' wa2 wr'
section sound
variable {P:Program} {G:Gl} {ev:EvF} {evi:EvI} {rd:Rd}
theorem run_callFunc {f:FuncId} {fn:Func} {body:Code} (h1:P.funcs[f]?=some fn) (h2:fn.body=some body) (h3:(fn.name == "runtime.NumGoroutine")=false) (args:Array Value) (w:World):(callFunc f args).run P w=.ok (.enter f args) w:=by
 have hp:(program:Sem Program).run P w=.ok P w:=rfl;simp only[callFunc,Sem.run_bind,hp,Result.andThen_ok,h1,h3,h2,Option.isNone,Bool.false_eq_true,if_false];rfl
def BdOk (P:Program) (G:Gl) (rd:Rd) (bd:Bd) (c:Code):Prop:=∀ {s s2:FSt} {a a2:Env} {wa wa2:TW} {ex:Exit},bd s a wa=some (ex,s2,a2,wa2) →
 ∀ {C:Ctx} {τ0:Rel} {w0:World} {r:Option Nat} {B:FM} {τ:Rel} {a':Act} {wr:World},τ0.le τ→EnvR τ a (nd a')→Fr P G w0 rd C τ0 r B a' s→WT G B w0 τ wa wr →
 ∀ {Q:Exit→Act→World→Prop},(∀ τ' B' a2' wr',τ.le τ'→EnvR τ' a2 (nd a2')→Fr P G w0 rd C τ0 r B' a2' s2→WT G B' w0 τ' wa2 wr'→Q ex a2' wr')→c.wpIn (Wf r) 0 P Q a' wr
theorem evalLoopX_sound {body:Bd} {c:Code} (hb:BdOk P G rd body c):∀(n:Nat) {s s2:FSt} {a a2:Env} {wa wa2:TW} {ex:Exit},evalLoopX body n s a wa=some (ex,s2,a2,wa2) →
 ∀ {C:Ctx} {τ0:Rel} {w0:World} {r:Option Nat} {B:FM} {τ:Rel} {a':Act} {wr:World},τ0.le τ→EnvR τ a (nd a')→Fr P G w0 rd C τ0 r B a' s→WT G B w0 τ wa wr →
 ∀ {Q:Exit→Act→World→Prop},(∀ τ' B' a2' wr',τ.le τ'→EnvR τ' a2 (nd a2')→Fr P G w0 rd C τ0 r B' a2' s2→WT G B' w0 τ' wa2 wr'→Q ex a2' wr')→Code.roundsIn (Wf r) 0 P c Q n a' wr:=by
 intro n
 induction n with
 |zero=>intro s s2 a a2 wa wa2 ex h;cases h
 |succ n ih=>
   intro s s2 a a2 wa wa2 ex h C τ0 w0 r B τ a' wr h0 ha hf hw Q hQ;unfold evalLoopX at h;unfold Code.roundsIn
   cases hbd:body s a wa with
   |none=>rw[hbd] at h;cases h
   |some x=>
     obtain⟨e1,s1,a1,w1⟩:=x;rw[hbd] at h;refine hb hbd h0 ha hf hw ?_;intro τ' B' a1' wr' l1 ha1 hf1 hw1
     cases e1 with
     |normal=>exact ih h (h0.trans l1) ha1 hf1 hw1 (fun τ2 B2 a2' wr2 l2 h2 h3 h4=>hQ τ2 B2 a2' wr2 (l1.trans l2) h2 h3 h4)
     |_=>cases h;exact hQ τ' B' a1' wr' l1 ha1 hf1 hw1
theorem evalScopeX_sound {run:Code→Bd} {c:Code} (hb:∀d,BdOk P G rd (run d) d):∀(m:Nat) (d:Code) {s s2:FSt} {a a2:Env} {wa wa2:TW} {ex:Exit},evalScopeX run c m d s a wa=some (ex,s2,a2,wa2) →
 ∀ {C:Ctx} {τ0:Rel} {w0:World} {r:Option Nat} {B:FM} {τ:Rel} {a':Act} {wr:World},τ0.le τ→EnvR τ a (nd a')→Fr P G w0 rd C τ0 r B a' s→WT G B w0 τ wa wr →
 ∀ {Q:Exit→Act→World→Prop},(∀ τ' B' a2' wr',τ.le τ'→EnvR τ' a2 (nd a2')→Fr P G w0 rd C τ0 r B' a2' s2→WT G B' w0 τ' wa2 wr'→Q ex a2' wr')→scopeIn (Wf r) 0 P c Q m d a' wr:=by
 intro m
 induction m with
 |zero=>intro d s s2 a a2 wa wa2 ex h;cases h
 |succ m ih=>
   intro d s s2 a a2 wa wa2 ex h C τ0 w0 r B τ a' wr h0 ha hf hw Q hQ;unfold evalScopeX at h;unfold scopeIn
   cases hbd:run d s a wa with
   |none=>rw[hbd] at h;cases h
   |some x=>
     obtain⟨e1,s1,a1,w1⟩:=x;rw[hbd] at h;refine hb d hbd h0 ha hf hw ?_;intro τ' B' a1' wr' l1 ha1 hf1 hw1
     cases e1 with
     |goto l=>
       dsimp only at h ⊢
       split at h<;>first|(cases h;done)|skip
       rename_i rest hfl;exact⟨rest,hfl,ih rest h (h0.trans l1) ha1 hf1 hw1 (fun τ2 B2 a2' wr2 l2 h2 h3 h4=>hQ τ2 B2 a2' wr2 (l1.trans l2) h2 h3 h4)⟩
     |_=>cases h;exact hQ τ' B' a1' wr' l1 ha1 hf1 hw1
theorem putsK_sound {β:Type} {τ:Rel}:∀(ts:List Tmp) (vs:List Value) {e:Env} {k:Env→Option β} {x:β},putsK ts vs e k=some x→∀ {tm:Array Value} {vs':List Value},EnvR τ e ⟨tm,[]⟩→AR τ ⟨vs⟩ ⟨vs'⟩ →
 ts.length=vs'.length∧∃e',k e'=some x∧EnvR τ e' ⟨(ts.zip vs').foldl (fun t (p:Tmp×Value)=>t.setIfInBounds p.1 p.2) tm,[]⟩
 | [],[],e,k,x,h,tm,vs',ha,hv=>by
   have:vs'=[]:=by have:=hv.1;simpa using this.symm
   subst this;exact⟨rfl,e,h,ha⟩
 |t::ts,v::vs,e,k,x,h,tm,vs',ha,hv=>by
   unfold putsK at h
   split at h<;>first|(cases h;done)|skip
   rename_i hfit;rw[putK_eq] at h
   cases vs' with
   |nil=>have:=hv.1;simp at this
   |cons v' vs'=>
     have h0:VR τ v v':=hv.2 0 v v' (by simp) (by simp);have hr:AR τ ⟨vs⟩ ⟨vs'⟩:=⟨by have:=hv.1;simpa using this,fun i u u' h1 h2=>hv.2 (i+1) u u' (by simpa using h1) (by simpa using h2)⟩;obtain⟨h1,e',h2,h3⟩:=putsK_sound ts vs h (ha.put (some t) hfit h0) hr;exact⟨by simp[h1],e',h2,h3⟩
 | [],_::_,e,k,x,h,tm,vs',ha,hv=>by cases h
 |_::_,[],e,k,x,h,tm,vs',ha,hv=>by cases h
theorem zip_toList (ps:Array Tmp) (vs:List Value) (tm:Array Value):(ps.zip ⟨vs⟩).foldl (fun t (p:Tmp×Value)=>t.setIfInBounds p.1 p.2) tm=(ps.toList.zip vs).foldl (fun t (p:Tmp×Value)=>t.setIfInBounds p.1 p.2) tm:=by
 rw[←Array.foldl_toList];congr 1;simp
theorem evalCodeX_sound (hev:EvOkT P G ev) (hevi:EvIOk P G evi) {dr:DrawnT} (hdr:DrOkW P G dr):∀(n:Nat) (c:Code),BdOk P G rd (evalCodeX P G ev evi rd dr n c) c:=by
 intro n
 induction n with
 |zero=>intro c s s2 a a2 wa wa2 ex h;cases h
 |succ n ih=>
   intro c s s2 a a2 wa wa2 ex h C τ0 w0 r B τ a' wr h0 ha hf hw Q hQ;unfold evalCodeX at h
   cases c with
   |skip=>cases h;exact wpIn_skip (hQ τ _ _ _ (Rel.le.refl _) ha hf hw)
   |label l=>cases h;exact wpIn_label (hQ τ _ _ _ (Rel.le.refl _) ha hf hw)
   |ret=>cases h;exact wpIn_ret (hQ τ _ _ _ (Rel.le.refl _) ha hf hw)
   |exit id=>cases h;exact wpIn_exit (hQ τ _ _ _ (Rel.le.refl _) ha hf hw)
   |goto l=>cases h;exact wpIn_goto (hQ τ _ _ _ (Rel.le.refl _) ha hf hw)
   |refuse m=>cases h
   |region id ops dw=>
     cases dw with
     |false=>
       dsimp only at h
       split at h<;>first|(cases h;done)|skip
       rename_i hreg
       split at h<;>first|(cases h;done)|skip
       rename_i s1 a1 w1 hs;cases h;exact wpIn_region (stepOpsX_sound hev ops hreg _ hs h0 ha hf hw hQ)
     |true=>
       dsimp only at h
       split at h<;>first|(cases h;done)|skip
       rename_i hreg
       split at h<;>first|(cases h;done)|skip
       rename_i a1 w1 hs;cases h;exact drawn_in hdr hs hreg ha hf hw hQ
   |seq x y=>
     dsimp only at h;refine wpIn_seq ?_
     cases hx:evalCodeX P G ev evi rd dr n x s a wa with
     |none=>rw[hx] at h;cases h
     |some q=>
       obtain⟨e1,s1,a1,w1⟩:=q;rw[hx] at h;refine ih x hx h0 ha hf hw ?_;intro τ' B' a1' wr' l1 ha1 hf1 hw1
       cases e1 with
       |normal=>exact ih y h (h0.trans l1) ha1 hf1 hw1 (fun τ2 B2 a2' wr2 l2 h2 h3 h4=>hQ τ2 B2 a2' wr2 (l1.trans l2) h2 h3 h4)
       |_=>cases h;exact hQ τ' B' a1' wr' l1 ha1 hf1 hw1
   |cond c x y=>
     dsimp only at h
     have hop:∀b,condK G a c=some b→a'.eval c=.bool b:=by
      intro b hb;unfold condK at hb;split at hb
      ·rename_i t
       have hb2:truthK G (match look a.l t with|some v=>v|none=>undef)=some b:=hb
       cases hl:look a.l t with
       |none=>rw[hl] at hb2;cases hb2
       |some v=>
         rw[hl] at hb2;exact truthK_spec hb2 hw.sy (ha.tmps t _ hl)
      ·split at hb<;>first|(cases hb;done)|skip
       rename_i hn _ b2 hb2;cases hb
       cases c with
       |tmp t=>exact absurd rfl (hn t)
       |const v=>exact hb2
       |global g=>cases hb2
       |func f=>cases hb2
     split at h
     ·rename_i hc
      exact wpIn_cond_true (hop _ hc) (ih x h h0 ha hf hw hQ)
     ·rename_i hc
      exact wpIn_cond_false (hop _ hc) (ih y h h0 ha hf hw hQ)
     ·cases h
   |block id body=>
     dsimp only at h;refine wpIn_block ?_
     cases hx:evalCodeX P G ev evi rd dr n body s a wa with
     |none=>rw[hx] at h;cases h
     |some q=>
       obtain⟨e1,s1,a1,w1⟩:=q;rw[hx] at h;refine ih body hx h0 ha hf hw ?_;intro τ' B' a1' wr' l1 ha1 hf1 hw1
       cases e1 with
       |exit k=>
         dsimp only at h;show (if k=id then Q Exit.normal a1' wr' else Q (Exit.exit k) a1' wr');split at h
         ·rename_i hk
          cases h;rw[if_pos hk];exact hQ τ' B' a1' wr' l1 ha1 hf1 hw1
         ·rename_i hk
          cases h;rw[if_neg hk];exact hQ τ' B' a1' wr' l1 ha1 hf1 hw1
       |_=>cases h;exact hQ τ' B' a1' wr' l1 ha1 hf1 hw1
   |loop body=>
     dsimp only at h;exact wpIn_loop_rounds n (evalLoopX_sound (ih body) n h h0 ha hf hw hQ)
   |scope body=>
     dsimp only at h;exact wpIn_scope n (evalScopeX_sound ih n body h h0 ha hf hw hQ)
   |rangeFunc g ps assign body=>
     dsimp only at h
     split at h<;>first|(cases h;done)|skip
     rename_i gf lb hok hev2;obtain⟨rfl,hd,rfl⟩:=hf;have hgv:=ha.eval hw.glob g hok;rw[nd_eval,hev2] at hgv
     have hg:∃vs,a'.eval g=.func (.func gf) #[] vs∧AR τ lb vs:=by
      generalize a'.eval g=q at hgv
      cases hgv with
      |func fn xs ys us vs hfn e1 e2 i1 i2=>
        have:us=#[]:=by
         have:us.size=0:=by rw[←e1];rfl
         exact Array.eq_empty_of_size_eq_zero this
        subst this;exact⟨vs,rfl,e2,i2⟩
     obtain⟨vs,hg,har⟩:=hg
     generalize hrdx:(fun(vals:List Value) (w:TW)=>putsK ps.toList vals a fun a1=>match evalCodeX P G ev evi rd dr n assign .round a1 w with
      |some (.normal,_,a2,w2)=>match evalCodeX P G ev evi rd dr n body .round a2 w2 with
        |some (.normal,_,_,w3)=>some (none,w3)
        |some (.ret,_,_,w3)=>some (some Code.ret,w3)
        |some (.exit id,_,_,w3)=>some (some (.exit id),w3)
        |some (.goto l,_,_,w3)=>some (some (.goto l),w3)
        |_=>none
      |_=>none)=rdx at h
     cases hit:evi gf lb rdx wa with
     |none=>rw[hit] at h;cases h
     |some q=>
     obtain⟨p,w'⟩:=q;rw[hit] at h;obtain⟨⟨gfn,gbody,hgf,hgb,hgn⟩,hcall⟩:=hevi _ _ _ _ _ _ hit;refine wpIn_rangeFunc ?_;intro fn _
     have hBs:C.B0 wr.heap.size=none:=by
      cases e:C.B0 wr.heap.size with
      |none=>rfl
      |some o=>have:=hw.lt (j:=wr.heap.size) (by rw[e];simp);omega
     have hBs1:C.B0 (wr.heap.size+1)=none:=by
      cases e:C.B0 (wr.heap.size+1) with
      |none=>rfl
      |some o=>have:=hw.lt (j:=wr.heap.size+1) (by rw[e];simp);omega
     obtain⟨C2,hC2⟩:∃C2:Ctx,C2={ B0:=upd C.B0 wr.heap.size (some (mk0 0)),L:=wr.heap.size+1,rc:=fun p=>{ state:=if p.isNone then .ready else .done,pending:=p,fn,tmps:=a'.tmps,params:=ps,assign,body,defers:=wr.heap.size } }:=⟨_,rfl⟩
     have hlay:WT G (upd C2.B0 C2.L (some (.loop (C2.rc none)))) w0 τ wa ((wr.alloc (.deferred (some []))).alloc (.loop (C2.rc none))):=by
      have h1:=(hw.lay (.deferred (some []))).lay (.loop (C2.rc none));rw[World.size_alloc] at h1;rw[hC2] at h1 ⊢;exact h1
     have hrd:RdOk P G w0 rdx C2 τ:=by
      intro vals wa1 c1 wa3 hr τ1 vals' wr1 l1 hvals hw1;rw[←hrdx] at hr;obtain⟨hlen,a1,hr,ha1⟩:=putsK_sound ps.toList vals hr (tm:=a'.tmps) (ha.mono l1) hvals;have hL:=hw1.at (j:=C2.L) (upd_same _ _ _);have hy:=run_yield (P:=P) (args:=⟨vals'⟩) hL (by rw[hC2];simpa using hlen.symm);refine⟨_,_,_,_,hy,roundIn_of_wpIn trivial ?_⟩
      split at hr<;>first|(cases hr;done)|skip
      rename_i sA aA wA hA
      have eA:EnvR τ1 a1 (nd { tmps:=(ps.zip ⟨vals'⟩).foldl (fun t (p:Tmp×Value)=>t.setIfInBounds p.1 p.2) a'.tmps,defers:=[] }):=by
       rw[zip_toList];exact ha1
      have hrcA:(C2.rc none).assign=assign:=by rw[hC2]
      have hrcB:(C2.rc none).body=body:=by rw[hC2]
      have hrcP:(C2.rc none).params=ps:=by rw[hC2]
      have hrcT:(C2.rc none).tmps=a'.tmps:=by rw[hC2]
      rw[hrcA,hrcB,hrcP,hrcT];refine ih assign hA (C:={ B0:=upd C2.B0 C2.L (some (.loop (C2.rc none))),L:=0,rc:=C2.rc }) (τ0:=τ1) (w0:=w0) (r:=some C2.L) (Rel.le.refl _) eA ⟨⟨_,rfl⟩,rfl,rfl⟩ hw1 ?_;intro τ2 B2 a2' wr2 l2 ha2 hf2 hw2
      have hB2:a2'.defers=[]∧B2=upd C2.B0 C2.L (some (.loop (C2.rc none)))∧sA=.round:=by
       cases sA with
       |fresh=>cases hf2.1
       |marked=>cases hf2.1
       |round=>exact⟨hf2.2.1,hf2.2.2,rfl⟩
       |iter p=>cases hf2.1
      obtain⟨hd2,rfl,rfl⟩:=hB2;have hL2:=hw2.at (j:=C2.L) (upd_same _ _ _);refine⟨_,run_beginRound hL2 (by rw[hC2];rfl),?_⟩;have hw3:=hw2.turn (r:=C2.L) (B':=upd C2.B0 C2.L (some (.loop { C2.rc none with state:=.busy }))) (o':=.loop { C2.rc none with state:=.busy }) (upd_same _ _ _) rfl (fun j hj=>by rw[upd_ne _ _ _ hj,upd_ne _ _ _ hj]) (.inr (upd_same _ _ _));split at hr
      all_goals first|(cases hr;done)|skip
      all_goals
       rename_i sB aB wB hB;cases hr;refine ih body hB (C:={ B0:=upd C2.B0 C2.L (some (.loop { C2.rc none with state:=.busy })),L:=0,rc:=C2.rc }) (τ0:=τ2) (w0:=w0) (r:=some C2.L) (Rel.le.refl _) ha2 ⟨⟨_,rfl⟩,hd2,rfl⟩ hw3 ?_;intro τ3 B3 a3' wr3 l3 ha3 hf3 hw4
       have hB3:B3=upd C2.B0 C2.L (some (.loop { C2.rc none with state:=.busy })):=by
        cases sB with
        |fresh=>cases hf3.1
        |marked=>cases hf3.1
        |round=>exact hf3.2.2
        |iter p=>cases hf3.1
       subst hB3;have hL3:=hw4.at (j:=C2.L) (upd_same _ _ _);refine⟨_,_,run_endRound _ hL3,τ3,rfl,l2.trans l3,?_⟩;refine hw4.turn (upd_same _ _ _) rfl (fun j hj=>by rw[upd_ne _ _ _ hj,upd_ne _ _ _ hj]) (.inr ?_);rw[upd_same,hC2]
     have hc:=hcall C2 τ w0 vs _ har hrd hlay;refine⟨wr.heap.size+1,[{ target:=.collected wr.heap.size,args:=#[] }],(wr.alloc (.deferred (some []))).alloc (.loop (C2.rc none)),{ target:=.fn (.func gf) vs,args:=#[.func (.yield (wr.heap.size+1)) #[] #[]] },(wr.alloc (.deferred (some []))).alloc (.loop (C2.rc none)),gf,#[.func (.yield (wr.heap.size+1)) #[] #[]]++vs,(wr.alloc (.deferred (some []))).alloc (.loop (C2.rc none)),?_,?_,?_,?_,?_,?_⟩
     ·rw[hC2];exact run_enterLoop_outer _ _ _ _ _
     ·simp only[resolve,hg]
      simp[go_sem]
     ·intro f' _;trivial
     ·simp only[invoke]
      exact run_callFunc hgf hgb hgn _ _
     ·intro hh;simp[Fence.wide] at hh
     ·have hy0:yv C2.L=.func (.yield (wr.heap.size+1)) #[] #[]:=by rw[hC2];rfl
      rw[hy0] at hc;refine(callsIn_W (n:=0-1)).2 (Calls.mono hc ?_);rintro e w3 ⟨v,τ',rfl,l1,hw3⟩;have hL:=hw3.at (j:=C2.L) (upd_same _ _ _)
      have hend:=run_endLoop (P:=P) hL (by rw[hC2];cases p<;>simp)
      have hCL:C2.L=wr.heap.size+1:=by rw[hC2]
      have hCB:C2.B0=upd C.B0 wr.heap.size (some (.deferred (some []))):=by rw[hC2]
      have hw4:=hw3.turn (r:=C2.L) (B':=C2.B0) (o':=.loop { C2.rc p with state:=.exhausted }) (upd_same _ _ _) rfl (fun j hj=>by rw[upd_ne _ _ _ hj]) (.inl (by rw[hCL,hCB,upd_ne _ _ _ (by omega)];exact hBs1))
      have hpend:(C2.rc p).pending=p:=by rw[hC2]
      replace hend:=hend.trans (congrArg (fun x=>Result.ok x (w3.putObj C2.L (.loop { C2.rc p with state:=.exhausted }))) hpend)
      rw[hCB] at hw4
      have hfin:∀ex,(∀ τ' B' a2' wr',τ.le τ'→EnvR τ' a (nd a2')→Fr P G w0 rd C τ0 none B' a2' .marked→WT G B' w0 τ' w' wr'→Q ex a2' wr')→Q ex { a' with defers:=[{ target:=.collected wr.heap.size,args:=#[] }]++a'.defers } (w3.putObj C2.L (.loop { C2.rc p with state:=.exhausted })):=by
       intro ex hq;refine hq τ' _ _ _ l1 ?_ ⟨rfl,wr.heap.size,hBs,?_,rfl⟩ hw4
       ·exact ha.mono l1
       ·show [_]++a'.defers=_
        rw[hd];rfl
      rw[hCL] at hend;refine⟨p,_,hend,?_⟩;rw[hCL] at hfin
      cases p with
      |none=>cases h;exact hfin _ hQ
      |some c=>
        cases c with
        |ret=>cases h;exact wpIn_ret (hfin _ hQ)
        |exit id=>cases h;exact wpIn_exit (hfin _ hQ)
        |goto l=>cases h;exact wpIn_goto (hfin _ hQ)
        |_=>cases h
theorem argsL_env {τ:Rel} {args args':Array Value} (hA:AR τ args args') (m:Nat):EnvR τ ⟨args.size+(m-args.size),argsL 0 args.toList⟩ ⟨args'++Array.replicate (m-args'.size) undef,[]⟩:=by
 refine⟨fun t u hu=>?_,?_,rfl⟩
 ·rw[argsL_look,if_pos (Nat.zero_le _),Nat.sub_zero,Array.getElem?_toList] at hu
  obtain⟨u',e,hv⟩:=hA.get hu;have hlt:=(Array.getElem?_eq_some_iff.1 e).1;rw[Array.getD_eq_getD_getElem?,Array.getElem?_append,if_pos hlt,e];exact hv
 ·simp[hA.1]
theorem argsL_env1 {τ:Rel} {args args':Array Value} (hA:AR τ args args') (y:Value) (m:Nat):EnvR τ ⟨1+args.size+(m-(1+args.size)),argsL 1 args.toList⟩ ⟨(#[y]++args')++Array.replicate (m-(#[y]++args').size) undef,[]⟩:=by
 refine⟨fun t u hu=>?_,?_,rfl⟩
 ·rw[argsL_look] at hu
  split at hu
  ·rename_i ht
   rw[Array.getElem?_toList] at hu;obtain⟨u',e,hv⟩:=hA.get hu;have hlt:=(Array.getElem?_eq_some_iff.1 e).1
   have:((#[y]++args')++Array.replicate (m-(#[y]++args').size) undef)[t]?=some u':=by
    rw[Array.getElem?_append,if_pos (by simp;omega),Array.getElem?_append,if_neg (by simp;omega)];exact e
   rw[Array.getD_eq_getD_getElem?,this];exact hv
  ·cases hu
 ·simp[hA.1];omega
theorem results_in {τ:Rel} {B:FM} {w0:World} {fn:Func} {e1:Env} {w1 wa2:TW} {v:Value} {tm:Array Value} {wr:World} (ha:EnvR τ e1 ⟨tm,[]⟩) (hhas:e1.has (resTmps fn)=true) (hr:runW P (results fn (e1.row (resTmps fn))) w1=some (v,wa2)) (hw:WT G B w0 τ w1 wr) :
 ∃ τ' v',(results fn tm).run P wr=.ok v' wr∧τ.le τ'∧VR τ' v v'∧WT G B w0 τ' wa2 wr:=by
 have hres:∀r∈fn.results,match r with|.tmp t=>VR τ ((e1.row (resTmps fn)).getD t undef) (tm.getD t undef)|.cell t _=>VR τ ((e1.row (resTmps fn)).getD t undef) (tm.getD t undef):=by
  intro r hrm
  cases r with
  |tmp t=>exact row_vr ha hhas t (by unfold resTmps;rw[List.mem_map];exact⟨.tmp t,by simpa using hrm,rfl⟩)
  |cell t x=>exact row_vr ha hhas t (by unfold resTmps;rw[List.mem_map];exact⟨.cell t x,by simpa using hrm,rfl⟩)
 obtain⟨H1,hR1,hw1⟩:=hw;obtain⟨u',hr1,hR2⟩:=runW_sound hr (u:=wOf H1) hR1;obtain⟨τ2,v',wr2,l2,h2,h3,h4⟩:=(sim_results fn hres).run (wa:=wOf H1) hw1 hr1;have e2:=(ro_results fn tm).same h2;subst e2;exact⟨τ2,v',h2,l2,h3,_,hR2,h4⟩
theorem evalX_sound {dr:EvF→DrawnT} (hdr:∀ev,EvOkT P G ev→DrOkW P G (dr ev)) {book:EvF} (hb:EvOkT P G book) (fuel:Nat):∀n,EvOkT P G (evFn P G dr book fuel n)∧EvIOk P G (evIt P G dr book fuel n):=by
 intro n
 induction n with
 |zero=>
   refine⟨fun f args wa v wa2 h=>?_,fun gf lb rd wa p wa2 h=>?_⟩
   ·unfold evFn evalX at h;cases h
   ·unfold evIt evalX at h;cases h
 |succ n ih=>
   obtain⟨ih1,ih2⟩:=ih
   have key:∀(rdo:Option Rd) (f:FuncId) (args:Array Value) (wa wa2:TW) (v:Value) (s:FSt),(rdo=none→book f args wa=none)→evalX P G dr book fuel (n+1) rdo f args wa=some (v,s,wa2) →
    ∃fn body ex e1 w1,P.funcs[f]?=some fn∧fn.body=some body∧(ex=.ret∨ex=.normal)∧e1.has (resTmps fn)=true∧runW P (results fn (e1.row (resTmps fn))) w1=some (v,wa2)∧((∃rd,rdo=some rd)→(fn.name == "runtime.NumGoroutine")=false) ∧
    evalCodeX P G (evFn P G dr book fuel n) (evIt P G dr book fuel n) (rdOf rdo) (dr (evFn P G dr book fuel n)) fuel body (stOf rdo) (envOf rdo fn args) wa=some (ex,s,e1,w1):=by
    intro rdo f args wa wa2 v s hbk h;unfold evalX at h;cases rdo
    all_goals
     first|rw[hbk rfl] at h|skip
     dsimp only at h
     split at h<;>first|(cases h;done)|skip
     rename_i fn hfn
     split at h<;>first|(cases h;done)|skip
     rename_i body hnm hbody
     split at h<;>first|(cases h;done)|skip
     all_goals
      rename_i s1 e1 w1 hc
      split at h<;>first|(cases h;done)|skip
      rename_i hhas
      split at h<;>first|(cases h;done)|skip
      rename_i v1 w2 hr;rw[forceV_eq] at h;cases h
    ·exact⟨fn,body,.ret,e1,w1,hfn,hbody,.inl rfl,hhas,hr,(fun hh=>by obtain⟨_,hh⟩:=hh;cases hh),hc⟩
    ·exact⟨fn,body,.normal,e1,w1,hfn,hbody,.inr rfl,hhas,hr,(fun hh=>by obtain⟨_,hh⟩:=hh;cases hh),hc⟩
    ·exact⟨fn,body,.ret,e1,w1,hfn,hbody,.inl rfl,hhas,hr,(fun _=>hnm),hc⟩
    ·exact⟨fn,body,.normal,e1,w1,hfn,hbody,.inr rfl,hhas,hr,(fun _=>hnm),hc⟩
   refine⟨fun f args wa v wa2 h B w0 τ args' wr hA hw=>?_,fun gf lb rd wa p wa2 h=>?_⟩
   ·unfold evFn at h
    cases hbk:book f args wa with
    |some x=>
      unfold evalX at h;rw[hbk] at h;obtain⟨v1,w1⟩:=x;cases h;exact hb f args wa v wa2 hbk B w0 τ args' wr hA hw
    |none=>
      have hx:∃s1,(s1=.fresh∨s1=.marked)∧evalX P G dr book fuel (n+1) none f args wa=some (v,s1,wa2):=by
       split at h
       ·rename_i v1 w1 hx
        cases h;exact⟨_,.inl rfl,hx⟩
       ·rename_i v1 w1 hx
        cases h;exact⟨_,.inr rfl,hx⟩
       ·cases h
      obtain⟨s1,hs1,hx⟩:=hx;obtain⟨fn,body,ex,e1,w1,hfn,hbody,hex,hhas,hr,hnm,hc⟩:=key none f args wa wa2 v s1 (fun _=>hbk) hx;refine(callsIn_W (r:=none) (n:=0)).1 (callsIn_of_wp_marks hfn hbody trivial ?_);refine evalCodeX_sound ih1 ih2 (hdr _ ih1) fuel body hc (a':={ tmps:=args'++Array.replicate (fn.ntmps-args'.size) undef,defers:=[] }) (C:={ B0:=B,L:=0,rc:=fun _=>default }) (τ0:=τ) (w0:=w0) (r:=none) (Rel.le.refl _) (argsL_env hA fn.ntmps) ⟨rfl,rfl,rfl⟩ hw ?_;intro τ' B' a2' wr' l1 ha2 hf2 hw2
      have fin:∀w3,WT G B w0 τ' w1 w3→LeavesInM (Wf none) 0 P fn a2'.tmps (fun e wr'=>∃ τ' v',e=.returned v'∧τ.le τ'∧VR τ' v v'∧WT G B w0 τ' wa2 wr') [] .returning w3:=by
       intro w3 hw3;obtain⟨τ2,v',g1,g2,g3,g4⟩:=results_in ha2 hhas hr hw3;exact⟨v',g1,τ2,v',rfl,l1.trans g2,g3,g4⟩
      have:LeavesInM (Wf none) 0 P fn a2'.tmps (fun e wr'=>∃ τ' v',e=.returned v'∧τ.le τ'∧VR τ' v v'∧WT G B w0 τ' wa2 wr') a2'.defers .returning wr':=by
       cases s1 with
       |fresh=>
         obtain⟨_,hd,rfl⟩:=hf2;rw[hd];exact fin _ hw2
       |marked=>
         obtain⟨_,D,hD,hd,rfl⟩:=hf2;rw[hd];have hDl:=hw2.at (j:=D) (upd_same _ _ _);refine⟨by simp,.inl ⟨D,_,rfl,run_takeDeferred hDl,fin _ ?_⟩⟩;exact hw2.turn (upd_same _ _ _) rfl (fun j hj=>by rw[upd_ne _ _ _ hj]) (.inl hD)
       |round=>obtain⟨⟨l,hl⟩,_⟩:=hf2;cases hl
       |iter ys p=>rcases hs1 with h|h<;>cases h
      rcases hex with rfl|rfl
      ·exact this
      ·exact this
   ·unfold evIt at h
    split at h<;>first|(cases h;done)|skip
    rename_i v1 ys1 p1 w1 hx;cases h;obtain⟨fn,body,ex,e1,w1,hfn,hbody,hex,hhas,hr,hnm,hc⟩:=key (some rd) gf lb wa wa2 v1 _ (fun hh=>by cases hh) hx;refine⟨⟨fn,body,hfn,hbody,hnm ⟨_,rfl⟩⟩,fun C τ w0 lb' wr hA hrd hw=>?_⟩;refine(callsIn_W (r:=none) (n:=0)).1 (callsIn_of_wp_marks hfn hbody trivial ?_);refine evalCodeX_sound ih1 ih2 (hdr _ ih1) fuel body hc (a':={ tmps:=(#[yv C.L]++lb')++Array.replicate (fn.ntmps-(#[yv C.L]++lb').size) undef,defers:=[] }) (C:=C) (τ0:=τ) (w0:=w0) (r:=none) (Rel.le.refl _) (argsL_env1 hA (yv C.L) fn.ntmps) ⟨rfl,rfl,rfl,?_,hrd⟩ hw ?_
    ·intro y hy
     have hy:y=0:=by simpa using hy
     subst hy;show ((#[yv C.L]++lb')++Array.replicate (fn.ntmps-(#[yv C.L]++lb').size) undef).getD 0 undef=yv C.L;rw[Array.getD_eq_getD_getElem?,Array.getElem?_append,if_pos (by simp;omega),Array.getElem?_append,if_pos (by simp)];rfl
    ·intro τ' B' a2' wr' l1 ha2 hf2 hw2
     obtain⟨_,hd,rfl,_,_⟩:=hf2;obtain⟨τ2,v',g1,g2,g3,g4⟩:=results_in ha2 hhas hr hw2
     have:LeavesInM (Wf none) 0 P fn a2'.tmps (fun e wr'=>∃v τ',e=.returned v∧τ.le τ'∧WT G (upd C.B0 C.L (some (.loop (C.rc p)))) w0 τ' wa2 wr') a2'.defers .returning wr':=by
      rw[hd];exact⟨v',g1,v',τ2,rfl,l1.trans g2,g4⟩
     rcases hex with rfl|rfl
     ·exact this
     ·exact this
end sound
section
variable {P:Program} {G:Gl}
def orB (a b:EvF):EvF:=fun f args w=>match a f args w with
 |some r=>some r
 |none=>b f args w
theorem orB_ok {a b:EvF} (ha:EvOkT P G a) (hb:EvOkT P G b):EvOkT P G (orB a b):=by
 intro f args wa v wa2 h;unfold orB at h;split at h
 ·rename_i r hr
  cases h;exact ha f args wa v wa2 hr
 ·exact hb f args wa v wa2 h
def noB:EvF:=fun _ _ _=>none
theorem noB_ok:EvOkT P G noB:=fun f args wa v wa2 h=>by cases h
noncomputable def dead0 (n:Nat):TW:=Nat.rec (motive:=fun _=>TW) ⟨.nil,0⟩ (fun _ w=>⟨T.set dead 16 w.t w.n,w.n+1⟩) n
theorem dead0_n:∀n,(dead0 n).n=n
 | 0=>rfl
 |n+1=>by
   show (dead0 n).n+1=_;rw[dead0_n n]
theorem dead0_rep:∀n,n≤65536→Rep (dead0 n) (Array.replicate n dead)
 | 0,_=>⟨T.ok_nil 16,rfl,fun k hk=>rfl,by decide⟩
 |n+1,h=>by
   have h1:=dead0_rep n (by omega);have h2:=h1.push (by rw[dead0_n];omega) dead;have:Array.replicate (n+1) dead=(Array.replicate n dead).push dead:=Array.replicate_succ;rw[this];exact h2
theorem closed_call {ev:EvF} (hev:EvOkT P G ev) (hG:G.n≤65536) {f:FuncId} {args:Array Value} {v:Value} {w1:TW} (ha:args.toList.all (AFb 10)=true) (hv:AFb 10 v=true) (h:ev f args (dead0 G.n)=some (v,w1)) {w:World} (hw:G.n≤w.heap.size) :
 Calls P f args w fun e w'=>e=.returned v∧Below w.heap.size w w':=by
 have hl:Laid G (Array.replicate G.n dead) w:=⟨by simp,hw,fun g o hg=>.inl (by
  rw[Array.getElem?_replicate] at hg
  split at hg<;>first|(cases hg;rfl)|cases hg)⟩
 have hA:AR (⟨fun k r i=>k=r∧k<G.n∧i=none,G.s⟩:Rel) args args:=AR.refl_of fun i u hu=>by
  refine AFb.vr 10 u (List.all_eq_true.1 ha u ?_);rw[←Array.getElem?_toList] at hu;exact List.mem_of_getElem? hu
 refine(hev f args (dead0 G.n) v w1 h _ w _ args w hA ⟨_,dead0_rep G hG,WR.start hl⟩).mono ?_;rintro e w' ⟨τ',v',rfl,_,hv',H,_,hw'⟩;exact⟨by rw[AFb.eq 10 v v' hv hv'],hw'.kp.below⟩
theorem WT.size (h0:0<G.n) {B:FM} {w0:World} {τ:Rel} {wa:TW} {wr:World} (h:WT G B w0 τ wa wr):G.n≤wr.heap.size:=by
 obtain⟨H,_,h⟩:=h;have:=(h.dom _ _ _ (h.glob (G.n-1) (by omega))).2.1;omega
theorem WT.belowed {B:FM} {w0:World} {τ:Rel} {wa:TW} {wr wr':World} (h:WT G B w0 τ wa wr) (hb:Below wr.heap.size wr wr'):WT G B w0 τ wa wr':=by
 obtain⟨H,hR,h⟩:=h;exact⟨H,hR,h.belowed hb⟩
def argsEq (a b:List Value):Bool:=leq (veq 20) a b
theorem argsEq_eq {a b:List Value} (h:argsEq a b=true):a=b:=leq_eq _ (veq_eq 20) _ _ h
structure Ent where
 f:Nat
 args:List Value
 v:Value
def Ent.ok (P:Program) (en:Ent):Prop:=∀(w:World),Calls P en.f ⟨en.args⟩ w fun e w'=>e=.returned en.v∧Below w.heap.size w w'
def EntOk (P:Program) (n:Nat) (en:Ent):Prop:=en.args.all (AFb 10)=true∧AFb 10 en.v=true∧∀(w:World),n≤w.heap.size→Calls P en.f ⟨en.args⟩ w fun e w'=>e=.returned en.v∧Below w.heap.size w w'
noncomputable def entB (l:List Ent):EvF:=fun f args w=>List.rec (motive:=fun _=>Option (Value×TW)) none (fun en _ ih=>match Nat.beq en.f f with
 |true=>match argsEq en.args args.toList with
   |true=>some (en.v,w)
   |false=>ih
 |false=>ih) l
theorem entB_ok (h0:0<G.n):∀(l:List Ent),(∀en∈l,EntOk P G.n en)→EvOkT P G (entB l)
 | [],h=>fun f args wa v wa2 h=>by cases h
 |en::l,h=>by
   have ih:=entB_ok h0 l (fun x hx=>h x (List.mem_cons_of_mem _ hx));intro f args wa v wa2 hb
   have hb:(match Nat.beq en.f f with
    |true=>match argsEq en.args args.toList with
      |true=>some (en.v,wa)
      |false=>entB l f args wa
    |false=>entB l f args wa)=some (v,wa2):=hb
   split at hb
   ·rename_i hf
    split at hb
    ·rename_i ha
     cases hb;have hf:=Nat.eq_of_beq_eq_true hf;have ha:=argsEq_eq ha;subst hf;obtain⟨h1,h2,h3⟩:=h en List.mem_cons_self;intro B w0 τ args' wr hA hw
     have e1:args=⟨en.args⟩:=by rw[ha]
     subst e1
     have e2:args'=⟨en.args⟩:=by
      refine(arr_eq hA.1 fun i u u' a b=>AFb.eq 10 u u' (List.all_eq_true.1 h1 u ?_) (hA.2 i u u' a b)).symm;exact List.mem_of_getElem? (by simpa using a)
     subst e2;refine(h3 wr (hw.size h0)).mono ?_;rintro e w' ⟨rfl,hbel⟩;exact⟨τ,en.v,rfl,Rel.le.refl _,AFb.vr 10 _ h2,hw.belowed hbel⟩
    ·exact ih f args wa v wa2 hb
   ·exact ih f args wa v wa2 hb
theorem ent_of {ev:EvF} (hev:EvOkT P G ev) (hG:G.n≤65536) {en:Ent} {w1:TW} (ha:en.args.all (AFb 10)=true) (hv:AFb 10 en.v=true) (h:ev en.f ⟨en.args⟩ (dead0 G.n)=some (en.v,w1)):EntOk P G.n en:=
 ⟨ha,hv,fun w hw=>closed_call hev hG (by simpa using ha) hv h hw⟩
noncomputable def ansIs (r:Option (Value×TW)) (v:Value):Bool:=match r with
 |some (u,_)=>veq 20 u v
 |none=>false
theorem ansIs_spec {r:Option (Value×TW)} {v:Value} (h:ansIs r v=true):∃w,r=some (v,w):=by
 unfold ansIs at h;split at h
 ·rename_i u w
  rw[veq_eq _ _ _ h];exact⟨w,rfl⟩
 ·cases h
theorem ent_is {ev:EvF} (hev:EvOkT P G ev) (hG:G.n≤65536) {en:Ent} (h:(en.args.all (AFb 10)&&(AFb 10 en.v&&ansIs (ev en.f ⟨en.args⟩ (dead0 G.n)) en.v))=true):EntOk P G.n en:=by
 rw[Bool.and_eq_true,Bool.and_eq_true] at h;obtain⟨w1,h1⟩:=ansIs_spec h.2.2;exact ent_of hev hG h.1 h.2.1 h1
structure Mem where
 f:Nat
 args:List Value
 w:TW
 v:Value
 w':TW
noncomputable def memB (l:List Mem):EvF:=fun f args w=>List.rec (motive:=fun _=>Option (Value×TW)) none (fun m _ ih=>match Nat.beq m.f f with
 |true=>match argsEq m.args args.toList&&(Nat.beq m.w.n w.n&&teq m.w.t w.t) with
   |true=>some (m.v,m.w')
   |false=>ih
 |false=>ih) l
def MemOk (P:Program) (G:Gl) (m:Mem):Prop:=∀B w0 τ args' wr,AR τ ⟨m.args⟩ args'→WT G B w0 τ m.w wr →
 Calls P m.f args' wr fun e wr'=>∃ τ' v',e=.returned v'∧τ.le τ'∧VR τ' m.v v'∧WT G B w0 τ' m.w' wr'
theorem memB_ok:∀(l:List Mem),(∀m∈l,MemOk P G m)→EvOkT P G (memB l)
 | [],h=>fun f args wa v wa2 h=>by cases h
 |m::l,h=>by
   have ih:=memB_ok l (fun x hx=>h x (List.mem_cons_of_mem _ hx));intro f args wa v wa2 hb
   have hb:(match Nat.beq m.f f with
    |true=>match argsEq m.args args.toList&&(Nat.beq m.w.n wa.n&&teq m.w.t wa.t) with
      |true=>some (m.v,m.w')
      |false=>memB l f args wa
    |false=>memB l f args wa)=some (v,wa2):=hb
   split at hb
   ·rename_i hf
    split at hb
    ·rename_i ha
     cases hb;have hf:=Nat.eq_of_beq_eq_true hf;rw[Bool.and_eq_true,Bool.and_eq_true] at ha
     have e1:args=⟨m.args⟩:=by rw[argsEq_eq ha.1]
     have e2:m.w=wa:=by
      obtain⟨⟨f,a,⟨t,n⟩,v,w'⟩,hh⟩:=(⟨m,rfl⟩:∃x,m=x);obtain⟨t2,n2⟩:=wa;subst hh;have h1:=Nat.eq_of_beq_eq_true ha.2.1;have h2:=teq_eq _ _ ha.2.2;dsimp only at h1 h2 ⊢;rw[h1,h2]
     subst hf e1 e2;exact h m List.mem_cons_self
    ·exact ih f args wa v wa2 hb
   ·exact ih f args wa v wa2 hb
theorem mem_of {ev:EvF} (hev:EvOkT P G ev) {m:Mem} (h:ev m.f ⟨m.args⟩ m.w=some (m.v,m.w')):MemOk P G m:=hev _ _ _ _ _ h
noncomputable def endIs (r:Option (Value×TW)) (v:Value) (w:TW):Bool:=match r with
 |some (u,w')=>veq 20 u v&&(Nat.beq w'.n w.n&&teq w'.t w.t)
 |none=>false
theorem endIs_spec {r:Option (Value×TW)} {v:Value} {w:TW} (h:endIs r v w=true):r=some (v,w):=by
 unfold endIs at h;split at h
 ·rename_i u w'
  rw[Bool.and_eq_true,Bool.and_eq_true] at h;obtain⟨t,n⟩:=w;obtain⟨t',n'⟩:=w';have h1:=Nat.eq_of_beq_eq_true h.2.1;have h2:=teq_eq _ _ h.2.2;dsimp only at h1 h2;rw[veq_eq _ _ _ h.1,h1,h2]
 ·cases h
theorem mem_is {ev:EvF} (hev:EvOkT P G ev) {m:Mem} (h:endIs (ev m.f ⟨m.args⟩ m.w) m.v m.w'=true):MemOk P G m:=mem_of hev (endIs_spec h)
end
end Go.Ev
