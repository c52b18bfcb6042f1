/- Regions that draw their order, reckoned in one order: the theorem. From the small closed world to whatever world: the start; and a block that a callee has left. Conditions: those that each statement shows. -/
import Derived.Test.YtkndlfdpmpdihaaGreatDoorY25
import Derived.Test.YtkndlfdpmpdihaaGreatDoorY07
namespace Go.Ev
open Go.RowKit
set_option linter.unusedVariables false
set_option linter.unusedSimpArgs false
section sound
variable {P:Program} {G:Gl} {ev:EvF}
theorem Ord.mono {ops:Array Oper} {l l2:Array Bool} (h:∀j,l.getD j false=true→l2.getD j false=true):∀ {p:List Nat},Ord ops l p→Ord ops l2 p
 | [],_=>trivial
 |x::p,⟨h1,h2,h3⟩=>⟨fun o ho ed hed hb=>⟨h _ (h1 o ho ed hed hb).1,(h1 o ho ed hed hb).2⟩,h2,Ord.mono h h3⟩
theorem Ord.filter {ops:Array Oper} {l:Array Bool} (q:Nat→Bool):∀ {p:List Nat},Ord ops l p→Ord ops l (p.filter q)
 | [],_=>trivial
 |x::p,⟨h1,h2,h3⟩=>by
   rw[List.filter_cons];split
   ·exact⟨h1,fun y hy=>h2 y (List.mem_filter.1 hy).1,Ord.filter q h3⟩
   ·exact Ord.filter q h3
theorem Ord.after {ops:Array Oper} {l:Array Bool}:∀ {p:List Nat},Ord ops l p→∀y∈p,∀o,ops[y]?=some o→∀ed∈o.after,Region.binds .any ed=true→l.getD ed.on false=true
 |x::p,⟨h1,h2,h3⟩,y,hy,o,ho,ed,hed,hb=>by
   rcases List.mem_cons.1 hy with rfl|hy
   ·exact(h1 o ho ed hed hb).1
   ·exact Ord.after h3 y hy o ho ed hed hb
def Kept (D0:List Nat) (f:Nat→Value) (a':Act):Prop:=∀d∈D0,a'.tmps.getD d undef=f d
theorem catchAll {ops:Array Oper} {listed:Array Bool} {pend:List Nat} {e:Env} {w:TW} {B:FM} {w0:World} {τ0:Rel} {Q:Exit→Act→World→Prop} {D0:List Nat} {f:Nat→Value} (hI:PI P G ops listed pend e w)
 (hD0:∀k∈pend,∀o,ops[k]?=some o→∀d∈D0,d∉o.looksAt ops∧o.dst≠some d) (F:Nat) {R0:List Nat}
 (h0:∀ τ a' wr,τ0.le τ→Kept D0 f a'→EnvD τ e a' D0→WT G B w0 τ w wr→wpAny P .any ops Q F listed a' wr)
 (h1:∀rem listed' τ a' wr,rem≠[]→(∀k∈rem,k∈R0)→(∀k∈rem,k∈pend)→rem.Nodup→Rl listed rem listed'→τ0.le τ→Kept D0 f a'→EnvD τ e a' (D0++dstsOf ops rem)→WT G B w0 τ w wr→∀j∈Region.ready .any ops listed',j∉rem →
  wpOp P ops Q j (wpAny P .any ops Q (F+rem.length-1) (listed'.setIfInBounds j true)) a' wr) :
 ∀(m:Nat) (rem:List Nat) (listed':Array Bool) (τ:Rel) (a':Act) (wr:World),rem.length=m→(∀k∈rem,k∈R0)→(∀k∈rem,k∈pend)→rem.Nodup→Rl listed rem listed'→τ0.le τ→Kept D0 f a'→EnvD τ e a' (D0++dstsOf ops rem)→WT G B w0 τ w wr→wpAny P .any ops Q (F+m) listed' a' wr:=by
 intro m
 induction m with
 |zero=>
   intro rem listed' τ a' wr hm h00 hsub hnd hR hl hk ha hw;have e0:=List.eq_nil_of_length_eq_zero hm;subst e0;rw[hR.nil];refine h0 τ a' wr hl hk ?_ hw
   have:D0++dstsOf ops []=D0:=by simp[dstsOf]
   rw[this] at ha;exact ha
 |succ m ih=>
   intro rem listed' τ a' wr hm h00 hsub hnd hR hl hk ha hw
   have hne:rem≠[]:=by rintro rfl;simp at hm
   refine⟨fun h=>absurd h (ready_ne hI hsub hR hne),fun j hj=>?_⟩
   by_cases hjr:j∈rem
   ·refine catchOne hI hsub hnd hR hD0 ha hw hj hjr ?_
    intro τ1 a1 wr1 l1 hk1 ha1 hw1;refine ih (rem.erase j) _ τ1 a1 wr1 ?_ (fun k hk=>h00 k (List.mem_of_mem_erase hk)) (fun k hk=>hsub k (List.mem_of_mem_erase hk)) (hnd.erase j) (hR.catch hnd (hI.lk j (hsub j hjr))) (hl.trans l1) (fun d hd=>(hk1 d hd).trans (hk d hd)) ha1 hw1;rw[List.length_erase_of_mem hjr,hm];rfl
   ·have:=h1 rem listed' τ a' wr hne h00 hsub hnd hR hl hk ha hw j hj hjr
    rw[hm] at this;exact this
theorem freshD_spec {ops:Array Oper} {pend:List Nat} {o:Oper} (h:freshD ops pend o=true) {k:Nat} (hk:k∈pend) {ok:Oper} (hok:ops[k]?=some ok) {d:Nat} (hd:o.dst=some d):ok.dst≠some d∧d∉ok.looksAt ops:=by
 unfold freshD at h;rw[hd] at h;have:=List.all_eq_true.1 h k hk;rw[hok] at this;dsimp only at this;simp only[Bool.and_eq_true,bne_iff_ne,ne_eq,Bool.not_eq_true',List.contains_eq_mem,decide_eq_false_iff_not] at this;exact this
theorem lookConf_spec {ops:Array Oper} {pend:List Nat} {o:Oper} (h:lookConf ops pend o=true) {k:Nat} (hk:k∈pend) {ok:Oper} (hok:ops[k]?=some ok):bindsOn o k=true∨∀d,ok.dst=some d→d∉o.looksAt ops:=by
 have:=List.all_eq_true.1 h k hk;rw[Bool.or_eq_true] at this;rcases this with h1|h1
 ·exact .inl h1
 ·refine .inr fun d hd=>?_
  rw[hok] at h1;dsimp only at h1;rw[hd] at h1;simpa using h1
theorem selfD_spec {ops:Array Oper} {o:Oper} (h:selfD ops o=true) {d:Nat} (hd:o.dst=some d):d∉o.looksAt ops:=by
 unfold selfD at h;rw[hd] at h;simpa using h
theorem Good.world {ops:Array Oper} {e:Env} {w:TW} {k:Nat} (h:Good P G ops e w k) (hp:pureK ops k=true) (w':TW):Good P G ops e w' k:=by
 obtain⟨o,u,ho,hs,hf,hq,hl⟩:=h;refine⟨o,u,ho,hs,hf,?_,hl⟩;unfold pureK at hp;rw[ho] at hp;simp only[Bool.and_eq_true,Bool.not_eq_true'] at hp
 have e1:quietT P G w' e o=quietT P G w e o:=by
  unfold quietT;rw[fastQ_world (by rw[hp.1]) w' w];unfold quietT0;rw[hp.1];dsimp only;unfold stillOpT;simp only[execQ_eq]
  have:∀x:TW,cutT x e.eval o=true:=by
   intro x;unfold cutT;split
   ·rename_i hop
    rw[hop] at hp;cases hp.2
   ·rfl
  simp only[this]
 rw[e1];exact hq
theorem PI.more {ops:Array Oper} {listed:Array Bool} {pend:List Nat} {e:Env} {w:TW} {i:Nat} {o:Oper} {v:Value} (hI:PI P G ops listed pend e w) (hi:i∈Region.ready .any ops listed) (ho:ops[i]?=some o) (hs:noSel o=true) (hself:selfD ops o=true) (hfr:freshD ops pend o=true) (hlc:lookConf ops pend o=true)
 (hf:e.fits o.dst=true) (hq:(wantedE ops e o=some true∧quietT P G w e o=some v)∨(wantedE ops e o=some false∧v=undef)):PI P G ops (listed.setIfInBounds i true) (i::pend) (e.put o.dst v) w:=by
 obtain⟨hun,o2,ho2,hall⟩:=mem_ready.1 hi;rw[ho] at ho2;cases ho2;have hlt:=lt_of_getD' hun;have hmono:∀j,listed.getD j false=true→(listed.setIfInBounds i true).getD j false=true:=fun j hj=>getD_set_true hj
 have hni:∀j,listed.getD j false=true→j≠i:=fun j hj e=>by
  subst e;rw[getD_in hlt false true,hun] at hj;cases hj
 have hself':∀t,o.dst=some t→t∉o.looksAt ops:=fun t ht=>selfD_spec hself ht;refine⟨fun k hk=>?_,fun k hk=>?_,?_,fun k hk m hm ok om hok hom=>?_,fun k hk m hm hne ok om hok hom d hd=>?_⟩
 ·rcases List.mem_cons.1 hk with rfl|hk
  ·refine⟨o,v,ho,hs,?_,?_,fun d hd=>?_⟩
   ·cases hd:o.dst with
    |none=>rfl
    |some d=>rw[hd] at hf;exact hf
   ·rw[wantedE_congr hself',quietT_congr hs (eval_put hself')];exact hq
   ·rw[hd,look_put,if_pos rfl]
  ·exact(hI.good k hk).put fun ok hok t ht=>⟨(freshD_spec hfr hk hok ht).2,(freshD_spec hfr hk hok ht).1⟩
 ·rcases List.mem_cons.1 hk with rfl|hk
  ·rw[getD_set hlt,if_pos rfl]
  ·exact hmono k (hI.lk k hk)
 ·refine⟨fun o2 ho2 ed hed hb=>?_,fun y hy oy hoy=>?_,hI.ord.mono hmono⟩
  ·rw[ho] at ho2;cases ho2
   exact⟨hmono _ (hall ed hed hb),hni _ (hall ed hed hb)⟩
  ·cases hb:bindsOn oy i with
   |false=>rfl
   |true=>
     obtain⟨ed,q1,q2,q3⟩:=bindsOn_spec hb;exact absurd q3 (hni _ (hI.ord.after y hy oy hoy ed q1 q2))
 ·rcases List.mem_cons.1 hk with rfl|hk2
  ·rw[ho] at hok;cases hok
   rcases List.mem_cons.1 hm with rfl|hm2
   ·rw[ho] at hom;cases hom
    exact .inr hself'
   ·exact lookConf_spec hlc hm2 hom
  ·rcases List.mem_cons.1 hm with rfl|hm2
   ·rw[ho] at hom;cases hom
    exact .inr fun d hd=>(freshD_spec hfr hk2 hok hd).2
   ·exact hI.conf k hk2 m hm2 ok om hok hom
 ·rcases List.mem_cons.1 hk with rfl|hk2
  ·rw[ho] at hok;cases hok
   rcases List.mem_cons.1 hm with rfl|hm2
   ·exact absurd rfl hne
   ·intro h
    exact(freshD_spec hfr hm2 hom h).1 hd
  ·rcases List.mem_cons.1 hm with rfl|hm2
   ·rw[ho] at hom;cases hom
    exact(freshD_spec hfr hk2 hok hd).1
   ·exact hI.dis k hk2 m hm2 hne ok om hok hom d hd
theorem PI.less {ops:Array Oper} {listed:Array Bool} {pend:List Nat} {e e2:Env} {w w2:TW} {r:Nat} (hI:PI P G ops listed pend e w) (q:Nat→Bool) (hg:∀k∈pend.filter q,Good P G ops e2 w2 k):PI P G ops (listed.setIfInBounds r true) (pend.filter q) e2 w2:=by
 have hs:∀k∈pend.filter q,k∈pend:=fun k hk=>(List.mem_filter.1 hk).1;exact⟨hg,fun k hk=>getD_set_true (hI.lk k (hs k hk)),(hI.ord.filter q).mono (fun j hj=>getD_set_true hj),fun k hk m hm=>hI.conf k (hs k hk) m (hs m hm),fun k hk m hm=>hI.dis k (hs k hk) m (hs m hm)⟩
theorem set_comm (a:Array Bool) (i j:Nat):(a.setIfInBounds i true).setIfInBounds j true=(a.setIfInBounds j true).setIfInBounds i true:=by
 apply Array.ext_getElem?;intro k;simp only[Array.getElem?_setIfInBounds,Array.size_setIfInBounds]
 by_cases h1:j=k<;>by_cases h2:i=k<;>simp[h1,h2]
structure IsAl (P:Program) (ops:Array Oper) (a d:Nat) (t:TypeId) (z:Value):Prop where
 op:∃o,ops[a]?=some o∧o.op=.alloc t∧o.dst=some d∧o.guard=none
 zero:∃i,P.info? t=some i∧i.zero=some z∧AFb 10 z=true
 off:∀j o,ops[j]?=some o→j≠a→(bindsOn o a=true∨d∉o.looksAt ops)∧o.dst≠some d
theorem allocOk_spec {ops:Array Oper} {a:Nat} (h:allocOk P ops a=true):∃d t z,IsAl P ops a d t z:=by
 unfold allocOk at h
 split at h<;>first|(cases h;done)|skip
 rename_i o ho
 split at h<;>first|(cases h;done)|skip
 rename_i t d hop hd hg;rw[Bool.and_eq_true] at h;obtain⟨h1,h2⟩:=h
 have hz:∃i z,P.info? t=some i∧i.zero=some z∧AFb 10 z=true:=by
  unfold zeroIs at h1
  split at h1<;>first|(cases h1;done)|skip
  rename_i i hi
  split at h1<;>first|(cases h1;done)|skip
  rename_i z hz;exact⟨i,z,hi,hz,h1⟩
 obtain⟨i,z,q1,q2,q3⟩:=hz;refine⟨d,t,z,⟨o,ho,hop,hd,hg⟩,⟨i,q1,q2,q3⟩,fun j oj hoj hne=>?_⟩;have hlt:=(Array.getElem?_eq_some_iff.1 hoj).1;have:=List.all_eq_true.1 h2 j (List.mem_range.2 hlt);rw[Bool.or_eq_true] at this;rcases this with e|e
 ·exact absurd (Nat.eq_of_beq_eq_true e) hne
 ·rw[hoj] at e
  simp only[Bool.and_eq_true,Bool.or_eq_true,bne_iff_ne,ne_eq,Bool.not_eq_true',List.contains_eq_mem,decide_eq_false_iff_not] at e;exact e
theorem effOf_spec {ops:Array Oper} {l:List Nat} {r:Nat} {x:Option Nat} (h:effOf P ops l=some (r,x)):r∈l∧(∀j∈l,j=r∨x=some j)∧∀a,x=some a→a∈l∧a≠r∧allocOk P ops a=true∧afterBoth ops a r=true:=by
 unfold effOf at h
 split at h<;>first|(cases h;done)|skip
 ·cases h
  exact⟨by simp,fun j hj=>.inl (by simpa using hj),fun a ha=>by cases ha⟩
 ·rename_i u v
  split at h<;>first|(cases h;done)|skip
  rename_i hne
  have hne:u≠v:=fun e=>by rw[e,Nat.beq_refl] at hne;cases hne
  split at h
  ·rename_i hc
   rw[Bool.and_eq_true] at hc;cases h;refine⟨by simp,fun j hj=>?_,fun a ha=>?_⟩
   ·rcases List.mem_cons.1 hj with rfl|hj
    ·exact .inr rfl
    ·exact .inl (by simpa using hj)
   ·cases ha;exact⟨by simp,hne,hc⟩
  ·split at h<;>first|(cases h;done)|skip
   rename_i hc;rw[Bool.and_eq_true] at hc;cases h;refine⟨by simp,fun j hj=>?_,fun a ha=>?_⟩
   ·rcases List.mem_cons.1 hj with rfl|hj
    ·exact .inl rfl
    ·have hjv:j=v:=by simpa using hj
     exact .inr (by rw[hjv])
   ·cases ha;exact⟨by simp,fun e=>hne e.symm,hc⟩
theorem afterBoth_spec {ops:Array Oper} {a r:Nat} (h:afterBoth ops a r=true) {j:Nat} {o:Oper} (ho:ops[j]?=some o) (hb:bindsOn o a=true):bindsOn o r=true:=by
 have hlt:=(Array.getElem?_eq_some_iff.1 ho).1;have:=List.all_eq_true.1 h j (List.mem_range.2 hlt);rw[ho] at this;dsimp only at this;rw[hb] at this;simpa using this
theorem run_alloc {t:TypeId} {i:TypeInfo} {z:Value} (hi:P.info? t=some i) (hz:i.zero=some z) (w:World):(Instr.alloc t true (.tuple #[])).run P w=.ok (.pointer (some ⟨w.heap.size,0,none⟩)) (w.alloc (.cells z.cells t)):=by
 simp only[Instr.alloc,Sem.run_bind,run_zero hi hz,Result.andThen_ok,newVar,newRow,newObj,Sem.run];rfl
theorem stepV_alloc {ev:EvF} {o:Oper} {t:TypeId} {e:Env} {w w':TW} {v z:Value} {i:TypeInfo} (hop:o.op=.alloc t) (hi:P.info? t=some i) (hz:i.zero=some z) (h:stepV P G (specT P) ev o e w=some (v,w')) :
 v=.pointer (some ⟨w.n,0,none⟩)∧w.n<65536∧w'=⟨T.set (.cells z.cells t (0,0)) 16 w.t w.n,w.n+1⟩:=by
 have h:=stepV_eq (show stepVq P G (specT P) ev o e w=some (v,w') from by
  rcases stepV_split h with⟨h1,_⟩|h
  ·unfold symQ symQ0 at h1
   rw[hop] at h1;cases h1
  ·exact h)
 obtain⟨dst,op,type,pos,after,guard⟩:=o;dsimp only at hop;subst hop;have hopr:(({ dst,op:=.alloc t,type,pos,after,guard }:Oper).op.operands)=#[]:=rfl
 have hz1:still P (zeroValue t)=some z:=by
  have h1:still P (typeInfo t)=some i:=by
   unfold typeInfo;rw[still_bind_of (a:=P) rfl,hi];try rfl
  unfold zeroValue;rw[still_bind_of h1,hz];try rfl
 have hexec:execOp e.eval { dst,op:=.alloc t,type,pos,after,guard }=(do pure (Next.value (←Instr.alloc t true (.tuple #[])))):=rfl
 have hrun:∀w:TW,runW P (execOp e.eval { dst,op:=.alloc t,type,pos,after,guard }) w=(match Nat.blt w.n 65536 with
  |true=>w.pushK (.cells z.cells t (0,0)) fun w'=>some (.value (.pointer (some ⟨w.n,0,none⟩)),w')
  |false=>none):=by
  intro w;rw[hexec];have hal:Instr.alloc t true (.tuple #[])=(zeroValue t >>= fun zero=>newVar t zero >>= fun a=>pure (.pointer (some a))):=rfl;rw[hal]
  have hb:∀ {α β:Type} {s:Sem α} {f:α→Sem β} {a:α},still P s=some a→runW P (s >>= f) w=runW P (f a) w:=by
   intro α β s f a
   induction s with
   |pure b=>intro h;simp only[still,Option.some.injEq] at h;rw[←h];rfl
   |program k ih=>intro h;exact ih P h
   |mark m k ih=>intro h;exact ih h
   |_=>intro h;simp[still] at h
  have e1:(do pure (Next.value (←(zeroValue t >>= fun zero=>newVar t zero >>= fun a=>pure (.pointer (some a))))))=(zeroValue t >>= fun zero=>((newVar t zero >>= fun a=>pure (.pointer (some a))) >>= fun v=>pure (Next.value v)):Sem Next):=by
   simp only[bind_assoc]
  rw[e1,hb hz1];rfl
 unfold stepV0 evalOpT at h;rw[hopr] at h
 have e2:evalAF P e.eval { dst,op:=.alloc t,type,pos,after,guard }=none:=by
  unfold evalAF;simp only[execQ_eq];rw[hopr];split
  ·have:still P (execOp e.eval { dst,op:=.alloc t,type,pos,after,guard })=none:=by
    rw[hexec];have hal:Instr.alloc t true (.tuple #[])=(zeroValue t >>= fun zero=>newVar t zero >>= fun a=>pure (.pointer (some a))):=rfl;rw[hal]
    have e1:(do pure (Next.value (←(zeroValue t >>= fun zero=>newVar t zero >>= fun a=>pure (.pointer (some a))))))=(zeroValue t >>= fun zero=>((newVar t zero >>= fun a=>pure (.pointer (some a))) >>= fun v=>pure (Next.value v)):Sem Next):=by
     simp only[bind_assoc]
    rw[e1,still_bind_of hz1];rfl
   have hx:execC (Op.alloc t) type e.eval=execOp e.eval { dst,op:=.alloc t,type,pos,after,guard }:=execQ_eq e.eval { dst,op:=.alloc t,type,pos,after,guard };rw[hx,this]
  ·rfl
 have e0:(#[]:Array Operand).toList.all (e.ok G)=true:=rfl;rw[if_pos e0,e2] at h;dsimp only at h;split at h
 ·rename_i v1 w1 hs
  rw[forceV_eq] at h;cases h;split at hs
  ·have hs:runW P (execOp e.eval { dst,op:=.alloc t,type,pos,after,guard }) w=_:=hs
   rw[hrun] at hs
   split at hs<;>first|(cases hs;done)|skip
   rename_i hlt;simp only[TW.pushK,forceObj_eq,T.setK_eq,forceNat_eq,Option.some.injEq,Prod.mk.injEq,Next.value.injEq] at hs;obtain⟨rfl,rfl⟩:=hs;exact⟨rfl,by simpa[Nat.blt_eq] using hlt,rfl⟩
  ·have hs:specT P e.eval { dst,op:=.alloc t,type,pos,after,guard } w=_:=hs
   unfold specT specA at hs;cases hs
 ·rename_i w1 hs
  exfalso;split at hs
  ·have hs:runW P (execOp e.eval { dst,op:=.alloc t,type,pos,after,guard }) w=_:=hs
   rw[hrun] at hs
   split at hs<;>first|(cases hs;done)|skip
   simp only[TW.pushK,forceObj_eq,T.setK_eq,forceNat_eq,Option.some.injEq,Prod.mk.injEq] at hs;cases hs.1
  ·have hs:specT P e.eval { dst,op:=.alloc t,type,pos,after,guard } w=_:=hs
   unfold specT specA at hs;cases hs
 ·rename_i f args w1 hs
  exfalso;split at hs
  ·have hs:runW P (execOp e.eval { dst,op:=.alloc t,type,pos,after,guard }) w=_:=hs
   rw[hrun] at hs
   split at hs<;>first|(cases hs;done)|skip
   simp only[TW.pushK,forceObj_eq,T.setK_eq,forceNat_eq,Option.some.injEq,Prod.mk.injEq] at hs;cases hs.1
  ·have hs:specT P e.eval { dst,op:=.alloc t,type,pos,after,guard } w=_:=hs
   unfold specT specA at hs;cases hs
 ·cases h
theorem EnvD.over {τ:Rel} {e:Env} {a':Act} {D:List Nat} (x:EnvD τ e a' D) (d:Nat) (v:Value):EnvD τ e (a'.put (some d) v) (d::D):=by
 refine⟨fun t u hu ht=>?_,by simp[Act.put,x.size],x.d'⟩;have hne:d≠t:=fun e=>ht (by rw[e];exact List.mem_cons_self);simp only[Act.put,Array.getD_eq_getD_getElem?];rw[Array.getElem?_setIfInBounds_ne hne,←Array.getD_eq_getD_getElem?];exact x.tmps t u hu (fun h=>ht (List.mem_cons_of_mem _ h))
structure AOk (P:Program) (G:Gl) (ops:Array Oper) (listed:Array Bool) (B:FM) (w0:World) (a d r0:Nat) (t:TypeId) (z:Value) (rem:List Nat) (listed':Array Bool) (τ:Rel) (e:Env) (w:TW) (a':Act) (wr:World):Prop where
 al:IsAl P ops a d t z
 ready:a∈Region.ready .any ops listed
 ok:allocOk P ops a=true
 fr:B r0=none
 nw:w0.heap.size≤r0
 tm:d<e.n→a'.tmps.getD d undef=.pointer (some ⟨r0,0,none⟩)
 nb:∀k∈rem,∀o,ops[a]?=some o→bindsOn o k=false
 rl:Rl (listed.setIfInBounds a true) rem listed'
 ev:EnvD τ e a' (d::dstsOf ops rem)
 wt:WT G (upd B r0 (some (.cells z.cells t (0,0)))) w0 τ w wr
theorem PI.listed {ops:Array Oper} {listed:Array Bool} {pend:List Nat} {e:Env} {w:TW} (hI:PI P G ops listed pend e w) (a:Nat):PI P G ops (listed.setIfInBounds a true) pend e w:=
 ⟨hI.good,fun k hk=>getD_set_true (hI.lk k hk),hI.ord.mono (fun j hj=>getD_set_true hj),hI.conf,hI.dis⟩
theorem IsAl.d0 {ops:Array Oper} {listed:Array Bool} {pend:List Nat} {e:Env} {w:TW} {a d:Nat} {t:TypeId} {z:Value} (h:IsAl P ops a d t z) (hI:PI P G ops listed pend e w) (hun:listed.getD a true=false):∀k∈pend,∀o,ops[k]?=some o→∀x∈[d],x∉o.looksAt ops∧o.dst≠some x:=by
 intro k hk o ho x hx
 have hx:x=d:=by simpa using hx
 subst hx
 have hne:k≠a:=fun e=>by
  have:=hI.lk k hk;rw[e,getD_in (lt_of_getD' hun) false true,hun] at this;cases this
 obtain⟨h1,h2⟩:=h.off k o ho hne;refine⟨?_,h2⟩;rcases h1 with h1|h1
 ·obtain⟨ed,q1,q2,q3⟩:=bindsOn_spec h1
  have:=hI.ord.after k hk o ho ed q1 q2;rw[q3,getD_in (lt_of_getD' hun) false true,hun] at this;cases this
 ·exact h1
theorem evalP_sound (hev:EvOkT P G ev) {ops:Array Oper} (hns:Region.noSelect ops=true):∀(n:Nat) {listed:Array Bool} {pend:List Nat} {e e2:Env} {w w2:TW},evalP P G ev ops n listed pend e w=some (e2,w2)→PI P G ops listed pend e w →
 ∀ {B:FM} {w0:World} {τ0:Rel} {Q:Exit→Act→World→Prop},(∀ τ' a2' wr',τ0.le τ'→EnvR τ' e2 a2'→WT G B w0 τ' w2 wr'→Q .normal a2' wr') →
 (∀(rem:List Nat) (listed':Array Bool) (τ:Rel) (a':Act) (wr:World),(∀k∈rem,k∈pend)→rem.Nodup→Rl listed rem listed'→τ0.le τ→EnvD τ e a' (dstsOf ops rem)→WT G B w0 τ w wr→wpAny P .any ops (QN Q) (n+rem.length) listed' a' wr) ∧
 (∀(a d r0:Nat) (t:TypeId) (z:Value) (rem:List Nat) (listed':Array Bool) (τ:Rel) (a':Act) (wr:World),(∀k∈rem,k∈pend)→rem.Nodup→τ0.le τ→AOk P G ops listed B w0 a d r0 t z rem listed' τ e w a' wr→wpAny P .any ops (QN Q) (n+rem.length-1) listed' a' wr):=by
 intro n
 induction n with
 |zero=>
   intro listed pend e e2 w w2 h hI B w0 τ0 Q hQ;unfold evalP at h
   split at h<;>first|(cases h;done)|skip
   rename_i he;cases h
   have he:Region.ready .any ops listed=[]:=by simpa using he
   refine⟨fun rem listed' τ a' wr hsub hnd hR hl ha hw=>?_,fun a d r0 t z rem listed' τ a' wr hsub hnd hl hA=>?_⟩
   ·refine catchAll (D0:=[]) (f:=fun _=>undef) (R0:=rem) hI (fun k hk o ho d hd=>by cases hd) 0 (fun τ a' wr hl _ ha hw=>wpAny_done (Q:=QN Q) he (hQ τ _ _ hl ha.all hw) 0) ?_ _ rem listed' τ a' wr rfl (fun k hk=>hk) hsub hnd hR hl (fun d hd=>by cases hd) ha hw
    intro rem listed' τ a' wr hne _ hsub hnd hR hl _ ha hw j hj hjr;have:=ready_sub hR hj hjr;rw[he] at this;cases this
   ·have:=hA.ready
    rw[he] at this;cases this
 |succ n ih=>
   intro listed pend e e2 w w2 h hI B w0 τ0 Q hQ;unfold evalP at h;split at h
   ·rename_i he
    cases h;refine⟨fun rem listed' τ a' wr hsub hnd hR hl ha hw=>?_,fun a d r0 t z rem listed' τ a' wr hsub hnd hl hA=>?_⟩
    ·refine catchAll (D0:=[]) (f:=fun _=>undef) (R0:=rem) hI (fun k hk o ho d hd=>by cases hd) (n+1) (fun τ a' wr hl _ ha hw=>wpAny_done (Q:=QN Q) he (hQ τ _ _ hl ha.all hw) (n+1)) ?_ _ rem listed' τ a' wr rfl (fun k hk=>hk) hsub hnd hR hl (fun d hd=>by cases hd) ha hw
     intro rem listed' τ a' wr hne _ hsub hnd hR hl _ ha hw j hj hjr;have:=ready_sub hR hj hjr;rw[he] at this;cases this
    ·have:=hA.ready
     rw[he] at this;cases this
   ·rename_i r rs he
    split at h
    ·rename_i i hp
     obtain⟨hmem,o,ho,hqk,hs,hself,hfr,hlc⟩:=pickP_spec hp
     have hi:i∈Region.ready .any ops listed:=by rw[he];exact hmem
     have hun:=(mem_ready.1 hi).1;rw[ho] at h;dsimp only at h
     have go:∀v,e.fits o.dst=true→((wantedE ops e o=some true∧quietT P G w e o=some v)∨(wantedE ops e o=some false∧v=undef))→evalP P G ev ops n (listed.setIfInBounds i true) (i::pend) (e.put o.dst v) w=some (e2,w2) →
      (∀(rem:List Nat) (listed':Array Bool) (τ:Rel) (a':Act) (wr:World),(∀k∈rem,k∈pend)→rem.Nodup→Rl listed rem listed'→τ0.le τ→EnvD τ e a' (dstsOf ops rem)→WT G B w0 τ w wr→wpAny P .any ops (QN Q) (n+1+rem.length) listed' a' wr) ∧
      (∀(a d r0:Nat) (t:TypeId) (z:Value) (rem:List Nat) (listed':Array Bool) (τ:Rel) (a':Act) (wr:World),(∀k∈rem,k∈pend)→rem.Nodup→τ0.le τ→AOk P G ops listed B w0 a d r0 t z rem listed' τ e w a' wr→wpAny P .any ops (QN Q) (n+1+rem.length-1) listed' a' wr):=by
      intro v hf hq h;obtain⟨ih1,ih2⟩:=ih h (hI.more hi ho hs hself hfr hlc hf hq) hQ
      have hir:∀rem:List Nat,(∀k∈rem,k∈pend)→i∉rem:=fun rem hsub hr=>by
       have:=hI.lk i (hsub i hr);rw[getD_in (lt_of_getD' hun) false true,hun] at this;cases this
      have hsub':∀rem:List Nat,(∀k∈rem,k∈pend)→∀k∈i::rem,k∈i::pend:=by
       intro rem hsub k hk;rcases List.mem_cons.1 hk with rfl|hk
       ·exact List.mem_cons_self
       ·exact List.mem_cons_of_mem _ (hsub k hk)
      refine⟨fun rem listed' τ a' wr hsub hnd hR hl ha hw=>?_,fun a d r0 t z rem listed' τ a' wr hsub hnd hl hA=>?_⟩
      ·have:=ih1 (i::rem) listed' τ a' wr (hsub' rem hsub) (List.nodup_cons.2 ⟨hir rem hsub,hnd⟩) (hR.ahead hun) hl (ha.ahead o.dst v ?_ ?_) hw
       ·rw[List.length_cons] at this
        rw[show n+1+rem.length=n+(rem.length+1) by omega];exact this
       ·intro t ht
        exact mem_dsts.2 ⟨i,List.mem_cons_self,o,ho,ht⟩
       ·intro t ht
        obtain⟨m,hm,om,h1,h2⟩:=mem_dsts.1 ht;exact mem_dsts.2 ⟨m,List.mem_cons_of_mem _ hm,om,h1,h2⟩
      ·have hia:i≠a:=by
        rintro rfl;obtain⟨oa,q1,q2,_⟩:=hA.al.op;rw[ho] at q1;cases q1;unfold quietKind at hqk;rw[q2] at hqk;cases hqk
       obtain⟨una,oa,hoa,halla⟩:=mem_ready.1 hA.ready
       have hiA:(listed.setIfInBounds a true).getD i true=false:=by
        rw[getD_set_ne true (fun e=>hia e.symm)];exact hun
       have:=ih2 a d r0 t z (i::rem) listed' τ a' wr (hsub' rem hsub) (List.nodup_cons.2 ⟨hir rem hsub,hnd⟩) hl
        { al:=hA.al,ok:=hA.ok,fr:=hA.fr,nw:=hA.nw,wt:=hA.wt
          ready:=mem_ready.2 ⟨by rw[getD_set_ne true hia];exact una,oa,hoa,fun ed q1 q2=>getD_set_true (halla ed q1 q2)⟩
          tm:=by
           intro hd;refine hA.tm ?_
           cases hdst:o.dst with
           |none=>rw[hdst] at hd;exact hd
           |some x=>rw[hdst] at hd;exact hd
          nb:=by
           intro k hk o2 ho2;rcases List.mem_cons.1 hk with rfl|hk
           ·cases hb:bindsOn o2 k with
            |false=>rfl
            |true=>
              rw[hoa] at ho2;cases ho2;obtain⟨ed,q1,q2,q3⟩:=bindsOn_spec hb;have:=halla ed q1 q2;rw[q3,getD_in (lt_of_getD' hun) false true,hun] at this;cases this
           ·exact hA.nb k hk o2 ho2
          rl:=by rw[set_comm];exact hA.rl.ahead hiA
          ev:=hA.ev.ahead o.dst v (fun t ht=>List.mem_cons_of_mem _ (mem_dsts.2 ⟨i,List.mem_cons_self,o,ho,ht⟩)) (fun t ht=>by
           rcases List.mem_cons.1 ht with rfl|ht
           ·exact List.mem_cons_self
           ·obtain⟨m,hm,om,h1,h2⟩:=mem_dsts.1 ht
            exact List.mem_cons_of_mem _ (mem_dsts.2 ⟨m,List.mem_cons_of_mem _ hm,om,h1,h2⟩)) }
       rw[List.length_cons] at this;rw[show n+1+rem.length-1=n+(rem.length+1)-1 by omega];exact this
     split at h
     ·rename_i hf hwt
      split at h<;>first|(cases h;done)|skip
      rename_i v hq;simp only[forceV_eq,forceB_eq,putK_eq] at h;exact go v hf (.inl ⟨hwt,hq⟩) h
     ·rename_i hf hwt
      simp only[forceB_eq,putK_eq] at h;exact go undef hf (.inr ⟨hwt,rfl⟩) h
     ·cases h
    ·split at h
     ·rename_i r x hef
      obtain⟨hrm,hrl,hal⟩:=effOf_spec hef;rw[←he] at hrm hrl hal
      split at h<;>first|(cases h;done)|skip
      rename_i o ho
      split at h<;>first|(cases h;done)|skip
      rename_i hc;rw[Bool.and_eq_true,Bool.and_eq_true] at hc;obtain⟨hlc,hfr0,hf⟩:=hc
      split at h<;>first|(cases h;done)|skip
      rename_i v w' hstep;simp only[forceB_eq,putK_eq,spine_eq] at h
      split at h<;>first|(cases h;done)|skip
      rename_i hgood;have hun:=(mem_ready.1 hrm).1
      have hI':PI P G ops (listed.setIfInBounds r true) (pend.filter fun k=>!(bindsOn o k)) (e.put o.dst v) w':=hI.less _ (fun k hk=>by
       by_cases hp:pureK ops k=true
       ·obtain⟨hkp,_⟩:=List.mem_filter.1 hk
        exact((hI.good k hkp).put fun ok hok t ht=>⟨(freshD_spec hfr0 hk hok ht).2,(freshD_spec hfr0 hk hok ht).1⟩).world hp w'
       ·exact goodB_spec (List.all_eq_true.1 hgood k (List.mem_filter.2 ⟨hk,by simpa using hp⟩)))
      obtain⟨ih1,ih2⟩:=ih h hI' hQ;have hsubf:∀(rem:List Nat) (listed' listedX:Array Bool),(∀k∈rem,k∈pend)→Rl listedX rem listed'→r∈Region.ready .any ops listed'→∀k∈rem,k∈pend.filter fun k=>!(bindsOn o k):=fun rem listed' listedX hsub hR hj k hk=>List.mem_filter.2 ⟨hsub k hk,by rw[no_rem hR ho hj hk];rfl⟩
      have hrr:∀rem:List Nat,(∀k∈rem,k∈pend)→r∉rem:=fun rem hsub hr=>by
       have:=hI.lk r (hsub r hr);rw[getD_in (lt_of_getD' hun) false true,hun] at this;cases this
      have hDr:∀(rem:List Nat) (listed' listedX:Array Bool),(∀k∈rem,k∈pend)→Rl listedX rem listed'→r∈Region.ready .any ops listed'→∀t∈o.looksAt ops,t∉dstsOf ops rem:=by
       intro rem listed' listedX hsub hR hj t ht hd;obtain⟨m,hm,om,hom,hdm⟩:=mem_dsts.1 hd;rcases lookConf_spec hlc (hsub m hm) hom with hb|hb
       ·rw[no_rem hR ho hj hm] at hb;cases hb
       ·exact hb t hdm ht
      have stageA:∀(a d r0:Nat) (t:TypeId) (z:Value) (rem:List Nat) (listed':Array Bool) (τ:Rel) (a':Act) (wr:World),(∀k∈rem,k∈pend)→rem.Nodup→τ0.le τ→AOk P G ops listed B w0 a d r0 t z rem listed' τ e w a' wr→wpAny P .any ops (QN Q) (n+1+rem.length-1) listed' a' wr:=by
       intro a d r0 t z rem listed' τ a' wr hsub hnd hl hA;obtain⟨una,oa,hoa,halla⟩:=mem_ready.1 hA.ready
       by_cases hra:r=a
       ·subst hra
        obtain⟨o2,q1,q2,q3,q4⟩:=hA.al.op;rw[ho] at q1;cases q1;obtain⟨inf,z1,z2,z3⟩:=hA.al.zero
        have hwant:wantedE ops e o=some true:=by unfold wantedE;rw[q4]
        rw[hwant] at hstep;obtain⟨rfl,hn,rfl⟩:=stepV_alloc q2 z1 z2 hstep;obtain⟨τ',l1,t1,hw1⟩:=hA.wt.take hA.fr hA.nw (fun τ=>(AFb.vr 10 z z3).cells) hn
        have hdn:d<e.n:=by rw[q3] at hf;exact fits_lt hf
        have:=ih1 rem listed' τ' a' wr (fun k hk=>List.mem_filter.2 ⟨hsub k hk,by rw[hA.nb k hk o ho];rfl⟩) hnd hA.rl (hl.trans l1) ?_ hw1
        ·rw[show n+1+rem.length-1=n+rem.length by omega]
         exact this
        ·rw[q3]
         refine⟨fun s u hu hs=>?_,hA.ev.size,hA.ev.d'⟩;rw[look_put] at hu
         by_cases e1:d=s
         ·subst e1
          rw[if_pos rfl] at hu;cases hu;rw[hA.tm hdn];exact .ptr _ _ 0 none t1
         ·rw[if_neg e1] at hu
          exact(hA.ev.tmps s u hu (fun h=>by
           rcases List.mem_cons.1 h with h|h
           ·exact e1 h.symm
           ·exact hs h)).mono l1
       ·have hxa:x=some a:=by
         rcases hrl a hA.ready with h1|h1
         ·exact absurd h1.symm hra
         ·exact h1
        obtain⟨_,_,_,haf⟩:=hal a hxa;have hD0:=hA.al.d0 hI una
        have unr:(listed.setIfInBounds a true).getD r true=false:=by rw[getD_set_ne true (fun e=>hra e.symm)];exact hun
        have honly:∀(rem:List Nat) (listed':Array Bool),Rl (listed.setIfInBounds a true) rem listed'→∀j∈Region.ready .any ops listed',j∉rem→j=r:=by
         intro rem listed' hR j hj hjr;obtain⟨j1,oj,hoj,hjall⟩:=mem_ready.1 (ready_sub hR hj hjr)
         have hja:j≠a:=by
          rintro rfl;rw[getD_set (lt_of_getD' una),if_pos rfl] at j1;cases j1
         have hnb:bindsOn oj a=false:=by
          cases hb:bindsOn oj a with
          |false=>rfl
          |true=>
            obtain⟨ed,q1,q2,q3⟩:=bindsOn_spec (afterBoth_spec haf hoj hb);have:=hjall ed q1 q2;rw[q3,getD_in (lt_of_getD' unr) false true,unr] at this;cases this
         have:j∈Region.ready .any ops listed:=by
          refine mem_ready.2 ⟨by rw[getD_set_ne true (fun e=>hja e.symm)] at j1;exact j1,oj,hoj,fun ed q1 q2=>?_⟩;have h3:=hjall ed q1 q2
          have hne:a≠ed.on:=fun e=>by
           rw[bindsOn_of q1 q2 e.symm] at hnb;cases hnb
          rw[getD_set_ne false hne] at h3;exact h3
         rcases hrl j this with h1|h1
         ·exact h1
         ·rw[hxa] at h1;cases h1;exact absurd rfl hja
        cases n with
        |zero=>
          exfalso;unfold evalP at h
          split at h<;>first|(cases h;done)|skip
          rename_i he0
          have he0:Region.ready .any ops (listed.setIfInBounds r true)=[]:=by simpa using he0
          have:a∈Region.ready .any ops (listed.setIfInBounds r true):=mem_ready.2 ⟨by rw[getD_set_ne true hra];exact una,oa,hoa,fun ed q1 q2=>getD_set_true (halla ed q1 q2)⟩;rw[he0] at this;cases this
        |succ n=>
        have main:∀(rem2:List Nat) (listed':Array Bool) (τ:Rel) (a':Act) (wr:World),(∀k∈rem2,k∈rem)→(∀k∈rem2,k∈pend)→rem2.Nodup→Rl (listed.setIfInBounds a true) rem2 listed'→τ0.le τ→Kept [d] (fun _=>if d<e.n then .pointer (some ⟨r0,0,none⟩) else a'.tmps.getD d undef) a'→EnvD τ e a' ([d]++dstsOf ops rem2)→WT G (upd B r0 (some (.cells z.cells t (0,0)))) w0 τ w wr→∀j∈Region.ready .any ops listed',j∉rem2 →
         wpOp P ops (QN Q) j (wpAny P .any ops (QN Q) (n+1+rem2.length-1) (listed'.setIfInBounds j true)) a' wr:=by
         intro rem2 listed' τ a' wr h00 hsub hnd hR hl hk ha hw j hj hjr;obtain rfl:=honly rem2 listed' hR j hj hjr
         have hD:∀s∈o.looksAt ops,s∉[d]++dstsOf ops rem2:=by
          intro s hs hd;rcases List.mem_append.1 hd with hd|hd
          ·have hsd:s=d:=by simpa using hd
           subst hsd;rcases (hA.al.off j o ho hra).1 with h1|h1
           ·obtain⟨ed,q1,q2,q3⟩:=bindsOn_spec h1
            obtain⟨_,o3,ho3,hall3⟩:=mem_ready.1 hrm;rw[ho] at ho3;cases ho3;have:=hall3 ed q1 q2;rw[q3,getD_in (lt_of_getD' una) false true,una] at this;cases this
           ·exact h1 hs
          ·exact hDr rem2 listed' _ hsub hR hj s hs hd
         have hdd:o.dst≠some d:=(hA.al.off j o ho hra).2
         have hnext:∀ τ' v' wr',τ.le τ'→VR τ' v v'→WT G (upd B r0 (some (.cells z.cells t (0,0)))) w0 τ' w' wr'→wpAny P .any ops (QN Q) (n+1+rem2.length-1) (listed'.setIfInBounds j true) (a'.put o.dst v') wr':=by
          intro τ' v' wr' l1 hv hw';refine ih2 a d r0 t z rem2 _ τ' _ wr' (hsubf rem2 listed' _ hsub hR hj) hnd (hl.trans l1) ?_
          exact{ al:=hA.al,ok:=hA.ok,fr:=hA.fr,nw:=hA.nw,wt:=hw'
                 ready:=mem_ready.2 ⟨by rw[getD_set_ne true hra];exact una,oa,hoa,fun ed q1 q2=>getD_set_true (halla ed q1 q2)⟩
                 tm:=by
                  intro hd
                  have hd:d<e.n:=by
                   cases hdst:o.dst with
                   |none=>rw[hdst] at hd;exact hd
                   |some x=>rw[hdst] at hd;exact hd
                  have h1:=hk d (by simp);rw[if_pos hd] at h1
                  cases hdst:o.dst with
                  |none=>exact h1
                  |some x=>
                    have hne:x≠d:=fun e=>hdd (by rw[hdst,e]);simp only[Act.put,Array.getD_eq_getD_getElem?];rw[Array.getElem?_setIfInBounds_ne hne,←Array.getD_eq_getD_getElem?];exact h1
                 nb:=fun k hk=>hA.nb k (h00 k hk)
                 rl:=by rw[set_comm];exact hR.both unr (hrr rem2 hsub)
                 ev:=(ha.mono l1).put o.dst hf hv }
         unfold wpOp;rw[ho];dsimp only;split at hstep
         ·rename_i hwt
          rw[if_pos (wantedE_spec2 hwt ha hD)];exact .inl (stepV_sound hev hstep (ha.eval hw.glob hD) hw hnext)
         ·rename_i hwt
          simp only[Option.some.injEq,Prod.mk.injEq] at hstep;obtain⟨rfl,rfl⟩:=hstep;rw[if_neg (by rw[wantedE_spec2 hwt ha hD];simp)];exact hnext τ _ _ (Rel.le.refl _) (undef_vr _) hw
         ·cases hstep
        have hfuel:n+1+1+rem.length-1=(n+1)+rem.length:=by omega
        rw[hfuel];refine catchAll (D0:=[d]) (f:=fun _=>if d<e.n then .pointer (some ⟨r0,0,none⟩) else a'.tmps.getD d undef) (R0:=rem) (hI.listed a) hD0 (n+1) ?_ ?_ _ rem listed' τ a' wr rfl (fun k hk=>hk) hsub hnd hA.rl hl ?_ hA.ev hA.wt
        ·intro τ a2 wr2 hl2 hk2 ha2 hw2
         have hR0:Rl (listed.setIfInBounds a true) [] (listed.setIfInBounds a true):=⟨rfl,fun j d=>by simp⟩
         have hkk:Kept [d] (fun _=>if d<e.n then .pointer (some ⟨r0,0,none⟩) else a2.tmps.getD d undef) a2:=by
          intro y hy
          have hy':y=d:=by simpa using hy
          subst hy';split
          ·rename_i hlt
           have:=hk2 y (by simp);rw[if_pos hlt] at this;exact this
          ·rfl
         refine⟨fun h0=>?_,fun j hj=>?_⟩
         ·exfalso
          have:r∈Region.ready .any ops (listed.setIfInBounds a true):=by
           obtain⟨_,o3,ho3,hall3⟩:=mem_ready.1 hrm;exact mem_ready.2 ⟨unr,o3,ho3,fun ed q1 q2=>getD_set_true (hall3 ed q1 q2)⟩
          rw[h0] at this;cases this
         ·exact main [] _ τ a2 wr2 (fun k hk=>by cases hk) (fun k hk=>by cases hk) List.nodup_nil hR0 hl2 hkk (by simpa[dstsOf] using ha2) hw2 j hj (by simp)
        ·intro rem2 listed2 τ a2 wr2 hne h00 hsub2 hnd2 hR2 hl2 hk2 ha2 hw2 j hj hjr
         have hkk:Kept [d] (fun _=>if d<e.n then .pointer (some ⟨r0,0,none⟩) else a2.tmps.getD d undef) a2:=by
          intro y hy
          have hy':y=d:=by simpa using hy
          subst hy';split
          ·rename_i hlt
           have:=hk2 y (by simp);rw[if_pos hlt] at this;exact this
          ·rfl
         exact main rem2 listed2 τ a2 wr2 h00 hsub2 hnd2 hR2 hl2 hkk ha2 hw2 j hj hjr
        ·intro y hy
         have hy':y=d:=by simpa using hy
         subst hy';split
         ·rename_i hlt;exact hA.tm hlt
         ·rfl
      refine⟨fun rem listed' τ a' wr hsub hnd hR hl ha hw=>?_,stageA⟩
      have main:∀(rem:List Nat) (listed':Array Bool) (τ:Rel) (a':Act) (wr:World),(∀k∈rem,k∈pend)→rem.Nodup→Rl listed rem listed'→τ0.le τ→EnvD τ e a' (dstsOf ops rem)→WT G B w0 τ w wr→∀j∈Region.ready .any ops listed',j∉rem →
       wpOp P ops (QN Q) j (wpAny P .any ops (QN Q) (n+rem.length) (listed'.setIfInBounds j true)) a' wr:=by
       intro rem listed' τ a' wr hsub hnd hR hl ha hw j hj hjr;have hjl:=ready_sub hR hj hjr;rcases hrl j hjl with hjr2|hja
       ·subst hjr2
        have hD:=hDr rem listed' _ hsub hR hj;have hsub':=hsubf rem listed' _ hsub hR hj;unfold wpOp;rw[ho];dsimp only;split at hstep
        ·rename_i hwt
         rw[if_pos (wantedE_spec2 hwt ha hD)];refine .inl (stepV_sound hev hstep (ha.eval hw.glob hD) hw ?_);intro τ' v' wr' l1 hv hw';exact ih1 rem _ τ' _ wr' hsub' hnd (hR.both hun hjr) (hl.trans l1) ((ha.mono l1).put o.dst hf hv) hw'
        ·rename_i hwt
         simp only[Option.some.injEq,Prod.mk.injEq] at hstep;obtain⟨rfl,rfl⟩:=hstep;rw[if_neg (by rw[wantedE_spec2 hwt ha hD];simp)];exact ih1 rem _ τ _ wr hsub' hnd (hR.both hun hjr) hl (ha.put o.dst hf (undef_vr _)) hw
        ·cases hstep
       ·obtain⟨ham,har,hok,haf⟩:=hal j hja
        obtain⟨d,t,z,hAl⟩:=allocOk_spec hok;obtain⟨oa,q1,q2,q3,q4⟩:=hAl.op;obtain⟨inf,z1,z2,z3⟩:=hAl.zero;obtain⟨una,_,_,_⟩:=mem_ready.1 ham;unfold wpOp;rw[q1];dsimp only
        have hwant:Region.wanted oa (yielded ops a'.tmps)=true:=by unfold Region.wanted;rw[q4]
        rw[if_pos hwant];refine .inl ?_
        have hrun:(execOp a'.eval oa).run P wr=.ok (.value (.pointer (some ⟨wr.heap.size,0,none⟩))) (wr.alloc (.cells z.cells t)):=by
         unfold execOp;rw[q2];show ((do pure (Next.value (←Instr.alloc t true (.tuple #[])))):Sem Next).run P wr=_;rw[Sem.run_bind,run_alloc z1 z2];rfl
        unfold Oper.wp;rw[hrun];show wpAny P .any ops (QN Q) (n+rem.length) (listed'.setIfInBounds j true) (a'.put oa.dst (.pointer (some ⟨wr.heap.size,0,none⟩))) (wr.alloc (.cells z.cells t));rw[q3]
        have hBn:B wr.heap.size=none:=by
         cases e1:B wr.heap.size with
         |none=>rfl
         |some o=>have:=hw.lt (j:=wr.heap.size) (by rw[e1];simp);omega
        have hnw:w0.heap.size≤wr.heap.size:=by obtain⟨H,_,hh⟩:=hw;exact hh.kp.size
        have:=stageA j d wr.heap.size t z rem (listed'.setIfInBounds j true) τ _ _ hsub hnd hl
         { al:=hAl,ready:=ham,ok:=hok,fr:=hBn,nw:=hnw
           tm:=fun hd=>by rw[act_put d (by rw[ha.size];exact hd),if_pos rfl]
           nb:=fun k hk o2 ho2=>by rw[q1] at ho2;cases ho2;exact no_rem hR q1 hj hk
           rl:=hR.both una hjr
           ev:=ha.over d _
           wt:=hw.lay _ }
        rw[show n+1+rem.length-1=n+rem.length by omega] at this;exact this
      refine catchAll (D0:=[]) (f:=fun _=>undef) (R0:=rem) hI (fun k hk o ho d hd=>by cases hd) (n+1) (fun τ a' wr hl _ ha hw=>?_) (fun rem listed' τ a' wr hne _ hsub hnd hR hl _ ha hw j hj hjr=>?_) _ rem listed' τ a' wr rfl (fun k hk=>hk) hsub hnd hR hl (fun d hd=>by cases hd) ha hw
      ·refine⟨fun h0=>(by rw[h0] at hrm;cases hrm),fun j hj=>?_⟩
       exact main [] listed τ a' wr (fun k hk=>by cases hk) List.nodup_nil ⟨rfl,fun j d=>by simp⟩ hl ha hw j hj (by simp)
      ·rw[show n+1+rem.length-1=n+rem.length by omega]
       exact main rem listed' τ a' wr hsub hnd hR hl ha hw j hj hjr
     ·split at h<;>first|(cases h;done)|skip
      rename_i hall;refine⟨fun rem listed' τ a' wr hsub hnd hR hl ha hw=>?_,fun a d r0 t z rem listed' τ a' wr hsub hnd hl hA=>?_⟩
      ·refine catchAll (D0:=[]) (f:=fun _=>undef) (R0:=rem) hI (fun k hk o ho d hd=>by cases hd) (n+1) (fun τ a' wr hl _ ha hw=>?_) (fun rem listed' τ a' wr hne _ hsub hnd hR hl _ ha hw j hj hjr=>?_) _ rem listed' τ a' wr rfl (fun k hk=>hk) hsub hnd hR hl (fun d hd=>by cases hd) ha hw
       ·exact evalAnyT_sound (specT_ok P G) hev hns (n+1) h ha.all hw (fun τ' a2' wr' l1 h2 h3=>hQ τ' a2' wr' (hl.trans l1) h2 h3)
       ·exfalso
        have hjl:=ready_sub hR hj hjr;rw[he] at hjl;have hb:=List.all_eq_true.1 hall j hjl
        split at hb<;>first|(cases hb;done)|skip
        rename_i oj hoj;rw[Bool.and_eq_true] at hb;obtain⟨k,hk⟩:=List.exists_mem_of_ne_nil rem hne;have:=List.all_eq_true.1 hb.2 k (hsub k hk);rw[no_rem hR hoj hj hk] at this;cases this
      ·exfalso
       have hjl:=hA.ready;rw[he] at hjl;have hb:=List.all_eq_true.1 hall a hjl
       split at hb<;>first|(cases hb;done)|skip
       rw[hA.ok] at hb;cases hb
end sound
section
variable {P:Program} {G:Gl} {B:FM} {w0:World}
theorem WR.belowed {τ:Rel} {H:Array Obj} {w w':World} (h:WR G B w0 τ H w) (hb:Below w.heap.size w w'):WR G B w0 τ H w':=by
 have hk:∀(k r:Nat) (i:Option (Nat×Nat)),τ k r i→w'.heap[r]?=w.heap[r]?:=fun k r i ht=>hb.block r (h.dom _ _ _ ht).2.1;refine⟨fun k o hk2 hl=>?_,h.fn,h.inj,fun k r i ht=>?_,h.ok,fun k cs e hk2=>?_,h.glob,h.kp.belowed hb,h.sy⟩
 ·obtain⟨r,i,o',h1,h2,h3⟩:=h.blk k o hk2 hl
  exact⟨r,i,o',h1,by rw[hk _ _ _ h1];exact h2,h3⟩
 ·have:=h.dom _ _ _ ht
  exact⟨this.1,Nat.lt_of_lt_of_le this.2.1 hb.size,this.2.2⟩
 ·obtain⟨r,i,cs',e',f,h1,h2,h3,h4,h5⟩:=h.old k cs e hk2
  exact⟨r,i,cs',e',f,h1,by rw[hk _ _ _ h1];exact h2,h3,h4,h5⟩
theorem WR.addAt {τ:Rel} {H:Array Obj} {w:World} {g:Nat} {i:Option (Nat×Nat)} {o o':Obj} (h:WR G B w0 τ H w) (hg:w.heap[g]?=some o') (hB:B g=none) (hno:∀k i,¬τ k g i) (ho:OR τ i o o') :
 ∃ τ':Rel,τ.le τ'∧τ' H.size g i∧WR G B w0 τ' (H.push o) w:=by
 have hgl:=(Array.getElem?_eq_some_iff.1 hg).1;refine⟨⟨fun k u j=>τ.r k u j∨(k=H.size∧u=g∧j=i),τ.s⟩,⟨fun k r j x=>.inl x,fun _ _ x=>x⟩,.inr ⟨rfl,rfl,rfl⟩,?_⟩;have hle:τ.le (⟨fun k u j=>τ.r k u j∨(k=H.size∧u=g∧j=i),τ.s⟩:Rel):=⟨fun k r j x=>.inl x,fun _ _ x=>x⟩
 have hal:∀k,k<H.size→alive (H.push o) k→alive H k:=by
  rintro k hk ⟨u,hu,hl⟩;rw[Array.getElem?_push,if_neg (by omega)] at hu;exact⟨u,hu,hl⟩
 refine⟨fun k u hk hu=>?_,?_,?_,?_,?_,?_,fun q hq=>.inl (h.glob q hq),h.kp,h.sy⟩
 ·rw[Array.getElem?_push] at hk
  by_cases he:k=H.size
  ·rw[if_pos he] at hk
   cases hk;exact⟨g,_,_,.inr ⟨he,rfl,rfl⟩,hg,ho.mono hle⟩
  ·rw[if_neg he] at hk
   obtain⟨r2,j,u',h1,h2,h3⟩:=h.blk k u hk hu;exact⟨r2,j,u',.inl h1,h2,h3.mono hle⟩
 ·rintro k u j u' j' (h1|⟨rfl,rfl,rfl⟩) (h2|⟨e,rfl,rfl⟩)
  ·exact h.fn _ _ _ _ _ h1 h2
  ·have:=(h.dom _ _ _ h1).1;omega
  ·have:=(h.dom _ _ _ h2).1;omega
  ·exact⟨rfl,rfl⟩
 ·rintro k k' u j j' (h1|⟨rfl,rfl,rfl⟩) (h2|⟨rfl,e,rfl⟩) l1 l2
  ·exact h.inj _ _ _ _ _ h1 h2 (hal _ (h.dom _ _ _ h1).1 l1) (hal _ (h.dom _ _ _ h2).1 l2)
  ·subst e;exact absurd h1 (hno _ _)
  ·exact absurd h2 (hno _ _)
  ·rfl
 ·rintro k u j (h1|⟨rfl,rfl,rfl⟩)
  ·have:=h.dom _ _ _ h1
   refine⟨by simp;omega,this.2.1,fun l=>this.2.2 (hal _ this.1 l)⟩
  ·exact⟨by simp,hgl,fun _=>hB⟩
 ·intro k u hk
  rw[Array.getElem?_push] at hk
  by_cases he:k=H.size
  ·rw[if_pos he] at hk;cases hk;exact .inl (or_live ho)
  ·rw[if_neg he] at hk;exact h.ok k u hk
 ·intro k cs2 e2 hk
  rw[Array.getElem?_push] at hk
  by_cases he:k=H.size
  ·rw[if_pos he] at hk
   have:=or_live ho;rw[Option.some.inj hk,not_live_old] at this;cases this
  ·rw[if_neg he] at hk
   obtain⟨r2,j,cs',e',f,h1,h2,h3,h4,h5⟩:=h.old k cs2 e2 hk;refine⟨r2,j,cs',e',f,.inl h1,h2,h3.mono hle,?_,h5⟩;rintro k' i' (q|⟨rfl,q,rfl⟩) ha
   ·exact h4 k' i' q (hal _ (h.dom _ _ _ q).1 ha)
   ·subst q;exact absurd h1 (hno _ _)
def Laid (G:Gl) (H:Array Obj) (w:World):Prop:=H.size=G∧G≤w.heap.size∧∀(g:Nat) (o:Obj),H[g]?=some o→o=dead∨∃cs e f,o=oldB cs e∧w.heap[g]?=some (.cells cs e f)∧cs.toList.all (AFb 10)=true
theorem WR.start {H:Array Obj} {w:World} (h:Laid G H w):WR G (fun r=>w.heap[r]?) w ⟨fun k r i=>k=r∧k<G.n∧i=none,G.s⟩ H w:=by
 obtain⟨h1,h2,h3⟩:=h
 have hnl:∀(g:Nat) (o:Obj),H[g]?=some o→live o=false:=by
  intro g o ho;rcases h3 g o ho with rfl|⟨cs,e,f,rfl,_⟩
  ·rfl
  ·exact not_live_old cs e
 refine⟨fun k o hk hl=>?_,?_,?_,?_,fun k o hk=>?_,fun k cs e hk=>?_,fun g hg=>⟨rfl,hg,rfl⟩,Kp.start w,rfl⟩
 ·rw[hnl k o hk] at hl;cases hl
 ·rintro k r i r' i' ⟨rfl,_,rfl⟩ ⟨rfl,_,rfl⟩;exact⟨rfl,rfl⟩
 ·rintro k k' r i i' ⟨rfl,_,rfl⟩ ⟨rfl,_,rfl⟩ _ _;rfl
 ·rintro k r i ⟨rfl,hk,rfl⟩
  refine⟨by omega,by omega,?_⟩;rintro ⟨o,ho,hl⟩;rw[hnl k o ho] at hl;cases hl
 ·rcases h3 k o hk with rfl|⟨cs,e,f,rfl,_⟩
  ·exact .inr (.inl rfl)
  ·exact .inr (.inr ⟨cs,e,rfl⟩)
 ·have hk':=(Array.getElem?_eq_some_iff.1 hk).1
  rcases h3 k _ hk with hd|⟨cs',e',f,he,hw,ha⟩
  ·simp only[dead,oldB,Obj.cells.injEq,Prod.mk.injEq] at hd
   omega
  ·simp only[oldB,Obj.cells.injEq] at he
   obtain⟨rfl,rfl,_⟩:=he;refine⟨k,none,cs,_,f,⟨rfl,by omega,rfl⟩,hw,(AR.refl_of (fun i v hv=>?_)).lr,?_,.inl (by omega)⟩
   rotate_left
   ·rintro k' i' ⟨rfl,_,rfl⟩ ⟨u,hu,hl⟩
    rw[hnl _ _ hu] at hl;cases hl
   refine AFb.vr 10 v (List.all_eq_true.1 ha v ?_);rw[←Array.getElem?_toList] at hv;exact List.mem_of_getElem? hv
end
end Go.Ev
