/- The special operations: append, maps, copies. The small world as a tree, that the kernel reckons on quickly; an interpreter that agrees with the model's. Conditions: those that each statement shows. -/
import Derived.Test.YtkndlfdpmpdihaaGreatDoorY04
namespace Go.Ev
open Go.RowKit
set_option linter.unusedVariables false
set_option linter.unusedSimpArgs false
def same0 (P:Program) (ts:Array TypeId) (s x:Value):Option Value:=
 match ts[0]?,ts[1]?,s,lenV x with
 |some t0,some t1,.slice base sLen sCap,some 0=>
   match P.underlying t0,P.underlying t1 with
   |some (.slice elem),some d1=>match P.info? elem with
     |some i=>if notInt d1&&decide (sLen≤sCap) then some s else none
     |none=>none
   |_,_=>none
 |_,_,_,_=>none
theorem run_append0 {P:Program} {ts:Array TypeId} {ty t0 t1 elem:TypeId} {d1:TypeDesc} {i:TypeInfo} {x:Value} {sLen sCap:Nat} {base:Option Addr} (h0:ts[0]?=some t0) (h1:ts[1]?=some t1) (hu0:P.underlying t0=some (.slice elem)) (hu1:P.underlying t1=some d1) (hd1:∀k,d1≠.int k)
 (hi:P.info? elem=some i) (hlen:lenV x=some 0) (hneed:sLen≤sCap) (w:World) (hn:(Builtin.firstCells i.size 0 x).run P w=.ok #[] w) :
 (Builtin.append_ ts ty #[.slice base sLen sCap,x]).run P w=.ok (.slice base sLen sCap) w:=by
 have hz0:(match d1 with|.int _=>true|_=>false)=false:=by
  cases d1<;>first|rfl|exact absurd rfl (hd1 _)
 simp only[Builtin.append_,h0,h1];simp only[List.getElem?_toArray,List.getElem?_cons_zero,List.getElem?_cons_succ,Sem.run_bind,run_underlying hu0,run_underlying hu1,run_sizeOf hi,Result.andThen_ok,Sem.run_pure,hz0,Bool.false_eq_true,if_false,lenOf_run hlen,Nat.add_zero,hneed,if_true,Bool.not_false];rw[hn]
 cases base<;>rfl
theorem same0_sound {P:Program} {τ:Rel} {ts:Array TypeId} {ty:TypeId} {s x s' x' v:Value} {wr:World} (h:same0 P ts s x=some v) (hs:VR τ s s') (hx:VR τ x x'):∃v',(Builtin.append_ ts ty #[s',x']).run P wr=.ok v' wr∧VR τ v v':=by
 unfold same0 at h
 split at h<;>first|(cases h;done)|skip
 rename_i t0 t1 base sLen sCap h0 h1 hlen
 split at h<;>first|(cases h;done)|skip
 rename_i elem d1 hu0 hu1
 split at h<;>first|(cases h;done)|skip
 rename_i i hi
 split at h<;>first|(cases h;done)|skip
 rename_i hc;rw[Bool.and_eq_true,decide_eq_true_eq] at hc;cases h
 have hd1:∀k,d1≠.int k:=by rintro k rfl;cases hc.1
 have hlen':lenV x'=some 0:=lenV_eq hx hlen
 have hn:(Builtin.firstCells i.size 0 x').run P wr=.ok #[] wr:=by
  cases hx with
  |sl0 l c=>rfl
  |sl k r o l c c' ii t hcap=>
    show (loadCells ⟨r,o,none⟩ (0*i.size)).run P wr=_;rw[Nat.zero_mul];rfl
  |string b=>
    show Result.ok _ wr=_
    have:b.extract 0 0=ByteArray.empty:=by simp
    simp[this]
  |_=>cases hlen
 generalize hb:(Value.slice base sLen sCap)=q at hs
 cases hs<;>first|(cases hb;done)|skip
 ·cases hb
  exact⟨_,run_append0 h0 h1 hu0 hu1 hd1 hi hlen' hc.2 wr hn,.sl0 _ _⟩
 ·rename_i k r o l c c' ii t hcap
  cases hb
  have hcc:sCap≤c':=by
   cases ii with
   |none=>exact Nat.le_of_eq hcap
   |some q=>exact hcap.1
  exact⟨_,run_append0 h0 h1 hu0 hu1 hd1 hi hlen' (Nat.le_trans hc.2 hcc) wr hn,.sl _ _ _ _ _ _ ii t hcap⟩
def spec (P:Program):Spec:=fun ρ o wa=>match o.op with
 |.lookup t m k ok=>match lookB P wa.heap t (ρ m) (ρ k) ok with
   |some v=>some (.value v,wa)
   |none=>none
 |.mapUpdate t m k v=>match updB P wa.heap t (ρ m) (ρ k) (ρ v) with
   |some H=>some (.skip,{ wa with heap:=H })
   |none=>none
 |.insert t m k v=>match updB P wa.heap t (ρ m) (ρ k) (ρ v) with
   |some H=>some (.skip,{ wa with heap:=H })
   |none=>none
 |.call ⟨.builtin .append,args,ts⟩=>match args.toList with
   | [s,x]=>match growB P wa.heap wa ts (ρ s) (ρ x) with
     |some (v,H)=>some (.value v,{ wa with heap:=H })
     |none=>match same0 P ts (ρ s) (ρ x) with
       |some v=>some (.value v,wa)
       |none=>none
   |_=>none
 |.call ⟨.builtin .delete,args,ts⟩=>match args.toList,ts.toList with
   | [m,k],t::_=>match delB P wa.heap t (ρ m) (ρ k) with
     |some H=>some (.value (.tuple #[]),{ wa with heap:=H })
     |none=>none
   |_,_=>none
 |_=>none
theorem args2 {ρ:Operand→Value} {args:Array Operand} {a b:Operand} (h:args.toList=[a,b]):args.map ρ=#[ρ a,ρ b]:=by
 cases args with
 |mk l=>simp only at h;subst h;simp
theorem mem2 {args:Array Operand} {a b:Operand} (h:args.toList=[a,b]):a∈args∧b∈args:=by
 cases args with
 |mk l=>simp only at h;subst h;simp
theorem spec_ok (P:Program) (G:Gl):SpecOk P G (spec P):=by
 intro ρ ρ' o wa wa' n h B w0 τ wr hv hw;obtain⟨dst,op,type,pos,after,guard⟩:=o;dsimp only at hv;unfold spec at h;dsimp only at h
 split at h<;>first|(cases h;done)|skip
 ·rename_i t m k ok
  split at h<;>first|(cases h;done)|skip
  rename_i v hl;cases h;obtain⟨v',h1,h2⟩:=lookB_sound hl (hv m (by simp[Op.operands])) (hv k (by simp[Op.operands])) hw;refine⟨τ,_,wr,Rel.le.refl _,?_,.value _ _ h2,hw⟩;show ((do pure (Next.value (←Instr.lookup t (ρ' m) (ρ' k) ok))):Sem Next).run P wr=_;rw[Sem.run_bind,h1];rfl
 ·rename_i t m k v
  split at h<;>first|(cases h;done)|skip
  rename_i H hu;cases h;obtain⟨wr',h1,h2⟩:=updB_sound hu (hv m (by simp[Op.operands])) (hv k (by simp[Op.operands])) (hv v (by simp[Op.operands])) hw;refine⟨τ,_,wr',Rel.le.refl _,?_,.skip,h2⟩;show ((do Instr.mapUpdate t (ρ' m) (ρ' k) (ρ' v);pure Next.skip):Sem Next).run P wr=_;rw[Sem.run_bind,h1];rfl
 ·rename_i t m k v
  split at h<;>first|(cases h;done)|skip
  rename_i H hu;cases h;obtain⟨wr',h1,h2⟩:=updB_sound hu (hv m (by simp[Op.operands])) (hv k (by simp[Op.operands])) (hv v (by simp[Op.operands])) hw;refine⟨τ,_,wr',Rel.le.refl _,?_,.skip,h2⟩;show ((do Instr.mapUpdate t (ρ' m) (ρ' k) (ρ' v);pure Next.skip):Sem Next).run P wr=_;rw[Sem.run_bind,h1];rfl
 ·rename_i args ts
  split at h<;>first|(cases h;done)|skip
  rename_i s x ha;obtain⟨m1,m2⟩:=mem2 ha;split at h
  ·rename_i v H hg
   cases h;obtain⟨τ',v',wr',l1,h1,h2,h3⟩:=growB_sound (ty:=type) hg (hv s (by simp[Op.operands,Call.operands,m1])) (hv x (by simp[Op.operands,Call.operands,m2])) hw;refine⟨τ',_,wr',l1,?_,.value _ _ h2,h3⟩;show ((do pure (Next.value (←Builtin.append_ ts type (args.map ρ')))):Sem Next).run P wr=_;rw[args2 ha,Sem.run_bind,h1];rfl
  ·split at h<;>first|(cases h;done)|skip
   rename_i v hg;cases h;obtain⟨v',h1,h2⟩:=same0_sound (ty:=type) (wr:=wr) hg (hv s (by simp[Op.operands,Call.operands,m1])) (hv x (by simp[Op.operands,Call.operands,m2]));refine⟨τ,_,wr,Rel.le.refl _,?_,.value _ _ h2,hw⟩;show ((do pure (Next.value (←Builtin.append_ ts type (args.map ρ')))):Sem Next).run P wr=_;rw[args2 ha,Sem.run_bind,h1];rfl
 ·rename_i args ts
  split at h<;>first|(cases h;done)|skip
  rename_i m k t rest ha ht
  split at h<;>first|(cases h;done)|skip
  rename_i H hg;cases h;obtain⟨m1,m2⟩:=mem2 ha
  have h0:ts[0]?=some t:=by rw[←Array.getElem?_toList,ht];rfl
  obtain⟨wr',h1,h2⟩:=delB_sound (ty:=type) h0 hg (hv m (by simp[Op.operands,Call.operands,m1])) (hv k (by simp[Op.operands,Call.operands,m2])) hw;refine⟨τ,_,wr',Rel.le.refl _,?_,.value _ _ (VR.tuple_ (AR.nil _)),h2⟩;show ((do pure (Next.value (←Builtin.delete_ ts type (args.map ρ')))):Sem Next).run P wr=_;rw[args2 ha,Sem.run_bind,h1];rfl
section lists
variable {α β:Type}
noncomputable def nthL (l:List α):Nat→Option α:=
 List.rec (motive:=fun _=>Nat→Option α) (fun _=>none) (fun x _ ih i=>Nat.rec (motive:=fun _=>Option α) (some x) (fun m _=>ih m) i) l
theorem nthL_eq:∀(l:List α) (i:Nat),nthL l i=l[i]?
 | [],i=>rfl
 |x::l,0=>rfl
 |x::l,i+1=>by
   show nthL l i=_;rw[nthL_eq l i];rfl
noncomputable def setLK (v:α) (l:List α):Nat→(List α→β)→β:=
 List.rec (motive:=fun _=>Nat→(List α→β)→β) (fun _ c=>c []) (fun x xs ih i c=>Nat.rec (motive:=fun _=>β) (c (v::xs)) (fun m _=>ih m fun ys=>c (x::ys)) i) l
theorem setLK_eq (v:α):∀(l:List α) (i:Nat) (c:List α→β),setLK v l i c=c (l.set i v)
 | [],i,c=>rfl
 |x::l,0,c=>rfl
 |x::l,i+1,c=>by
   show setLK v l i (fun ys=>c (x::ys))=_;rw[setLK_eq v l i];rfl
end lists
inductive T where
 |nil:T
 |leaf (o:Obj):T
 |br (l r:T):T
noncomputable def T.get (t:T):Nat→Option Obj:=
 T.rec (motive:=fun _=>Nat→Option Obj) (fun _=>none) (fun o _=>some o) (fun _ _ gl gr k=>Bool.rec (motive:=fun _=>Option Obj) (gr (k/2)) (gl (k/2)) (Nat.beq (k%2) 0)) t
noncomputable def T.setK {β:Type} (o:Obj) (d:Nat):T→Nat→(T→β)→β:=
 Nat.rec (motive:=fun _=>T→Nat→(T→β)→β) (fun _ _ c=>c (.leaf o))
  (fun _ ih t k c=>T.rec (motive:=fun _=>β)
   (Bool.rec (motive:=fun _=>β) (ih .nil (k/2) fun r=>c (.br .nil r)) (ih .nil (k/2) fun l=>c (.br l .nil)) (Nat.beq (k%2) 0))
   (fun _=>c .nil)
   (fun l r _ _=>Bool.rec (motive:=fun _=>β) (ih r (k/2) fun r=>c (.br l r)) (ih l (k/2) fun l=>c (.br l r)) (Nat.beq (k%2) 0)) t) d
noncomputable def T.set (o:Obj) (d:Nat) (t:T) (k:Nat):T:=T.setK o d t k id
def T.ok:Nat→T→Prop
 |_,.nil=>True
 | 0,.leaf _=>True
 |d+1,.br l r=>T.ok d l∧T.ok d r
 |_,_=>False
theorem T.ok_nil (d:Nat):T.ok d .nil:=by cases d<;>trivial
theorem T.setK_eq {β:Type} (o:Obj):∀(d:Nat) (t:T) (k:Nat) (c:T→β),T.setK o d t k c=c (T.set o d t k)
 | 0,t,k,c=>rfl
 |d+1,t,k,c=>by
   cases t with
   |leaf o'=>rfl
   |nil=>
     show Bool.rec (motive:=fun _=>β) (T.setK o d .nil (k/2) fun r=>c (.br .nil r)) (T.setK o d .nil (k/2) fun l=>c (.br l .nil)) (Nat.beq (k%2) 0)=c (Bool.rec (motive:=fun _=>T) (T.setK o d .nil (k/2) fun r=>id (.br .nil r)) (T.setK o d .nil (k/2) fun l=>id (.br l .nil)) (Nat.beq (k%2) 0));cases Nat.beq (k%2) 0
     ·show T.setK o d .nil (k/2) (fun r=>c (.br .nil r))=c (T.setK o d .nil (k/2) fun r=>id (.br .nil r))
      rw[T.setK_eq o d .nil (k/2),T.setK_eq o d .nil (k/2)];rfl
     ·show T.setK o d .nil (k/2) (fun l=>c (.br l .nil))=c (T.setK o d .nil (k/2) fun l=>id (.br l .nil))
      rw[T.setK_eq o d .nil (k/2),T.setK_eq o d .nil (k/2)];rfl
   |br l r=>
     show Bool.rec (motive:=fun _=>β) (T.setK o d r (k/2) fun r=>c (.br l r)) (T.setK o d l (k/2) fun l=>c (.br l r)) (Nat.beq (k%2) 0)=c (Bool.rec (motive:=fun _=>T) (T.setK o d r (k/2) fun r=>id (.br l r)) (T.setK o d l (k/2) fun l=>id (.br l r)) (Nat.beq (k%2) 0));cases Nat.beq (k%2) 0
     ·show T.setK o d r (k/2) (fun r=>c (.br l r))=c (T.setK o d r (k/2) fun r=>id (.br l r))
      rw[T.setK_eq o d r (k/2),T.setK_eq o d r (k/2)];rfl
     ·show T.setK o d l (k/2) (fun l=>c (.br l r))=c (T.setK o d l (k/2) fun l=>id (.br l r))
      rw[T.setK_eq o d l (k/2),T.setK_eq o d l (k/2)];rfl
theorem T.set_succ_nil (o:Obj) (d k:Nat):T.set o (d+1) .nil k=if k%2=0 then .br (T.set o d .nil (k/2)) .nil else .br .nil (T.set o d .nil (k/2)):=by
 show Bool.rec (motive:=fun _=>T) (T.setK o d .nil (k/2) fun r=>(id (T.br .nil r):T)) (T.setK o d .nil (k/2) fun l=>(id (T.br l .nil):T)) (Nat.beq (k%2) 0)=_
 by_cases h:k%2=0
 ·rw[h,if_pos rfl]
  show T.setK o d .nil (k/2) (fun l=>(id (T.br l .nil):T))=_;rw[T.setK_eq];rfl
 ·have hb:Nat.beq (k%2) 0=false:=by
   cases hq:Nat.beq (k%2) 0 with
   |false=>rfl
   |true=>exact absurd (Nat.eq_of_beq_eq_true hq) h
  rw[if_neg h,hb];show T.setK o d .nil (k/2) (fun r=>(id (T.br .nil r):T))=_;rw[T.setK_eq];rfl
theorem T.set_succ_br (o:Obj) (d k:Nat) (l r:T):T.set o (d+1) (.br l r) k=if k%2=0 then .br (T.set o d l (k/2)) r else .br l (T.set o d r (k/2)):=by
 show Bool.rec (motive:=fun _=>T) (T.setK o d r (k/2) fun r=>(id (T.br l r):T)) (T.setK o d l (k/2) fun l=>(id (T.br l r):T)) (Nat.beq (k%2) 0)=_
 by_cases h:k%2=0
 ·rw[h,if_pos rfl]
  show T.setK o d l (k/2) (fun l=>(id (T.br l r):T))=_;rw[T.setK_eq];rfl
 ·have hb:Nat.beq (k%2) 0=false:=by
   cases hq:Nat.beq (k%2) 0 with
   |false=>rfl
   |true=>exact absurd (Nat.eq_of_beq_eq_true hq) h
  rw[if_neg h,hb];show T.setK o d r (k/2) (fun r=>(id (T.br l r):T))=_;rw[T.setK_eq];rfl
theorem T.get_br (l r:T) (k:Nat):(T.br l r).get k=if k%2=0 then l.get (k/2) else r.get (k/2):=by
 show Bool.rec (motive:=fun _=>Option Obj) (r.get (k/2)) (l.get (k/2)) (Nat.beq (k%2) 0)=_
 by_cases h:k%2=0
 ·rw[h];rfl
 ·have hb:Nat.beq (k%2) 0=false:=by
   cases hq:Nat.beq (k%2) 0 with
   |false=>rfl
   |true=>exact absurd (Nat.eq_of_beq_eq_true hq) h
  rw[if_neg h,hb]
theorem T.ok_set (o:Obj):∀(d:Nat) (t:T) (k:Nat),T.ok d t→T.ok d (T.set o d t k)
 | 0,t,k,h=>trivial
 |d+1,.nil,k,h=>by
   rw[T.set_succ_nil];split
   ·exact⟨T.ok_set o d .nil _ (T.ok_nil d),T.ok_nil d⟩
   ·exact⟨T.ok_nil d,T.ok_set o d .nil _ (T.ok_nil d)⟩
 |d+1,.br l r,k,h=>by
   rw[T.set_succ_br];split
   ·exact⟨T.ok_set o d l _ h.1,h.2⟩
   ·exact⟨h.1,T.ok_set o d r _ h.2⟩
theorem T.get_set (o:Obj):∀(d:Nat) (t:T) (k j:Nat),T.ok d t→k<2^d→j<2^d→(T.set o d t k).get j=if j=k then some o else t.get j
 | 0,t,k,j,h,hk,hj=>by
   have e1:k=0:=by simpa using hk
   have e2:j=0:=by simpa using hj
   subst e1;subst e2;rfl
 |d+1,.nil,k,j,h,hk,hj=>by
   have hk2:k/2<2^d:=by rw[Nat.pow_succ] at hk;omega
   have hj2:j/2<2^d:=by rw[Nat.pow_succ] at hj;omega
   have ih:=T.get_set o d .nil (k/2) (j/2) (T.ok_nil d) hk2 hj2;rw[T.set_succ_nil];have hn:(T.nil).get j=none:=rfl;have hn2:(T.nil).get (j/2)=none:=rfl;split
   ·rw[T.get_br]
    split
    ·rw[ih]
     by_cases e:j=k
     ·subst e;simp
     ·rw[if_neg e,if_neg (by omega)];rfl
    ·rw[if_neg (by omega)];rfl
   ·rw[T.get_br]
    split
    ·rw[if_neg (by omega)];rfl
    ·rw[ih]
     by_cases e:j=k
     ·subst e;simp
     ·rw[if_neg e,if_neg (by omega)];rfl
 |d+1,.br l r,k,j,h,hk,hj=>by
   have hk2:k/2<2^d:=by rw[Nat.pow_succ] at hk;omega
   have hj2:j/2<2^d:=by rw[Nat.pow_succ] at hj;omega
   have il:=T.get_set o d l (k/2) (j/2) h.1 hk2 hj2;have ir:=T.get_set o d r (k/2) (j/2) h.2 hk2 hj2;rw[T.set_succ_br,T.get_br];split
   ·rw[T.get_br]
    split
    ·rw[il]
     by_cases e:j=k
     ·subst e;simp
     ·rw[if_neg e,if_neg (by omega)]
    ·rw[if_neg (by omega)]
   ·rw[T.get_br]
    split
    ·rw[if_neg (by omega)]
    ·rw[ir]
     by_cases e:j=k
     ·subst e;simp
     ·rw[if_neg e,if_neg (by omega)]
structure TW where
 t:T
 n:Nat
structure Rep (w:TW) (H:Array Obj):Prop where
 ok:T.ok 16 w.t
 size:H.size=w.n
 get:∀k,k<65536→w.t.get k=H[k]?
 lt:w.n≤65536
theorem Rep.set {w:TW} {H:Array Obj} (h:Rep w H) {k:Nat} (hk:k<w.n) (o:Obj):Rep ⟨T.set o 16 w.t k,w.n⟩ (H.setIfInBounds k o):=by
 refine⟨T.ok_set o 16 _ _ h.ok,by simp[h.size],fun j hj=>?_,h.lt⟩;have hlt:=h.lt;show (T.set o 16 w.t k).get j=_;rw[T.get_set o 16 w.t k j h.ok (by omega) (by omega),Array.getElem?_setIfInBounds,h.get j hj,h.size]
 by_cases e:j=k
 ·subst e;simp[hk]
 ·rw[if_neg e,if_neg (fun x=>e x.symm)]
theorem Rep.push {w:TW} {H:Array Obj} (h:Rep w H) (hn:w.n<65536) (o:Obj):Rep ⟨T.set o 16 w.t w.n,w.n+1⟩ (H.push o):=by
 refine⟨T.ok_set o 16 _ _ h.ok,by simp[h.size],fun j hj=>?_,hn⟩;show (T.set o 16 w.t w.n).get j=_;rw[T.get_set o 16 w.t w.n j h.ok (by omega) (by omega),Array.getElem?_push,h.get j hj,h.size]
noncomputable def TW.blk (w:TW) (k:Nat):Option Obj:=match Nat.blt k 65536 with|true=>w.t.get k|false=>none
theorem Rep.blk {w:TW} {H:Array Obj} (h:Rep w H) {k:Nat} {o:Obj} (hk:w.blk k=some o):H[k]?=some o∧k<w.n:=by
 unfold TW.blk at hk;split at hk
 ·rename_i hb
  rw[h.get k (by simpa[Nat.blt_eq] using hb)] at hk;exact⟨hk,by rw[←h.size];exact(Array.getElem?_eq_some_iff.1 hk).1⟩
 ·cases hk
noncomputable def TW.setK {β:Type} (w:TW) (k:Nat) (o:Obj) (c:TW→β):β:=T.setK o 16 w.t k fun t=>c ⟨t,w.n⟩
noncomputable def TW.pushK {β:Type} (w:TW) (o:Obj) (c:TW→β):β:=forceObj o fun o=>T.setK o 16 w.t w.n fun t=>forceNat (w.n+1) fun n=>c ⟨t,n⟩
noncomputable def runW {α:Type} (P:Program):Sem α→TW→Option (α×TW)
 |.pure a,w=>some (a,w)
 |.load _ a k,w=>match a with
   |⟨b,i,none⟩=>match w.blk b with
     |some (.cells ⟨cs⟩ _ _)=>match nthL cs i with
       |some v=>runW P (k v) w
       |none=>none
     |_=>none
   |_=>none
 |.store _ a v k,w=>match Value.plainCell v,a with
   |true,⟨b,i,none⟩=>match w.blk b with
     |some (.cells ⟨cs⟩ e (lo,hi))=>match Nat.ble lo i&&Nat.blt i hi,nthL cs i with
       |false,some _=>forceV 20 v fun v=>forceNat i fun i=>setLK v cs i fun cs=>w.setK b (.cells ⟨cs⟩ e (lo,hi)) fun w=>runW P k w
       |_,_=>none
     |_=>none
   |_,_=>none
 |.new o k,w=>match Nat.blt w.n 65536 with
   |true=>w.pushK o fun w'=>runW P (k w.n) w'
   |false=>none
 |.getObj r k,w=>match w.blk r with
   |some (.cells ..)=>none
   |some o=>runW P (k o) w
   |none=>none
 |.setObj r o k,w=>match w.blk r with
   |some (.cells ..)=>none
   |some _=>forceObj o fun o=>w.setK r o fun w=>runW P k w
   |none=>none
 |.choose q k,w=>match q.forced with
   |true=>runW P (k 0) w
   |false=>none
 |.program k,w=>runW P (k P) w
 |.mark _ k,w=>runW P k w
 |_,_=>none
theorem runW_sound {α:Type} {P:Program} {s:Sem α}:∀ {w w':TW} {a:α},runW P s w=some (a,w')→∀ {u:World},Rep w u.heap→∃u',s.run P u=.ok a u'∧Rep w' u'.heap:=by
 induction s with
 |pure a=>intro w w' b h u hu;cases h;exact⟨u,rfl,hu⟩
 |load m a k ih=>
   intro w w' b h u hu;unfold runW at h
   split at h<;>first|(cases h;done)|skip
   rename_i bl i
   split at h<;>first|(cases h;done)|skip
   rename_i cs e f hb
   split at h<;>first|(cases h;done)|skip
   rename_i v hv;obtain⟨h1,h2⟩:=hu.blk hb;obtain⟨u',r1,r2⟩:=ih v h hu;refine⟨u',?_,r2⟩
   have hc:u.cell? ⟨bl,i,none⟩=some v:=by
    rw[nthL_eq] at hv;simp[World.cell?,h1,hv]
   unfold Sem.run;rw[hc];exact r1
 |store m a v k ih=>
   intro w w' b h u hu;unfold runW at h
   split at h<;>first|(cases h;done)|skip
   rename_i bl i hp
   split at h<;>first|(cases h;done)|skip
   rename_i cs e lo hi hb
   split at h<;>first|(cases h;done)|skip
   rename_i v0 hf hv;simp only[forceV_eq,forceNat_eq,setLK_eq,TW.setK,T.setK_eq] at h;obtain⟨h1,h2⟩:=hu.blk hb;rw[nthL_eq] at hv
   have hc:u.cell? ⟨bl,i,none⟩=some v0:=by simp[World.cell?,h1,hv]
   have hfr:u.frozen? ⟨bl,i,none⟩=false:=by
    simp only[World.frozen?,h1]
    cases ha:(decide (lo≤i)&&decide (i<hi)) with
    |false=>rfl
    |true=>
      simp only[Bool.and_eq_true,decide_eq_true_eq] at ha
      have:(Nat.ble lo i&&Nat.blt i hi)=true:=by
       rw[Bool.and_eq_true];exact⟨Nat.ble_eq_true_of_le ha.1,by rw[Nat.blt_eq];exact ha.2⟩
      rw[this] at hf;cases hf
   rw[run_store_of hp hc hfr]
   have hheap:(u.setCell ⟨bl,i,none⟩ v).heap=u.heap.setIfInBounds bl (.cells ⟨cs.set i v⟩ e (lo,hi)):=by
    rw[setCell_heap u bl i v h1];simp
   exact ih h (by rw[hheap];exact hu.set h2 _)
 |new o k ih=>
   intro w w' b h u hu;unfold runW at h
   split at h<;>first|(cases h;done)|skip
   rename_i hn;simp only[TW.pushK,forceObj_eq,T.setK_eq,forceNat_eq] at h;obtain⟨u',r1,r2⟩:=ih w.n h (u:={ u with heap:=u.heap.push o }) (hu.push (by simpa[Nat.blt_eq] using hn) o);refine⟨u',?_,r2⟩;show (k u.heap.size).run P { u with heap:=u.heap.push o }=_;rw[hu.size];exact r1
 |shape=>intro w w' b h;unfold runW at h;cases h
 |freeze=>intro w w' b h;unfold runW at h;cases h
 |frozen=>intro w w' b h;unfold runW at h;cases h
 |getObj r k ih=>
   intro w w' b h u hu;unfold runW at h
   split at h<;>first|(cases h;done)|skip
   rename_i o hne hb;obtain⟨h1,h2⟩:=hu.blk hb;obtain⟨u',r1,r2⟩:=ih o h hu;refine⟨u',?_,r2⟩;unfold Sem.run;rw[h1]
   cases o<;>first|exact r1|exact absurd rfl (hne _ _ _)
 |setObj r o k ih=>
   intro w w' b h u hu;unfold runW at h
   split at h<;>first|(cases h;done)|skip
   rename_i o2 hne hb;simp only[forceObj_eq,TW.setK,T.setK_eq] at h;obtain⟨h1,h2⟩:=hu.blk hb;obtain⟨u',r1,r2⟩:=ih h (u:={ u with heap:=u.heap.setIfInBounds r o }) (hu.set h2 o);refine⟨u',?_,r2⟩;unfold Sem.run;rw[h1]
   cases o2<;>first|exact r1|exact absurd rfl (hne _ _ _)
 |choose q k ih=>
   intro w w' b h u hu;unfold runW at h
   split at h<;>first|(cases h;done)|skip
   rename_i hq;obtain⟨u',r1,r2⟩:=ih 0 h hu;refine⟨u',?_,r2⟩;unfold Sem.run;rw[if_pos hq];exact r1
 |sys=>intro w w' b h;unfold runW at h;cases h
 |program k ih=>intro w w' b h u hu;exact ih P h hu
 |mark m k ih=>intro w w' b h u hu;exact ih h hu
 |halt=>intro w w' b h;unfold runW at h;cases h
end Go.Ev
