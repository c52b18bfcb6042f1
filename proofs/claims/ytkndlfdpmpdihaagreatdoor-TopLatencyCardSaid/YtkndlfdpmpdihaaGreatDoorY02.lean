/- The model's operations agree on worlds that agree: whatever the operation. No conditions beyond those that each statement shows. -/
import Derived.Test.YtkndlfdpmpdihaaGreatDoorY01
namespace Go.Ev
open Go.RowKit
set_option linter.unusedVariables false
set_option linter.unusedSimpArgs false
def elemZero (P:Program) (t:TypeId):Bool:=match P.underlying t with
 |some (.slice e)=>zeroOk P e
 |_=>true
def kindOk (P:Program) (ρ:Operand→Value) (o:Oper):Bool:=match o.op with
 |.move _|.assign _|.pick _ _ _|.box _ _|.load _ _|.store _ _ _|.extract _ _|.field _ _ _|.makeInterface _ _|.indexAddr _ _ _|.index _ _ _|.makeMap _ _=>true
 |.slice _ _ _ _ none=>true
 |.slice t _ _ (some _) (some _)=>match P.underlying t with|some (.slice _)=>true|_=>false
 |.alloc t=>zeroOk P t
 |.build t _=>zeroOk P t
 |.buildSlice t _ _=>elemZero P t
 |.makeSlice t _ _=>elemZero P t
 |.fieldAddr s _ f=>fieldOk P s f
 |.typeAssert _ _ u _=>zeroOk P u
 |.makeFunc (.func _) _ _=>true
 |.nilCheck x=>match ρ x with|.func (.method _) _ _=>false|_=>true
 |.binOp .eql _ x y _=>nilCmp (ρ x) (ρ y)
 |.binOp .neq _ x y _=>nilCmp (ρ x) (ρ y)
 |.call c=>match c.callee with
   |.builtin .len=>true
   |.value f=>match ρ f with|.func (.func g) _ _=>bodyOk P g|_=>false
   |.invoke r name=>match ρ r with|.iface t _=>(methodOk P t name).any (bodyOk P)|_=>false
   |_=>false
 |_=>false
section ops
variable {P:Program} {τ:Rel}
theorem map_ar {ρ ρ':Operand→Value} (xs:Array Operand) (h:∀x∈xs,VR τ (ρ x) (ρ' x)):AR τ (xs.map ρ) (xs.map ρ'):=by
 refine⟨by simp,fun i v v' h1 h2=>?_⟩;rw[Array.getElem?_map] at h1 h2
 cases hx:xs[i]? with
 |none=>rw[hx] at h1;cases h1
 |some x=>
   rw[hx] at h1 h2;cases h1;cases h2;exact h x (Array.mem_of_getElem? hx)
theorem map_pr {ρ ρ':Operand→Value}:∀(l:List (Nat×Operand)),(∀x∈l,VR τ (ρ x.2) (ρ' x.2))→PR τ (l.map fun x=>(x.1,ρ x.2)) (l.map fun x=>(x.1,ρ' x.2))
 | [],_=>trivial
 |x::l,h=>⟨rfl,h x (by simp),map_pr l (fun y hy=>h y (by simp[hy]))⟩
theorem map_ov {ρ ρ':Operand→Value} (x:Option Operand) (h:∀y,x=some y→VR τ (ρ y) (ρ' y)):OV τ (x.map ρ) (x.map ρ'):=by
 cases x with
 |none=>trivial
 |some y=>exact h y rfl
theorem sim_exec (ρ ρ':Operand→Value) (o:Oper) (h:∀x∈o.op.operands,VR τ (ρ x) (ρ' x)) (hk:kindOk P ρ o=true)
 (hcut:∀t x lo hi mx,o.op=.slice t x lo hi mx→cutOk τ (ρ x) (lo.map ρ)):Sim P NR τ (execOp ρ o) (execOp ρ' o):=by
 obtain⟨dst,op,type,pos,after,guard⟩:=o;dsimp only at h hcut;unfold kindOk at hk;unfold execOp
 cases op with
 |move x=>exact Sim.pure _ _ _ (.value _ _ (h x (by simp[Op.operands])))
 |assign x=>exact Sim.pure _ _ _ (.value _ _ (h x (by simp[Op.operands])))
 |pick c a b=>
   refine Sim.andThen (sim_asBool (h c (by simp[Op.operands]))) ?_;rintro τ1 q _ h1 rfl;refine Sim.pure _ _ _ (.value _ _ ?_);cases q
   ·exact(h b (by simp[Op.operands])).mono h1
   ·exact(h a (by simp[Op.operands])).mono h1
 |box t x=>exact sim_v (sim_box t (h x (by simp[Op.operands])))
 |load t x=>exact sim_v (sim_loadAt t (h x (by simp[Op.operands])))
 |store t x y=>exact sim_u (sim_storeAt t (h x (by simp[Op.operands])) (h y (by simp[Op.operands])))
 |extract x n=>exact sim_v (sim_extract (h x (by simp[Op.operands])) n)
 |field t x n=>exact sim_v (sim_field t (h x (by simp[Op.operands])) n)
 |makeInterface t x=>exact sim_v (sim_makeInterface t (h x (by simp[Op.operands])))
 |indexAddr t x i=>exact sim_v (sim_indexAt t (h x (by simp[Op.operands])) (h i (by simp[Op.operands])))
 |index t x i=>exact sim_v (sim_index t (h x (by simp[Op.operands])) (h i (by simp[Op.operands])))
 |makeMap t r=>
   refine sim_v (sim_makeMap t (r:=r.map ρ) (r':=r.map ρ') ?_ ?_)
   ·intro v hv
    cases r with
    |none=>cases hv
    |some x=>cases hv;exact⟨_,rfl,h x (by simp[Op.operands])⟩
   ·intro hv
    cases r with
    |none=>rfl
    |some x=>cases hv
 |alloc t=>exact sim_v (sim_alloc t hk)
 |build t ps=>
   refine sim_v (sim_build t hk ?_);rw[Array.toList_map,Array.toList_map];exact map_pr ps.toList (fun x hx=>h x.2 (by simp[Op.operands];exact⟨x.1,by simpa using hx⟩))
 |buildSlice t n ps=>
   refine sim_v (sim_buildSlice t n (fun e he=>?_) ?_)
   ·have hk:elemZero P t=true:=hk
    unfold elemZero at hk;rw[he] at hk;exact hk
   rw[Array.toList_map,Array.toList_map];exact map_pr ps.toList (fun x hx=>h x.2 (by simp[Op.operands];exact⟨x.1,by simpa using hx⟩))
 |makeSlice t l c=>
   refine sim_v (sim_makeSlice t (fun e he=>?_) (h l (by simp[Op.operands])) (h c (by simp[Op.operands])));have hk:elemZero P t=true:=hk;unfold elemZero at hk;rw[he] at hk;exact hk
 |slice t x lo hi mx=>
   cases mx with
   |some m=>
     cases hi with
     |none=>cases hk
     |some hi=>
       have hk:(match P.underlying t with|some (.slice _)=>true|_=>false)=true:=hk;refine sim_v (sim_slice3 t (h x (by simp[Op.operands])) (map_ov lo (fun y hy=>h y (by simp[Op.operands,hy]))) (h hi (by simp[Op.operands])) (h m (by simp[Op.operands])) (hcut t x lo (some hi) (some m) rfl) ?_);split at hk
       ·rename_i e he;exact⟨e,he⟩
       ·cases hk
   |none=>
     exact sim_v (sim_sliceAt t (h x (by simp[Op.operands])) (map_ov lo (fun y hy=>h y (by simp[Op.operands,hy]))) (map_ov hi (fun y hy=>h y (by simp[Op.operands,hy]))) (hcut t x lo hi none rfl))
 |fieldAddr s x n=>exact sim_v (sim_fieldAt s (h x (by simp[Op.operands])) n hk)
 |typeAssert x a b c=>exact sim_v (sim_typeAssert a b c hk (h x (by simp[Op.operands])))
 |makeFunc fn xs ys=>
   cases fn with
   |func f=>
     refine sim_v (Sim.pure _ _ _ ?_);have a1:=map_ar xs (fun x hx=>h x (by simp[Op.operands,hx]));have a2:=map_ar ys (fun x hx=>h x (by simp[Op.operands,hx]));exact .func _ _ _ _ _ (fun l h=>by cases h) a1.1 a2.1 a1.2 a2.2
   |_=>cases hk
 |nilCheck x=>
   have hx:=h x (by simp[Op.operands]);have hk:(match ρ x with|.func (.method _) _ _=>false|_=>true)=true:=hk;dsimp only;generalize ρ x=a at hx hk;generalize ρ' x=b at hx
   cases hx with
   |ptr0=>exact Sim.never _ _ _ (never_runtime _)
   |nilIface=>exact Sim.never _ _ _ (never_runtime _)
   |nilFunc=>exact Sim.never _ _ _ (never_runtime _)
   |func fn xs ys us vs hf h1 h2 i1 i2=>
     cases fn with
     |method n=>cases hk
     |_=>exact Sim.pure _ _ _ (.value _ _ (.func _ _ _ _ _ hf h1 h2 i1 i2))
   |sym l xs ys v' h hb=>cases b<;>first|(cases hb;done)|exact Sim.pure _ _ _ (.value _ _ (.sym l xs ys _ h hb))
   |bool b=>exact Sim.pure _ _ _ (.value _ _ (.bool b))
   |int k n=>exact Sim.pure _ _ _ (.value _ _ (.int k n))
   |float k b=>exact Sim.pure _ _ _ (.value _ _ (.float k b))
   |complex k a b=>exact Sim.pure _ _ _ (.value _ _ (.complex k a b))
   |string s=>exact Sim.pure _ _ _ (.value _ _ (.string s))
   |ptr k r o i h=>exact Sim.pure _ _ _ (.value _ _ (.ptr k r o i h))
   |sl0 l c=>exact Sim.pure _ _ _ (.value _ _ (.sl0 l c))
   |sl k r o l c c' i h hc=>exact Sim.pure _ _ _ (.value _ _ (.sl k r o l c c' i h hc))
   |map0=>exact Sim.pure _ _ _ (.value _ _ .map0)
   |map k r i h=>exact Sim.pure _ _ _ (.value _ _ (.map k r i h))
   |chan0=>exact Sim.pure _ _ _ (.value _ _ .chan0)
   |iface t v v' hv=>exact Sim.pure _ _ _ (.value _ _ (.iface t v v' hv))
   |agg xs ys h hv=>exact Sim.pure _ _ _ (.value _ _ (.agg xs ys h hv))
   |tuple xs ys h hv=>exact Sim.pure _ _ _ (.value _ _ (.tuple xs ys h hv))
 |binOp op t x y u=>
   have hx:=h x (by simp[Op.operands]);have hy:=h y (by simp[Op.operands])
   have key:nilCmp (ρ x) (ρ y)=true→∀(neg:Bool),(op=if neg then .neq else .eql)→Sim P NR τ (do pure (.value (←(do eqGuard op t x y (ρ x) (ρ y);binOp op t (ρ x) (ρ y))))) (do pure (.value (←(do eqGuard op t x y (ρ' x) (ρ' y);binOp op t (ρ' x) (ρ' y))))):=by
    intro hn neg hop;generalize ρ x=a at hx hn;generalize ρ' x=b at hx;generalize ρ y=c at hy hn;generalize ρ' y=d at hy;have he:=sim_eqNil (P:=P) t hx hy hn;refine sim_v ?_;refine Sim.andThen (R:=RU) ?_ ?_
    ·cases neg<;>(subst hop;cases hx<;>cases hy<;>first|(simp[nilCmp] at hn;done)|exact Sim.pure _ _ _ trivial)
    ·intro τ1 _ _ h1 _
     have he1:=sim_eqNil (P:=P) t (hx.mono h1) (hy.mono h1) hn
     have fin:∀(neg:Bool),Sim P RV τ1 (do pure (.bool (xor neg (←Op.equal t a c)))) (do pure (.bool (xor neg (←Op.equal t b d)))):=by
      intro neg;refine Sim.andThen he1 ?_;rintro τ2 q _ h2 rfl;exact Sim.pure _ _ _ (.bool _)
     cases neg
     ·subst hop
      have:=fin false;simp only[Bool.false_xor] at this
      cases hx<;>cases hy<;>first|(simp[nilCmp] at hn;done)|exact this
     ·subst hop
      have:=fin true;simp only[Bool.true_xor] at this
      cases hx<;>cases hy<;>first|(simp[nilCmp] at hn;done)|exact this
   cases op<;>first|(cases hk;done)|skip
   ·exact key hk false rfl
   ·exact key hk true rfl
 |call c=>
   obtain⟨callee,args,ats⟩:=c
   cases callee with
   |builtin b=>
     cases b<;>first|(cases hk;done)|skip
     refine Sim.andThen (R:=fun τ u v=>AR τ u.args v.args∧u.target=.builtin .len ats type (args.map fun|.const _=>true|_=>false)∧v.target=.builtin .len ats type (args.map fun|.const _=>true|_=>false)) (Sim.pure _ _ _ ⟨map_ar args (fun x hx=>h x (by simp[Op.operands,Call.operands,hx])),rfl,rfl⟩) ?_;rintro τ1 ⟨_,us⟩ ⟨_,vs⟩ h1 ⟨ha,e1,e2⟩;dsimp only at e1 e2 ha;subst e1 e2;exact sim_v (sim_lenB _ _ ha)
   |value f=>
     have hf:=h f (by simp[Op.operands,Call.operands]);have ha:=map_ar (τ:=τ) (ρ:=ρ) (ρ':=ρ') args (fun x hx=>h x (by simp[Op.operands,Call.operands,hx]));have hk:(match ρ f with|.func (.func g) _ _=>bodyOk P g|_=>false)=true:=hk;dsimp only[resolve];generalize ρ f=a at hf hk;generalize ρ' f=b at hf
     cases hf<;>first|(cases hk;done)|skip
     rename_i fn xs ys us vs hfn h1 h2 i1 i2
     cases fn<;>first|(cases hk;done)|skip
     rename_i g;exact sim_callFunc g hk ((AR.append ⟨h1,i1⟩ ha).append ⟨h2,i2⟩)
   |invoke r name=>
     have hf:=h r (by simp[Op.operands,Call.operands]);have ha:=map_ar (τ:=τ) (ρ:=ρ) (ρ':=ρ') args (fun x hx=>h x (by simp[Op.operands,Call.operands,hx]));have hk:(match ρ r with|.iface t _=>(methodOk P t name).any (bodyOk P)|_=>false)=true:=hk;dsimp only[resolve];generalize ρ r=a at hf hk;generalize ρ' r=b at hf
     cases hf<;>first|(cases hk;done)|skip
     rename_i t v v' hv
     cases hm:methodOk P t name with
     |none=>simp[hm] at hk
     |some g=>
       simp only[hm,Option.any_some] at hk
       have e0:∀(x:Value) (xs:Array Value),(#[x]++xs)[0]?=some x:=fun x xs=>by simp[Array.getElem?_append]
       have e1:∀(x:Value) (xs:Array Value),(#[x]++xs).extract 1 (#[x]++xs).size=xs:=fun x xs=>by
        apply Array.ext_getElem?;intro i;rw[Array.getElem?_extract]
        by_cases hi:i<xs.size
        ·rw[if_pos (by simp;omega),Array.getElem?_append_right (by simp)]
         simp
        ·rw[if_neg (by simp;omega)]
         simp;omega
       simp only[pure_bind,invoke,e0,e1];exact sim_callMethod t name hm hk hv ha
 |_=>cases hk
end ops
end Go.Ev
