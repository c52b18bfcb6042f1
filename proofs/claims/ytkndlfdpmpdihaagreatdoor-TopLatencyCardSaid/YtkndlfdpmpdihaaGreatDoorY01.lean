/- The model's operations agree on worlds that agree: one by one. The model's operations agree on worlds that agree: those that make and cut. The model's operations agree on worlds that agree: places, parts, texts of types. The model's operations agree on worlds that agree: cuts, lengths, copies, calls Conditions: those that each statement shows. -/
import Derived.Test.YtkndlfdpmpdihaaGreatDoorY00
namespace Go.Ev
open Go.RowKit
set_option linter.unusedVariables false
set_option linter.unusedSimpArgs false
section ops
variable {P:Program} {τ:Rel}
theorem sim_sureAddr {v v':Value} (h:VR τ v v'):Sim P RA τ (Instr.sureAddr v) (Instr.sureAddr v'):=by
 cases h with
 |ptr k r o i t=>exact Sim.pure _ _ _ ⟨k,r,o,i,rfl,rfl,t⟩
 |_=>exact Sim.halt _ _ _
theorem sim_asInt {v v':Value} (h:VR τ v v'):Sim P RE τ (asInt v) (asInt v'):=by
 cases h<;>first|exact Sim.pure _ _ _ rfl|exact Sim.halt _ _ _
theorem sim_asIntOf {v v':Value} (h:VR τ v v'):Sim P RE τ (asIntOf v) (asIntOf v'):=by
 cases h<;>first|exact Sim.pure _ _ _ rfl|exact Sim.halt _ _ _
theorem sim_asBool {v v':Value} (h:VR τ v v'):Sim P RE τ (asBool v) (asBool v'):=by
 cases h<;>first|exact Sim.pure _ _ _ rfl|exact Sim.halt _ _ _
theorem sim_loadAt (t:TypeId) {v v':Value} (h:VR τ v v'):Sim P RV τ (Instr.loadAt t v) (Instr.loadAt t v'):=by
 refine Sim.andThen (sim_sureAddr h) ?_;intro τ' a b hl ha;exact sim_loadVar t ha
theorem sim_storeAt (t:TypeId) {v v' x x':Value} (h:VR τ v v') (hx:VR τ x x'):Sim P RU τ (Instr.storeAt t v x) (Instr.storeAt t v' x'):=by
 refine Sim.andThen (sim_sureAddr h) ?_;intro τ' a b hl ha;exact sim_storeVar t ha (hx.mono hl)
theorem sim_alloc (t:TypeId) (h:zeroOk P t=true):Sim P RV τ (Instr.alloc t true (.tuple #[])) (Instr.alloc t true (.tuple #[])):=by
 refine Sim.andThen (sim_zero t h) ?_;rintro τ' a b hl ⟨rfl,hz⟩;refine Sim.andThen (sim_newVar t (AFb.vr _ _ hz)) ?_;intro τ2 x y hl2 hx;exact Sim.pure _ _ _ hx.vr
theorem sim_box (t:TypeId) {v v':Value} (h:VR τ v v'):Sim P RV τ (Instr.box t v) (Instr.box t v'):=by
 refine Sim.andThen (sim_newVar t h) ?_;intro τ2 x y hl2 hx;exact Sim.pure _ _ _ hx.vr
theorem sim_part (t:TypeId) {xs ys:Array Value} (h:AR τ xs ys) (off:Nat):Sim P RV τ (part t xs off) (part t ys off):=by
 refine Sim.andThen (sim_isAgg t) ?_;rintro τ' a b hl rfl;split
 ·refine Sim.andThen (sim_sizeOf t) ?_
  rintro τ2 n m hl2 ⟨rfl,_⟩;refine Sim.pure _ _ _ (VR.agg_ ⟨by simp[h.1],fun i v v' h1 h2=>?_⟩);rw[Array.getElem?_extract] at h1 h2;rw[h.1] at h1;split at h1
  ·rename_i hi;rw[if_pos hi] at h2;exact(h.2 _ v v' h1 h2).mono (hl.trans hl2)
  ·cases h1
 ·cases hx:xs[off]? with
  |none=>exact Sim.halt _ _ _
  |some v=>
    obtain⟨v',e,hv⟩:=h.get hx;rw[e];exact Sim.pure _ _ _ (hv.mono hl)
theorem sim_asAgg {v v':Value} (h:VR τ v v'):Sim P (fun τ' a b=>AR τ' a b) τ (asAgg v) (asAgg v'):=by
 cases h with
 |agg xs ys h hv=>exact Sim.pure _ _ _ ⟨h,hv⟩
 |_=>exact Sim.halt _ _ _
theorem sim_field (t:TypeId) {v v':Value} (h:VR τ v v') (n:Nat):Sim P RV τ (Instr.field t v n) (Instr.field t v' n):=by
 refine Sim.andThen (sim_underlying t) ?_;rintro τ' a b hl ⟨rfl,hu⟩;split
 ·rename_i _ fields
  cases hf:fields[n]? with
  |none=>exact Sim.halt _ _ _
  |some f=>
    refine Sim.andThen (sim_asAgg (h.mono hl)) ?_;intro τ2 x y hl2 hx;exact sim_part _ hx _
 ·exact Sim.halt _ _ _
def fieldOk (P:Program) (s:TypeId) (n:Nat):Bool:=match P.underlying s with
 |some (.struct fields)=>match fields[n]? with
   |some f=>(P.info? f.type).map (·.size) != some 0
   |none=>true
 |_=>true
theorem sim_fieldPlace {a b:Addr} (h:RA τ a b) (f:Field) (hf:(P.info? f.type).map (·.size)≠some 0):Sim P RA τ (fieldPlace a f) (fieldPlace b f):=by
 refine Sim.andThen (sim_sizeOf f.type) ?_;rintro τ' n m hl ⟨rfl,hn⟩;have:n≠0:=fun e=>hf (by rw[hn,e]);simp only[this,if_false];exact Sim.pure _ _ _ ((h.mono hl).add _)
theorem sim_fieldAt (s:TypeId) {v v':Value} (h:VR τ v v') (n:Nat) (ho:fieldOk P s n=true):Sim P RV τ (Instr.fieldAt s v n) (Instr.fieldAt s v' n):=by
 refine Sim.andThen (sim_underlying s) ?_;rintro τ' a b hl ⟨rfl,hu⟩;split
 ·rename_i _ fields
  cases hf:fields[n]? with
  |none=>exact Sim.halt _ _ _
  |some f=>
    have hz:(P.info? f.type).map (·.size)≠some 0:=by
     intro e;unfold fieldOk at ho;rw[hu] at ho;simp[hf,e] at ho
    refine Sim.andThen (sim_sureAddr (h.mono hl)) ?_;intro τ2 x y hl2 hx;refine Sim.andThen (sim_fieldPlace hx f hz) ?_;intro τ3 p q hl3 hp;exact Sim.pure _ _ _ hp.vr
 ·exact Sim.halt _ _ _
theorem sim_extract {v v':Value} (h:VR τ v v') (n:Nat):Sim P RV τ (Instr.extract v n) (Instr.extract v' n):=by
 cases h with
 |tuple xs ys h hv=>
   simp only[Instr.extract]
   cases hx:xs[n]? with
   |none=>exact Sim.halt _ _ _
   |some v=>
     obtain⟨v',e,hv⟩:=(show AR τ xs ys from⟨h,hv⟩).get hx;rw[e];exact Sim.pure _ _ _ hv
 |_=>exact Sim.halt _ _ _
theorem sim_makeInterface (t:TypeId) {v v':Value} (h:VR τ v v'):Sim P RV τ (Instr.makeInterface t v) (Instr.makeInterface t v'):=by
 refine Sim.andThen (sim_underlying t) ?_;rintro τ' a b hl ⟨rfl,_⟩;split
 ·exact Sim.halt _ _ _
 ·exact Sim.pure _ _ _ (.iface _ _ _ (h.mono hl))
theorem sim_makeMap (t:TypeId) {r r':Option Value} (h:∀v,r=some v→∃v',r'=some v'∧VR τ v v') (h0:r=none→r'=none):Sim P RV τ (Instr.makeMap t r) (Instr.makeMap t r'):=by
 have key:∀ τ':Rel,Sim P RV τ' (do pure (.map (some (←newObj (.map #[] 0))))) (do pure (.map (some (←newObj (.map #[] 0))))):=by
  intro τ';refine Sim.new _ _ _ _ _ (.map _ _ 0 ⟨rfl,fun i e f h=>by simp at h⟩) ?_;intro τ2 k r hl ht;exact Sim.pure _ _ _ (.map _ _ _ ht)
 cases r with
 |none=>rw[h0 rfl];exact key τ
 |some v=>
   obtain⟨v',e,hv⟩:=h v rfl;rw[e];refine Sim.andThen (sim_underlying t) ?_;rintro τ' a b hl ⟨rfl,_⟩;split
   ·refine Sim.andThen (sim_asInt (hv.mono hl)) ?_
    rintro τ2 x y hl2 rfl;exact key τ2
   ·exact Sim.halt _ _ _
end ops
section ops
variable {P:Program} {τ:Rel}
theorem sim_same_mapM {α β:Type} {f:α→Sem β} (hf:∀(τ:Rel) x,Sim P RE τ (f x) (f x)):∀(l:List α) (τ:Rel),Sim P RE τ (l.mapM f) (l.mapM f):=by
 intro l
 induction l with
 |nil=>intro τ;rw[List.mapM_nil];exact Sim.pure _ _ _ rfl
 |cons x l ih=>
   intro τ;rw[List.mapM_cons];refine Sim.andThen (hf τ x) ?_;rintro τ' a b hl rfl;refine Sim.andThen (ih τ') ?_;rintro τ2 a b hl rfl;exact Sim.pure _ _ _ rfl
theorem sim_same_amapM {α β:Type} {f:α→Sem β} (hf:∀(τ:Rel) x,Sim P RE τ (f x) (f x)) (l:Array α) (τ:Rel):Sim P RE τ (l.mapM f) (l.mapM f):=by
 rw[Array.mapM_eq_mapM_toList];refine Sim.andThen (sim_same_mapM hf l.toList τ) ?_;rintro τ' a b hl rfl;exact Sim.pure _ _ _ rfl
def PR (τ:Rel):List (Nat×Value)→List (Nat×Value)→Prop
 | [],[]=>True
 |(i,v)::r,(j,u)::s=>i=j∧VR τ v u∧PR τ r s
 |_,_=>False
theorem PR.mono {τ':Rel} (h:τ.le τ'):∀ {x y:List (Nat×Value)},PR τ x y→PR τ' x y
 | [],[],_=>trivial
 |(i,v)::r,(j,u)::s,⟨a,b,c⟩=>⟨a,b.mono h,PR.mono h c⟩
 | [],_::_,x=>x.elim
 |_::_,[],x=>x.elim
theorem fold_ar:∀(l m:List (Value×Nat)) {xs ys:Array Value} (off:Nat),AR τ xs ys→l.length=m.length→(∀(i:Nat) a b,l[i]?=some a→m[i]?=some b→VR τ a.1 b.1∧a.2=b.2) →
 AR τ (l.foldl (fun cs (x:Value×Nat)=>cs.setIfInBounds (off+x.2) x.1) xs) (m.foldl (fun cs (x:Value×Nat)=>cs.setIfInBounds (off+x.2) x.1) ys):=by
 intro l
 induction l with
 |nil=>
   intro m xs ys off h hl hv
   cases m with
   |nil=>exact h
   |cons=>simp at hl
 |cons x l ih=>
   intro m xs ys off h hl hv
   cases m with
   |nil=>simp at hl
   |cons y m=>
     obtain⟨h1,h2⟩:=hv 0 x y rfl rfl;rw[List.foldl_cons,List.foldl_cons,h2];exact ih m off (h.set h1 _) (by simpa using hl) (fun i a b h3 h4=>hv (i+1) a b h3 h4)
theorem fill_ar (place:Nat→Option (Nat×Nat)):∀(l m:List (Nat×Value)) {xs ys:Array Value},AR τ xs ys→PR τ l m →
 (Instr.fill place xs l=none∧Instr.fill place ys m=none)∨∃us vs,Instr.fill place xs l=some us∧Instr.fill place ys m=some vs∧AR τ us vs:=by
 intro l
 induction l with
 |nil=>
   intro m xs ys h hp
   cases m with
   |nil=>exact .inr ⟨xs,ys,rfl,rfl,h⟩
   |cons=>exact hp.elim
 |cons x l ih=>
   intro m xs ys h hp
   cases m with
   |nil=>exact hp.elim
   |cons y m=>
     obtain⟨i,v⟩:=x;obtain⟨j,u⟩:=y;obtain⟨rfl,hv,hr⟩:=hp;unfold Instr.fill
     cases hpl:place i with
     |none=>exact .inl ⟨rfl,rfl⟩
     |some q=>
       obtain⟨off,size⟩:=q;have hc:=hv.cells;dsimp only;rw[hc.1,h.1];split
       ·exact .inl ⟨rfl,rfl⟩
       ·refine ih m ?_ hr
        have:=fold_ar (τ:=τ) v.cells.zipIdx.toList u.cells.zipIdx.toList off h (by simp[hc.1]) (fun i a b h1 h2=>by
         rw[Array.getElem?_toList,Array.getElem?_zipIdx] at h1 h2
         cases ha:v.cells[i]? with
         |none=>rw[ha] at h1;cases h1
         |some p=>
           cases hb:u.cells[i]? with
           |none=>rw[hb] at h2;cases h2
           |some q=>
             rw[ha] at h1;rw[hb] at h2;cases h1;cases h2
             exact⟨hc.2 i p q ha hb,rfl⟩)
        rw[←Array.foldl_toList,←Array.foldl_toList];exact this
theorem sim_build (t:TypeId) (hz:zeroOk P t=true) {ps qs:Array (Nat×Value)} (h:PR τ ps.toList qs.toList):Sim P RV τ (Instr.build t ps) (Instr.build t qs):=by
 refine Sim.andThen (sim_zero t hz) ?_;rintro τ' z z' hl ⟨rfl,ha⟩;have hzz:AR τ' z.cells z.cells:=(AFb.vr _ _ ha).cells;refine Sim.andThen (sim_underlying t) ?_;rintro τ2 a b hl2 ⟨rfl,hu⟩;have hp:=h.mono (hl.trans hl2);have hz2:=hzz.mono hl2;split
 ·refine Sim.andThen (sim_same_amapM (fun τ f=>?_) _ _) ?_
  ·refine Sim.andThen (sim_sizeOf f.type) ?_
   rintro τ3 n m hl3 ⟨rfl,_⟩;exact Sim.pure _ _ _ rfl
  ·rintro τ3 places b hl3 rfl
   rcases fill_ar (fun i=>places[i]?) ps.toList qs.toList (hz2.mono hl3) (hp.mono hl3) with⟨e1,e2⟩|⟨us,vs,e1,e2,hx⟩
   ·rw[e1];exact Sim.halt _ _ _
   ·rw[e1,e2];exact Sim.pure _ _ _ (VR.agg_ hx)
 ·refine Sim.andThen (sim_sizeOf _) ?_
  rintro τ3 n m hl3 ⟨rfl,_⟩;rcases fill_ar (fun i=>some (i*n,n)) ps.toList qs.toList (hz2.mono hl3) (hp.mono hl3) with⟨e1,e2⟩|⟨us,vs,e1,e2,hx⟩
  ·rw[e1];exact Sim.halt _ _ _
  ·rw[e1,e2];exact Sim.pure _ _ _ (VR.agg_ hx)
 ·exact Sim.halt _ _ _
theorem AR.refl_of {xs:Array Value} (h:∀(i:Nat) v,xs[i]?=some v→VR τ v v):AR τ xs xs:=⟨rfl,fun i v v' h1 h2=>by rw[h1] at h2;cases h2;exact h i v h1⟩
theorem RA.sl {a b:Addr} (x:∃k r,a=⟨k,0,none⟩∧b=⟨r,0,none⟩∧τ k r none) (l c:Nat):VR τ (.slice (some a) l c) (.slice (some b) l c):=by
 obtain⟨k,r,rfl,rfl,t⟩:=x;exact .sl k r 0 l c c none t rfl
theorem sim_newRow' (e:TypeId) {xs ys:Array Value} (h:AR τ xs ys):Sim P (fun τ a b=>∃k r,a=⟨k,0,none⟩∧b=⟨r,0,none⟩∧τ k r none) τ (newRow e xs) (newRow e ys):=by
 refine Sim.new _ _ _ _ _ (.cells _ _ e h) ?_;intro τ' k r hl ht;exact Sim.pure _ _ _ ⟨k,r,rfl,rfl,ht⟩
theorem zeros_ar {z:Array Value} (h:AR τ z z) (n:Nat):AR τ ((Array.range n).map (fun i=>z[i%z.size]!)) ((Array.range n).map (fun i=>z[i%z.size]!)):=by
 refine AR.refl_of (fun i v hv=>?_);rw[Array.getElem?_map] at hv
 cases hi:(Array.range n)[i]? with
 |none=>rw[hi] at hv;cases hv
 |some j=>
   rw[hi] at hv;simp only[Option.map_some,Option.some.injEq] at hv;subst hv
   by_cases hz:z.size=0
   ·have:z=#[]:=Array.eq_empty_of_size_eq_zero hz
    subst this;exact VR.bool false
   ·have hl:j%z.size<z.size:=Nat.mod_lt _ (by omega)
    rw[getElem!_pos z _ hl];exact h.2 _ _ _ (Array.getElem?_eq_getElem hl) (Array.getElem?_eq_getElem hl)
theorem sim_askRoom (τ:Rel) (n:Nat):Sim P RU τ (askRoom n) (askRoom n):=by
 unfold askRoom;split
 ·exact Sim.mark _ _ _ _ _ (Sim.pure _ _ _ trivial)
 ·exact Sim.pure _ _ _ trivial
theorem sim_makeSlice (t:TypeId) (hz:∀e,P.underlying t=some (.slice e)→zeroOk P e=true) {l l' c c':Value} (hl:VR τ l l') (hc:VR τ c c'):Sim P RV τ (Instr.makeSlice t l c) (Instr.makeSlice t l' c'):=by
 refine Sim.andThen (sim_underlying t) ?_;rintro τ1 a b h1 ⟨rfl,hu⟩;split
 ·rename_i _ elem
  have z1:=hz elem hu;refine Sim.andThen (sim_asInt (hl.mono h1)) ?_;rintro τ2 len _ h2 rfl;refine Sim.andThen (sim_asInt (hc.mono (h1.trans h2))) ?_;rintro τ3 cap _ h3 rfl;refine Sim.andThen (sim_typeInfo elem) ?_;rintro τ4 i _ h4 ⟨rfl,hi⟩;dsimp only;split
  ·split
   ·exact Sim.never _ _ _ ((never_runtime _).bind _)
   ·split
    ·exact Sim.never _ _ _ ((never_runtime _).bind _)
    ·exact Sim.never _ _ _ (Never.then _ (fun x=>(never_runtime _).bind _))
  ·refine Sim.andThen (sim_askRoom _ _) ?_
   rintro τ5 _ _ h5 _;refine Sim.andThen (sim_sizeOf elem) ?_;rintro τ6 n _ h6 ⟨rfl,hn⟩;split
   ·refine Sim.andThen (R:=fun τ u v=>u=v∧AR τ u v) (Sim.pure _ _ _ ⟨rfl,AR.nil _⟩) ?_
    rintro τ7 z _ h7 ⟨rfl,ha⟩;refine Sim.andThen (sim_newRow' elem (zeros_ar ha _)) ?_;intro τ8 x y h8 hx;exact Sim.pure _ _ _ (RA.sl hx _ _)
   ·refine Sim.andThen (sim_zero elem z1) ?_
    rintro τ7 z _ h7 ⟨rfl,ha⟩;refine Sim.andThen (R:=fun τ u v=>u=v∧AR τ u v) (Sim.pure _ _ _ ⟨rfl,(AFb.vr _ _ ha).cells⟩) ?_;rintro τ7 z _ h7 ⟨rfl,ha⟩;refine Sim.andThen (sim_newRow' elem (zeros_ar ha _)) ?_;intro τ8 x y h8 hx;exact Sim.pure _ _ _ (RA.sl hx _ _)
 ·exact Sim.halt _ _ _
theorem sim_buildSlice (t:TypeId) (n:Nat) (hz:∀e,P.underlying t=some (.slice e)→zeroOk P e=true) {ps qs:Array (Nat×Value)} (h:PR τ ps.toList qs.toList):Sim P RV τ (Instr.buildSlice t n ps) (Instr.buildSlice t n qs):=by
 refine Sim.andThen (sim_underlying t) ?_;rintro τ1 a b h1 ⟨rfl,hu⟩;split
 ·rename_i _ elem
  have z1:=hz elem hu;refine Sim.andThen (sim_sizeOf elem) ?_;rintro τ2 m _ h2 ⟨rfl,hn⟩;dsimp only
  by_cases hbig:n*m > 2^24
  ·rw[if_pos hbig]
   exact Sim.halt _ _ _
  ·rw[if_neg hbig,if_neg hbig]
   have tail:∀(τ3:Rel) (z:Array Value),τ2.le τ3→AR τ3 z z→Sim P RV τ3 _ _:=fun τ3 z h3 ha=>by
    rcases fill_ar (fun i=>some (i*m,m)) ps.toList qs.toList (zeros_ar ha (n*m)) (h.mono (h1.trans (h2.trans h3))) with⟨e1,e2⟩|⟨us,vs,e1,e2,hx⟩
    ·exact(show Sim P RV τ3 (match Instr.fill (fun i=>some (i*m,m)) ((Array.range (n*m)).map (z[·%z.size]!)) ps.toList with
      |some cells=>(do pure (.slice (some (←newRow elem cells)) n n))
      |_=>stuck "buildSlice: a part of the wrong size") (match Instr.fill (fun i=>some (i*m,m)) ((Array.range (n*m)).map (z[·%z.size]!)) qs.toList with
      |some cells=>(do pure (.slice (some (←newRow elem cells)) n n))
      |_=>stuck "buildSlice: a part of the wrong size") from by rw[e1];exact Sim.halt _ _ _)
    ·rw[e1,e2]
     refine Sim.andThen (sim_newRow' elem hx) ?_;intro τ8 x y h8 hx;exact Sim.pure _ _ _ (RA.sl hx _ _)
   split
   ·exact tail τ2 #[] (Rel.le.refl _) (AR.nil _)
   ·refine Sim.andThen (sim_zero elem z1) ?_
    rintro τ7 z _ h7 ⟨rfl,ha⟩;exact tail τ7 _ h7 (AFb.vr _ _ ha).cells
 ·exact Sim.halt _ _ _
end ops
section ops
variable {P:Program} {τ:Rel}
def OA (τ:Rel):Option Addr→Option Addr→Prop
 |none,none=>True
 |some a,some b=>RA τ a b
 |_,_=>False
theorem OA.mono {τ':Rel} (h:τ.le τ') {a b:Option Addr} (x:OA τ a b):OA τ' a b:=by
 cases a<;>cases b<;>first|trivial|exact x.elim|exact RA.mono h x
def idxTail (k:IntKind) (n:Int) (t:TypeId) (x:Option Addr×Nat×TypeId):Sem Value:=do
 let tiny:=x.2.1≤1&&(match ←underlying t with|.array ..=>true|_=>false)
 match x.1 with
 |some a=>
   if 0≤n∧n<x.2.1 then pure (.pointer (some (a.add (n.toNat*(←sizeOf x.2.2)))))
   else if tiny then unsupported (.noEntry "op/indexAddr.an index out of range at an array of length 0 or 1 (ledger 616)")
   else boundsPanic k n x.2.1 .index
 |none=>boundsPanic k n 0 .index
theorem sim_idxTail (k:IntKind) (n:Int) (t:TypeId) {base base':Option Addr} (len:Nat) (elem:TypeId) (ha:OA τ base base'):Sim P RV τ (idxTail k n t (base,len,elem)) (idxTail k n t (base',len,elem)):=by
 refine Sim.andThen (sim_underlying t) ?_;rintro τ4 d2 _ h4 ⟨rfl,hu2⟩;have ha:=ha.mono h4
 cases base with
 |none=>
   cases base' with
   |none=>exact Sim.never _ _ _ (never_bounds _ _ _ _)
   |some b=>exact ha.elim
 |some a=>
   cases base' with
   |none=>exact ha.elim
   |some b=>
     dsimp only;split
     ·refine Sim.andThen (sim_sizeOf elem) ?_
      rintro τ5 m _ h5 ⟨rfl,_⟩;exact Sim.pure _ _ _ ((RA.mono h5 ha).add _).vr
     ·split<;>split<;>first|exact Sim.halt _ _ _|exact Sim.never _ _ _ (never_bounds _ _ _ _)
theorem sim_indexAt (t:TypeId) {x x' i i':Value} (hx:VR τ x x') (hi:VR τ i i'):Sim P RV τ (Instr.indexAt t x i) (Instr.indexAt t x' i'):=by
 refine Sim.andThen (sim_asIntOf hi) ?_;rintro τ1 ⟨k,n⟩ _ h1 rfl;refine Sim.andThen (sim_underlying t) ?_;rintro τ2 d _ h2 ⟨rfl,hu⟩;have hx2:=hx.mono (h1.trans h2)
 cases d with
 |array len elem=>
   refine Sim.andThen (sim_sureAddr hx2) ?_;intro τ3 a b h3 ha;exact sim_idxTail k n t len elem (base:=some a) (base':=some b) ha
 |slice elem=>
   cases hx2 with
   |sl0 l c=>exact sim_idxTail k n t l elem (base:=none) (base':=none) trivial
   |sl k2 r o l c c' i ht hc=>exact sim_idxTail k n t l elem (base:=some ⟨k2,o,none⟩) (base':=some ⟨r,o,none⟩) ⟨k2,r,o,i,rfl,rfl,ht⟩
   |_=>exact Sim.halt _ _ _
 |_=>cases hx2<;>exact Sim.halt _ _ _
theorem sim_index (t:TypeId) {x x' i i':Value} (hx:VR τ x x') (hi:VR τ i i'):Sim P RV τ (Instr.index t x i) (Instr.index t x' i'):=by
 refine Sim.andThen (sim_asIntOf hi) ?_;rintro τ1 ⟨k,n⟩ _ h1 rfl;refine Sim.andThen (sim_underlying t) ?_;rintro τ2 d _ h2 ⟨rfl,hu⟩;have hx2:=hx.mono (h1.trans h2)
 cases hx2 with
 |agg xs ys hs hv=>
   split
   ·rename_i h;cases h
    split
    ·refine Sim.andThen (sim_sizeOf _) ?_
     rintro τ5 m _ h5 ⟨rfl,_⟩;exact sim_part _ (AR.mono h5 ⟨hs,hv⟩) _
    ·exact Sim.never _ _ _ (never_bounds _ _ _ _)
   ·rename_i h;cases h
   ·exact Sim.halt _ _ _
 |string s=>
   split
   ·rename_i h;cases h
   ·rename_i h;cases h
    split
    ·exact Sim.pure _ _ _ (.int _ _)
    ·exact Sim.never _ _ _ (never_bounds _ _ _ _)
   ·exact Sim.halt _ _ _
 |_=>
   split
   ·rename_i h;cases h
   ·rename_i h;cases h
   ·exact Sim.halt _ _ _
theorem sim_typeAssert (t u:TypeId) (c:Bool) (hz:zeroOk P u=true) {x x':Value} (hx:VR τ x x'):Sim P RV τ (Instr.typeAssert x t u c) (Instr.typeAssert x' t u c):=by
 have holds:∀(τ:Rel) (v v':Value),VR τ v v'→Sim P RV τ (pure (if c then .tuple #[v,.bool true] else v)) (pure (if c then .tuple #[v',.bool true] else v')):=by
  intro τ v v' h;cases c
  ·exact Sim.pure _ _ _ h
  ·exact Sim.pure _ _ _ (VR.tuple_ (((AR.nil _).push h).push (.bool true)))
 have fails:∀(τ:Rel) (a b:Option TypeId) (m:String),Sim P RV τ (if c then(do pure (.tuple #[←zeroValue u,.bool false])) else runtimePanic (.typeAssertion a b u m)) (if c then(do pure (.tuple #[←zeroValue u,.bool false])) else runtimePanic (.typeAssertion a b u m)):=by
  intro τ a b m;cases c
  ·rw[if_neg (by simp)]
   exact Sim.never _ _ _ (never_runtime _)
  ·rw[if_pos rfl]
   refine Sim.andThen (sim_zero u hz) ?_;rintro τ1 z _ h1 ⟨rfl,ha⟩;exact Sim.pure _ _ _ (VR.tuple_ (((AR.nil _).push (AFb.vr _ _ ha)).push (.bool false)))
 unfold Instr.typeAssert;refine Sim.andThen (sim_underlying u) ?_;rintro τ2 d _ h2 ⟨rfl,hu⟩;have hx2:=hx.mono h2
 cases hx2 with
 |nilIface=>
   split
   ·exact fails _ _ _ _
   ·rename_i h;cases h
   ·exact fails _ _ _ _
   ·rename_i h;cases h
   ·exact Sim.halt _ _ _
 |iface t v v' hv=>
   split
   ·rename_i h;cases h
   ·rename_i h;cases h
    refine Sim.andThen (sim_typeInfo t) ?_;rintro τ3 i _ h3 ⟨rfl,_⟩;split
    ·exact holds _ _ _ ((VR.iface _ _ _ hv).mono h3)
    ·exact fails _ _ _ _
   ·rename_i h;cases h
   ·rename_i h;cases h
    split
    ·exact holds _ _ _ hv
    ·exact fails _ _ _ _
   ·exact Sim.halt _ _ _
 |_=>
   split
   ·rename_i h;cases h
   ·rename_i h;cases h
   ·rename_i h;cases h
   ·rename_i h;cases h
   ·exact Sim.halt _ _ _
theorem sim_sliceBound {x x':Value} (hx:VR τ x x') (y:Nat) (c:BoundsCode) {y':Nat} (hy:y≤y'):Sim P (fun _ a b=>a=b∧∀k n,x=.int k n→a=n.toNat) τ (Instr.sliceBound x y c) (Instr.sliceBound x' y' c):=by
 refine Sim.andThen (R:=fun _ a b=>a=b∧∀k n,x=.int k n→a=(k,n)) ?_ ?_
 ·cases hx<;>first|exact Sim.halt _ _ _|exact Sim.pure _ _ _ ⟨rfl,fun k n h=>by cases h;rfl⟩
 rintro τ1 ⟨k,n⟩ _ h1 ⟨rfl,hkn⟩;dsimp only
 by_cases h:0≤n∧n≤y
 ·rw[if_pos h,if_pos ⟨h.1,by have:=h.2;omega⟩]
  exact Sim.pure _ _ _ ⟨rfl,fun k2 n2 h2=>by have:=hkn k2 n2 h2;cases this;rfl⟩
 ·rw[if_neg h]
  exact Sim.never _ _ _ (never_bounds _ _ _ _)
def OV (τ:Rel):Option Value→Option Value→Prop
 |none,none=>True
 |some a,some b=>VR τ a b
 |_,_=>False
theorem OV.mono {τ':Rel} (h:τ.le τ') {a b:Option Value} (x:OV τ a b):OV τ' a b:=by
 cases a<;>cases b<;>first|trivial|exact x.elim|exact VR.mono h x
theorem sim_sliceBounds (b:Bool) (len cap cap':Nat) (hcap:cap≤cap') {lo lo' hi hi':Option Value} (hl:OV τ lo lo') (hh:OV τ hi hi') :
 Sim P (fun τ (u v:Nat×Nat×Nat)=>u.1=v.1∧u.2.1=v.2.1∧u.2.2=cap∧v.2.2=cap'∧((lo=none∨∃k,lo=some (.int k 0))→u.1=0)) τ (Instr.sliceBounds b len cap lo hi none) (Instr.sliceBounds b len cap' lo' hi' none):=by
 have tail:∀(τ1:Rel) (h:Nat),τ.le τ1→Sim P (fun τ (u v:Nat×Nat×Nat)=>u.1=v.1∧u.2.1=v.2.1∧u.2.2=cap∧v.2.2=cap'∧((lo=none∨∃k,lo=some (.int k 0))→u.1=0)) τ1
  (do let l ←(match lo with|some v=>Instr.sliceBound v h .sliceB|none=>pure 0);pure (l,h,cap)) (do let l ←(match lo' with|some v=>Instr.sliceBound v h .sliceB|none=>pure 0);pure (l,h,cap')):=by
  intro τ1 h h1;have hl1:=hl.mono h1
  cases lo with
  |none=>
    cases lo' with
    |none=>exact Sim.pure _ _ _ ⟨rfl,rfl,rfl,rfl,fun _=>rfl⟩
    |some v=>exact hl1.elim
  |some u=>
    cases lo' with
    |none=>exact hl1.elim
    |some v=>
      refine Sim.andThen (sim_sliceBound hl1 h .sliceB (Nat.le_refl _)) ?_;rintro τ2 a _ h2 ⟨rfl,hn⟩
      exact Sim.pure _ _ _ ⟨rfl,rfl,rfl,rfl,fun h=>by
       rcases h with h|⟨k,h⟩
       ·cases h
       ·cases h;exact hn k 0 rfl⟩
 cases hi with
 |none=>
   cases hi' with
   |none=>
     have:=tail τ len (Rel.le.refl _)
     cases lo<;>cases lo'<;>exact this
   |some v=>exact hh.elim
 |some u=>
   cases hi' with
   |none=>exact hh.elim
   |some v=>
     have:Sim P (fun τ (u v:Nat×Nat×Nat)=>u.1=v.1∧u.2.1=v.2.1∧u.2.2=cap∧v.2.2=cap'∧((lo=none∨∃k,lo=some (.int k 0))→u.1=0)) τ
      (do let h ←Instr.sliceBound u cap (if b then .sliceAcap else .sliceAlen);let l ←(match lo with|some v=>Instr.sliceBound v h .sliceB|none=>pure 0);pure (l,h,cap))
      (do let h ←Instr.sliceBound v cap' (if b then .sliceAcap else .sliceAlen);let l ←(match lo' with|some v=>Instr.sliceBound v h .sliceB|none=>pure 0);pure (l,h,cap')):=by
      refine Sim.andThen (sim_sliceBound hh cap _ hcap) ?_;rintro τ1 h _ h1 ⟨rfl,_⟩;exact tail τ1 h h1
     cases lo<;>cases lo'<;>exact this
end ops
section ops
variable {P:Program} {τ:Rel}
def cutOk (τ:Rel) (x:Value) (lo:Option Value):Prop:=
 match x with
 |.slice (some a) _ _=>(∀r i,τ a.block r i→i=none)∨lo=none∨∃k,lo=some (.int k 0)
 |.pointer (some a)=>∀r i,τ a.block r i→i=none
 |_=>True
theorem capOk.cut {c c' o l s:Nat} (h:capOk c c' o none):capOk (c-l) (c'-l) (o+l*s) none:=by
 have h:c=c':=h;subst h;exact(rfl:c-l=c-l)
def arrTail (n:Nat) (elem:TypeId) (lo hi:Option Value) (a:Addr):Sem Value:=do
 let (l,h,m) ←Instr.sliceBounds false n n lo hi none
 let size ←sizeOf elem
 pure (.slice (some (if m=l then a else a.add (l*size))) (h-l) (m-l))
theorem sim_arrTail (n:Nat) (elem:TypeId) {lo lo' hi hi':Option Value} (hl:OV τ lo lo') (hh:OV τ hi hi') {k r o:Nat} (ht:τ k r none):Sim P RV τ (arrTail n elem lo hi ⟨k,o,none⟩) (arrTail n elem lo' hi' ⟨r,o,none⟩):=by
 refine Sim.andThen (sim_sliceBounds false n n n (Nat.le_refl _) hl hh) ?_;rintro τ4 ⟨l,h,m⟩ ⟨l',h',m'⟩ h4 ⟨e1,e2,e3,e4,e5⟩;cases e1;cases e2;dsimp only at e3 e4;refine Sim.andThen (sim_sizeOf elem) ?_;rintro τ5 z _ h5 ⟨rfl,_⟩;refine Sim.pure _ _ _ ?_;rw[e3,e4];have t:=h5 _ _ _ (h4 _ _ _ ht)
 by_cases hl0:n=l
 ·rw[if_pos hl0,if_pos hl0]
  exact .sl _ _ _ _ _ _ none t rfl
 ·rw[if_neg hl0,if_neg hl0]
  simp only[add_eq];exact .sl _ _ _ _ _ _ none t rfl
theorem sim_slice (t:TypeId) {x x':Value} (hx:VR τ x x') {lo lo' hi hi':Option Value} (hl:OV τ lo lo') (hh:OV τ hi hi') (hc:cutOk τ x lo) :
 Sim P RV τ (Instr.slice t x lo hi none) (Instr.slice t x' lo' hi' none):=by
 refine Sim.andThen (sim_underlying t) ?_;rintro τ1 d _ h1 ⟨rfl,hu⟩;have hl1:=hl.mono h1;have hh1:=hh.mono h1
 cases d with
 |string=>
   cases hx with
   |string s=>
     refine Sim.andThen (sim_sliceBounds false s.size s.size s.size (Nat.le_refl _) hl1 hh1) ?_;rintro τ2 ⟨l,h,m⟩ ⟨l',h',m'⟩ h2 ⟨e1,e2,_,_,_⟩;cases e1;cases e2;exact Sim.pure _ _ _ (.string _)
   |_=>exact Sim.halt _ _ _
 |slice elem=>
   cases hx with
   |sl0 ln c=>
     refine Sim.andThen (sim_sliceBounds true ln c c (Nat.le_refl _) hl1 hh1) ?_;rintro τ2 ⟨l,h,m⟩ ⟨l',h',m'⟩ h2 ⟨e1,e2,e3,e4,e5⟩;cases e1;cases e2;dsimp only at e3 e4;refine Sim.andThen (sim_sizeOf elem) ?_;rintro τ3 n _ h3 ⟨rfl,_⟩;refine Sim.pure _ _ _ ?_;rw[e3,e4];simp only[Option.map_none,ite_self];exact .sl0 _ _
   |sl k r o ln c c' i ht hcap=>
     have hcc:c≤c':=by
      cases i with
      |none=>exact Nat.le_of_eq hcap
      |some q=>exact hcap.1
     refine Sim.andThen (sim_sliceBounds true ln c c' hcc hl1 hh1) ?_;rintro τ2 ⟨l,h,m⟩ ⟨l',h',m'⟩ h2 ⟨e1,e2,e3,e4,e5⟩;cases e1;cases e2;dsimp only at e3 e4;refine Sim.andThen (sim_sizeOf elem) ?_;rintro τ3 n _ h3 ⟨rfl,_⟩;refine Sim.pure _ _ _ ?_;rw[e3,e4];have ht3:=h3 _ _ _ (h2 _ _ _ (h1 _ _ _ ht))
     have hk:i=none∨l=0:=by
      rcases hc with h|h
      ·exact .inl (h _ _ ht)
      ·exact .inr (e5 h)
     rcases hk with rfl|rfl
     ·have hcap:c=c':=hcap
      subst hcap
      by_cases hl0:c=l
      ·rw[if_pos hl0,if_pos hl0]
       exact .sl _ _ _ _ _ _ none ht3 rfl
      ·rw[if_neg hl0,if_neg hl0]
       simp only[Option.map_some,add_eq];exact .sl _ _ _ _ _ _ none ht3 rfl
     ·simp only[Option.map_some,add_eq,Nat.zero_mul,Nat.add_zero,ite_self,Nat.sub_zero]
      exact .sl _ _ _ _ _ _ i ht3 hcap
   |_=>exact Sim.halt _ _ _
 |pointer arr=>
   cases hx with
   |ptr k r o i t=>
     have hi:i=none:=hc _ _ t;subst hi;refine Sim.andThen (R:=fun τ' a b=>a=⟨k,o,none⟩∧b=⟨r,o,none⟩) (Sim.pure _ _ _ ⟨rfl,rfl⟩) ?_;rintro τ2 _ _ h2 ⟨rfl,rfl⟩;refine Sim.andThen (sim_underlying arr) ?_;rintro τ3 d _ h3 ⟨rfl,_⟩
     cases d with
     |array n elem=>exact sim_arrTail n elem (hl1.mono (h2.trans h3)) (hh1.mono (h2.trans h3)) (h3 _ _ _ (h2 _ _ _ (h1 _ _ _ t)))
     |_=>exact Sim.halt _ _ _
   |ptr0=>exact Sim.never _ _ _ (Never.bind (by unfold asAddr;exact never_runtime _) _)
   |_=>exact Sim.halt _ _ _
 |_=>cases hx<;>exact Sim.halt _ _ _
theorem sim_underlying_then {α β:Type} {R:Rel→α→β→Prop} (t:TypeId) {f:TypeDesc→Sem α} {g:TypeDesc→Sem β} (h:∀d,P.underlying t=some d→Sim P R τ (f d) (g d)):Sim P R τ (underlying t >>= f) (underlying t >>= g):=by
 refine Sim.program _ _ _ ?_;show Sim P R τ ((match P.underlying t with|some d=>(Sem.pure d:Sem TypeDesc)|none=>stuck "no such type").bind f) ((match P.underlying t with|some d=>(Sem.pure d:Sem TypeDesc)|none=>stuck "no such type").bind g)
 cases hd:P.underlying t with
 |none=>exact Sim.halt _ _ _
 |some d=>exact h d hd
theorem sim_sliceAt (t:TypeId) {x x':Value} (hx:VR τ x x') {lo lo' hi hi':Option Value} (hl:OV τ lo lo') (hh:OV τ hi hi') (hc:cutOk τ x lo) :
 Sim P RV τ (Instr.sliceAt t x lo hi none) (Instr.sliceAt t x' lo' hi' none):=by
 refine sim_underlying_then t (fun d hd=>?_);have other:Sim P RV τ (Instr.slice t x lo hi none) (Instr.slice t x' lo' hi' none):=sim_slice t hx hl hh hc
 cases d with
 |array n elem=>
   cases hx with
   |ptr k r o i t=>
     have hi:i=none:=hc _ _ t;subst hi;exact sim_arrTail n elem hl hh t
   |_=>exact Sim.halt _ _ _
 |_=>exact other
theorem sim_sliceBounds3 (b:Bool) (len cap cap':Nat) (hcap:cap≤cap') {lo lo':Option Value} {hi hi' mx mx':Value} (hl:OV τ lo lo') (hh:VR τ hi hi') (hm:VR τ mx mx') :
 Sim P (fun τ (u v:Nat×Nat×Nat)=>u=v∧u.2.2≤cap∧((lo=none∨∃k,lo=some (.int k 0))→u.1=0)) τ (Instr.sliceBounds b len cap lo (some hi) (some mx)) (Instr.sliceBounds b len cap' lo' (some hi') (some mx')):=by
 have bd:∀(τ:Rel) {x x':Value} (hx:VR τ x x') (y y':Nat) (hy:y≤y') (c:BoundsCode),Sim P (fun _ a b=>a=b∧a≤y) τ (Instr.sliceBound x y c) (Instr.sliceBound x' y' c):=by
  intro τ x x' hx y y' hy c;refine Sim.andThen (sim_asIntOf hx) ?_;rintro τ1 ⟨k,n⟩ _ h1 rfl;dsimp only
  by_cases h:0≤n∧n≤y
  ·rw[if_pos h,if_pos ⟨h.1,by have:=h.2;omega⟩]
   exact Sim.pure _ _ _ ⟨rfl,by have:=h.2;omega⟩
  ·rw[if_neg h]
   exact Sim.never _ _ _ (never_bounds _ _ _ _)
 have tail:∀(τ1:Rel) (h m:Nat),τ.le τ1→m≤cap→Sim P (fun τ (u v:Nat×Nat×Nat)=>u=v∧u.2.2≤cap∧((lo=none∨∃k,lo=some (.int k 0))→u.1=0)) τ1
  (do let l ←(match lo with|some v=>Instr.sliceBound v h .slice3C|none=>pure 0);pure (l,h,m)) (do let l ←(match lo' with|some v=>Instr.sliceBound v h .slice3C|none=>pure 0);pure (l,h,m)):=by
  intro τ1 h m h1 hmc;have hl1:=hl.mono h1
  cases lo with
  |none=>
    cases lo' with
    |none=>exact Sim.pure _ _ _ ⟨rfl,hmc,fun _=>rfl⟩
    |some v=>exact hl1.elim
  |some u=>
    cases lo' with
    |none=>exact hl1.elim
    |some v=>
      refine Sim.andThen (sim_sliceBound hl1 h .slice3C (Nat.le_refl _)) ?_;rintro τ2 a _ h2 ⟨rfl,hn⟩
      exact Sim.pure _ _ _ ⟨rfl,hmc,fun h=>by
       rcases h with h|⟨k,h⟩
       ·cases h
       ·cases h;exact hn k 0 rfl⟩
 have:Sim P (fun τ (u v:Nat×Nat×Nat)=>u=v∧u.2.2≤cap∧((lo=none∨∃k,lo=some (.int k 0))→u.1=0)) τ
  (do let m ←Instr.sliceBound mx cap (if b then .slice3Acap else .slice3Alen);let h ←Instr.sliceBound hi m .slice3B;let l ←(match lo with|some v=>Instr.sliceBound v h .slice3C|none=>pure 0);pure (l,h,m))
  (do let m ←Instr.sliceBound mx' cap' (if b then .slice3Acap else .slice3Alen);let h ←Instr.sliceBound hi' m .slice3B;let l ←(match lo' with|some v=>Instr.sliceBound v h .slice3C|none=>pure 0);pure (l,h,m)):=by
  refine Sim.andThen (bd τ hm cap cap' hcap _) ?_;rintro τ1 m _ h1 ⟨rfl,hmc⟩;refine Sim.andThen (bd τ1 (hh.mono h1) m m (Nat.le_refl _) _) ?_;rintro τ2 h _ h2 ⟨rfl,_⟩;exact tail τ2 h m (h1.trans h2) hmc
 cases lo<;>cases lo'<;>exact this
theorem sim_slice3 (t:TypeId) {x x':Value} (hx:VR τ x x') {lo lo':Option Value} {hi hi' mx mx':Value} (hl:OV τ lo lo') (hh:VR τ hi hi') (hm:VR τ mx mx') (hc:cutOk τ x lo) (hs:∃e,P.underlying t=some (.slice e)) :
 Sim P RV τ (Instr.sliceAt t x lo (some hi) (some mx)) (Instr.sliceAt t x' lo' (some hi') (some mx')):=by
 obtain⟨e,hs⟩:=hs;refine sim_underlying_then t (fun d hd=>?_);rw[hs] at hd;cases hd;refine Sim.andThen (sim_underlying t) ?_;rintro τ1 d _ h1 ⟨rfl,hu⟩;rw[hs] at hu;cases hu;have hl1:=hl.mono h1;have hh1:=hh.mono h1;have hm1:=hm.mono h1
 cases hx with
 |sl0 ln c=>
   refine Sim.andThen (sim_sliceBounds3 true ln c c (Nat.le_refl _) hl1 hh1 hm1) ?_;rintro τ2 ⟨l,h,m⟩ _ h2 ⟨rfl,e3,e5⟩;refine Sim.andThen (sim_sizeOf e) ?_;rintro τ3 n _ h3 ⟨rfl,_⟩;refine Sim.pure _ _ _ ?_;simp only[Option.map_none,ite_self];exact .sl0 _ _
 |sl k r o ln c c' i ht hcap=>
   have hcc:c≤c':=by
    cases i with
    |none=>exact Nat.le_of_eq hcap
    |some q=>exact hcap.1
   refine Sim.andThen (sim_sliceBounds3 true ln c c' hcc hl1 hh1 hm1) ?_;rintro τ2 ⟨l,h,m⟩ _ h2 ⟨rfl,e3,e5⟩;dsimp only at e3 e5;refine Sim.andThen (sim_sizeOf e) ?_;rintro τ3 n _ h3 ⟨rfl,_⟩;refine Sim.pure _ _ _ ?_;have ht3:=h3 _ _ _ (h2 _ _ _ (h1 _ _ _ ht))
   have hk:i=none∨l=0:=by
    rcases hc with h|h
    ·exact .inl (h _ _ ht)
    ·exact .inr (e5 h)
   rcases hk with rfl|rfl
   ·by_cases hl0:m=l
    ·rw[if_pos hl0,if_pos hl0]
     exact .sl _ _ _ _ _ _ none ht3 rfl
    ·rw[if_neg hl0,if_neg hl0]
     simp only[Option.map_some,add_eq];exact .sl _ _ _ _ _ _ none ht3 rfl
   ·simp only[Option.map_some,add_eq,Nat.zero_mul,Nat.add_zero,ite_self,Nat.sub_zero]
    refine .sl _ _ _ _ _ _ i ht3 ?_
    cases i with
    |none=>exact rfl
    |some q=>
      obtain⟨mm,z⟩:=q;refine⟨Nat.le_refl _,?_⟩;have h1:m*z≤c'*z:=Nat.mul_le_mul_right _ (Nat.le_trans e3 hcc);have:=hcap.2;omega
 |_=>exact Sim.halt _ _ _
theorem sim_lenB (ts:Array TypeId) (t:TypeId) {xs ys:Array Value} (h:AR τ xs ys):Sim P RV τ (Builtin.len_ ts t xs) (Builtin.len_ ts t ys):=by
 unfold Builtin.len_
 cases hx:xs[0]? with
 |none=>
   cases ts[0]?<;>exact Sim.halt _ _ _
 |some v=>
   obtain⟨v',e,hv⟩:=h.get hx;rw[e]
   cases ht:ts[0]? with
   |none=>exact Sim.halt _ _ _
   |some u=>
     refine Sim.andThen (sim_underlying u) ?_;rintro τ1 d _ h1 ⟨rfl,hu⟩;have hv1:=hv.mono h1
     have arr:∀a,Sim P RV τ1 (do
      let .array n _ ←underlying a|stuck "len: pointer to array expected"
      pure (goInt n)) (do
      let .array n _ ←underlying a|stuck "len: pointer to array expected"
      pure (goInt n)):=by
      intro a;refine Sim.andThen (sim_underlying a) ?_;rintro τ2 d _ h2 ⟨rfl,_⟩;split
      ·exact Sim.pure _ _ _ (.int _ _)
      ·exact Sim.halt _ _ _
     cases d with
     |array n e=>exact Sim.pure _ _ _ (.int _ _)
     |pointer a=>exact arr a
     |string=>cases hv1<;>first|exact Sim.pure _ _ _ (.int _ _)|exact Sim.halt _ _ _
     |slice a=>cases hv1<;>first|exact Sim.pure _ _ _ (.int _ _)|exact Sim.halt _ _ _
     |map a b=>
       cases hv1 with
       |map0=>exact Sim.pure _ _ _ (.int _ _)
       |map k r i ht=>
         refine Sim.getObj _ _ _ _ _ _ ht ?_;intro o o' ho
         cases ho with
         |map es fs c he=>
           refine Sim.pure _ _ _ ?_;rw[show es.size=fs.size from he.1];exact .int _ _
         |_=>exact Sim.halt _ _ _
       |_=>exact Sim.halt _ _ _
     |chan a b=>cases hv1<;>first|exact Sim.pure _ _ _ (.int _ _)|exact Sim.halt _ _ _
     |_=>cases hv1<;>exact Sim.halt _ _ _
end ops
inductive NR (τ:Rel):Next→Next→Prop
 |value (v v':Value):VR τ v v'→NR τ (.value v) (.value v')
 |skip:NR τ .skip .skip
 |enter (f:FuncId) (xs ys:Array Value):AR τ xs ys→NR τ (.enter f xs) (.enter f ys)
def bodyOk (P:Program) (f:FuncId):Bool:=match P.funcs[f]? with
 |some fn=>fn.body.isSome&&!(fn.name == "runtime.NumGoroutine")
 |none=>false
def methodOk (P:Program) (t:TypeId) (name:String):Option FuncId:=match P.info? t with
 |some i=>match i.methods.find? (·.name==name) with
   |some m=>if m.path.toList.isEmpty then match m.func with
    |some (f,true)=>match P.underlying t with|some (.pointer _)=>some f|_=>none
    |_=>none
     else none
   |none=>none
 |none=>none
def nilCmp:Value→Value→Bool
 |.pointer (some _),.pointer none=>true
 |.slice (some _) _ _,.slice none _ _=>true
 |.map (some _),.map none=>true
 |.func (.yield _) ..,.nilFunc=>false
 |.func ..,.nilFunc=>true
 |.iface ..,.nilIface=>true
 |.pointer none,.pointer (some _)=>true
 |_,_=>false
section ops
variable {P:Program} {τ:Rel}
theorem sim_prog2 {α β:Type} {R:Rel→α→β→Prop} {f:Program→Sem α} {g:Program→Sem β} (h:Sim P R τ (f P) (g P)):Sim P R τ (program >>= f) (program >>= g):=Sim.program _ _ _ h
theorem sim_v {s s':Sem Value} (h:Sim P RV τ s s'):Sim P NR τ (do pure (.value (←s))) (do pure (.value (←s'))):=by
 refine Sim.andThen h ?_;intro τ1 a b h1 hv;exact Sim.pure _ _ _ (.value _ _ hv)
theorem sim_u {s s':Sem Unit} (h:Sim P RU τ s s'):Sim P NR τ (do s;pure .skip) (do s';pure .skip):=by
 refine Sim.andThen h ?_;intro τ1 a b h1 hv;exact Sim.pure _ _ _ .skip
theorem sim_callFunc (f:FuncId) (hb:bodyOk P f=true) {xs ys:Array Value} (h:AR τ xs ys):Sim P NR τ (callFunc f xs) (callFunc f ys):=by
 unfold callFunc;refine sim_prog2 ?_;unfold bodyOk at hb
 cases hf:P.funcs[f]? with
 |none=>rw[hf] at hb;cases hb
 |some fn=>
   rw[hf] at hb;simp only[Bool.and_eq_true,Bool.not_eq_true'] at hb
   have e1:fn.body.isNone=false:=by cases hx:fn.body with|none=>rw[hx] at hb;simp at hb|some c=>rfl
   simp only[hb.2,e1,Bool.false_eq_true,if_false];exact Sim.pure _ _ _ (.enter _ _ _ h)
theorem sim_method (fuel:Nat) (t:TypeId) (name:String) {f:FuncId} (hm:methodOk P t name=some f) {v v':Value} (hv:VR τ v v') :
 Sim P (fun τ a b=>a.1=f∧b.1=f∧VR τ a.2 b.2) τ (method (fuel+1) t v name) (method (fuel+1) t v' name):=by
 unfold method;refine Sim.andThen (sim_typeInfo t) ?_;rintro τ1 i _ h1 ⟨rfl,hi⟩;unfold methodOk at hm;rw[hi] at hm;dsimp only at hm
 cases hf:i.methods.find? (·.name==name) with
 |none=>rw[hf] at hm;cases hm
 |some m=>
   rw[hf] at hm;dsimp only at hm;split at hm
   ·rename_i hp
    have hp0:m.path.toList=[]:=by simpa using hp
    split at hm
    ·rename_i _ f2 hfn
     split at hm
     ·rename_i _ e hu
      cases hm;simp only[hp0,follow,pure_bind,hfn];refine Sim.andThen (R:=RV) ?_ ?_
      ·unfold receiverAt
       refine Sim.andThen (sim_underlying t) ?_;rintro τ2 d _ h2 ⟨rfl,hd⟩;rw[hu] at hd;cases hd;exact Sim.pure _ _ _ (hv.mono (h1.trans h2))
      ·intro τ2 a b h2 hab
       exact Sim.pure _ _ _ ⟨rfl,rfl,hab⟩
     ·cases hm
    ·cases hm
   ·cases hm
theorem sim_callMethod (t:TypeId) (name:String) {f:FuncId} (hm:methodOk P t name=some f) (hb:bodyOk P f=true) {v v':Value} (hv:VR τ v v') {xs ys:Array Value} (h:AR τ xs ys) :
 Sim P NR τ (callMethod (.iface t v) name xs) (callMethod (.iface t v') name ys):=by
 unfold callMethod;dsimp only;refine sim_prog2 ?_;refine Sim.andThen (sim_method (P.types.size+99) t name hm hv) ?_;rintro τ1 ⟨a,x⟩ ⟨b,y⟩ h1 ⟨rfl,hb2,hx⟩;cases hb2;exact sim_callFunc _ hb ((AR.one hx).append (h.mono h1))
theorem sim_eqNil (t:TypeId) {x x' y y':Value} (hx:VR τ x x') (hy:VR τ y y') (hn:nilCmp x y=true):Sim P RE τ (Op.equal t x y) (Op.equal t x' y'):=by
 unfold Op.equal Op.maxDepth;show Sim P RE τ (Op.equalIn (9999+1) t x y) (Op.equalIn (9999+1) t x' y');unfold Op.equalIn;refine Sim.andThen (sim_underlying t) ?_;rintro τ1 d _ h1 ⟨rfl,hu⟩
 cases hx<;>first|(simp[nilCmp] at hn;done)|skip
 all_goals (cases hy<;>first|(simp[nilCmp] at hn;done)|skip)
 all_goals (cases d<;>first|exact Sim.halt _ _ _|exact Sim.pure _ _ _ rfl)
end ops
end Go.Ev
