/- append: the small world's slice has no room to spare, the great one's may have. append, reckoned; what it reckons holds on the great world. Maps whose keys have no address, and append, reckoned; what is reckoned holds on the great world. Maps whose keys have no address: entries that come and go. Conditions: those that each statement shows. -/
import Derived.Test.YtkndlfdpmpdihaaGreatDoorY03
namespace Go.Ev
open Go.RowKit
set_option linter.unusedVariables false
set_option linter.unusedSimpArgs false
section run
variable {P:Program}
theorem run_underlying {t:TypeId} {d:TypeDesc} (h:P.underlying t=some d) (w:World):(underlying t).run P w=.ok d w:=by
 simp[underlying,program,Sem.run,h]
theorem run_typeInfo {t:TypeId} {i:TypeInfo} (h:P.info? t=some i) (w:World):(typeInfo t).run P w=.ok i w:=by
 simp[typeInfo,program,Sem.run,h]
theorem run_sizeOf {t:TypeId} {i:TypeInfo} (h:P.info? t=some i) (w:World):(sizeOf t).run P w=.ok i.size w:=by
 simp[sizeOf,run_typeInfo h]
theorem run_zero {t:TypeId} {i:TypeInfo} {z:Value} (h:P.info? t=some i) (hz:i.zero=some z) (w:World):(zeroValue t).run P w=.ok z w:=by
 simp[zeroValue,run_typeInfo h,hz]
theorem run_askRoom (n:Nat) (w:World):(askRoom n).run P w=.ok () w:=by
 unfold askRoom;split<;>rfl
end run
def lenV:Value→Option Nat
 |.slice _ n _=>some n
 |.string s=>some s.size
 |_=>none
section sim
variable {P:Program} {τ:Rel}
theorem sim_firstCells (size n:Nat) {v v':Value} (h:VR τ v v'):Sim P (fun τ a b=>AR τ a b) τ (Builtin.firstCells size n v) (Builtin.firstCells size n v'):=by
 cases h with
 |sl0 l c=>exact Sim.pure _ _ _ (AR.nil _)
 |sl k r o l c c' i t hc=>exact sim_loadCellsFrom (n*size) 0 ⟨k,r,o,i,rfl,rfl,t⟩ (AR.nil _)
 |string s=>
   refine Sim.pure _ _ _ (AR.refl_of (fun i u hu=>?_));rw[Array.getElem?_map] at hu
   cases hx:(s.extract 0 n).data[i]? with
   |none=>rw[hx] at hu;cases hu
   |some b=>rw[hx] at hu;cases hu;exact .int _ _
 |_=>exact Sim.halt _ _ _
theorem ro_firstCells (size n:Nat) (v:Value):RO (Builtin.firstCells size n v):=by
 unfold Builtin.firstCells;split
 ·exact ro_cells _ _ _ _
 ·exact .pure _
 ·exact .pure _
 ·exact .halt _
theorem lenV_eq {v v':Value} (h:VR τ v v') {n:Nat} (hn:lenV v=some n):lenV v'=some n:=by
 cases h with
 |sym l xs ys v' h hb=>cases hn
 |_=>exact hn
theorem lenOf_run {v:Value} {n:Nat} (h:lenV v=some n) (w:World):(Builtin.lenOf v).run P w=.ok n w:=by
 cases v<;>first|(cases h;done)|skip
 ·cases h;rfl
 ·cases h;rfl
end sim
def over (cs:Array Value) (o:Nat):List Value→Array Value
 | []=>cs
 |v::vs=>over (cs.setIfInBounds o v) (o+1) vs
theorem over_size:∀(vs:List Value) (cs:Array Value) (o:Nat),(over cs o vs).size=cs.size
 | [],_,_=>rfl
 |v::vs,cs,o=>by rw[over,over_size vs];simp
theorem over_get:∀(vs:List Value) (cs:Array Value) (o j:Nat),o+vs.length≤cs.size→(over cs o vs)[j]?=if o≤j∧j<o+vs.length then vs[j-o]? else cs[j]?
 | [],cs,o,j,h=>by simp[over];omega
 |v::vs,cs,o,j,h=>by
   simp only[List.length_cons] at h;rw[over,over_get vs _ _ _ (by simp;omega)]
   by_cases hj:o=j
   ·subst hj
    rw[if_neg (by omega),if_pos (by simp),Array.getElem?_setIfInBounds_self,if_pos (by omega)];simp
   ·rw[Array.getElem?_setIfInBounds_ne hj]
    by_cases h1:o+1≤j∧j<o+1+vs.length
    ·rw[if_pos h1,if_pos (by simp;omega)]
     rw[show j-o=(j-(o+1))+1 by omega,List.getElem?_cons_succ]
    ·rw[if_neg h1,if_neg (by simp;omega)]
theorem run_storeCells {P:Program}:∀(vs:List Value) (w:World) (r o i:Nat) (cs:Array Value) (e:TypeId),w.heap[r]?=some (.cells cs e (0,0))→o+i+vs.length≤cs.size→(∀v∈vs,Value.plainCell v=true) →
 ∃w',(storeCells ⟨r,o,none⟩ vs i).run P w=.ok () w'∧w'.heap=w.heap.setIfInBounds r (.cells (over cs (o+i) vs) e (0,0))∧w'.os=w.os∧w'.tape=w.tape∧w'.output=w.output
 | [],w,r,o,i,cs,e,h,hl,hp=>by
   refine⟨w,rfl,?_,rfl,rfl,rfl⟩;apply Array.ext_getElem?;intro j
   by_cases hj:r=j
   ·subst hj
    obtain⟨hlt,_⟩:=Array.getElem?_eq_some_iff.1 h;rw[Array.getElem?_setIfInBounds_self,if_pos hlt,h];rfl
   ·rw[Array.getElem?_setIfInBounds_ne hj]
 |v::vs,w,r,o,i,cs,e,h,hl,hp=>by
   simp only[List.length_cons] at hl
   have hc:w.cell? ⟨r,o+i,none⟩=some cs[o+i]:=by
    simp only[World.cell?,h];simp
   have hf:w.frozen? ⟨r,o+i,none⟩=false:=by simp[World.frozen?,h]
   have h2:(w.setCell ⟨r,o+i,none⟩ v).heap[r]?=some (.cells (cs.setIfInBounds (o+i) v) e (0,0)):=by
    obtain⟨hlt,_⟩:=Array.getElem?_eq_some_iff.1 h;rw[setCell_heap w r (o+i) v h,Array.getElem?_setIfInBounds_self,if_pos hlt]
   obtain⟨w',a1,a2,a3,a4,a5⟩:=run_storeCells (P:=P) vs (w.setCell ⟨r,o+i,none⟩ v) r o (i+1) (cs.setIfInBounds (o+i) v) e h2 (by simp;omega) (fun u hu=>hp u (by simp[hu]));refine⟨w',?_,?_,a3,a4,a5⟩
   ·show (Sem.bind (store ((⟨r,o,none⟩:Addr).add i) v) fun _=>storeCells ⟨r,o,none⟩ vs (i+1)).run P w=_
    rw[add_eq];show (Sem.store .plain ⟨r,o+i,none⟩ v ((Sem.pure ()).bind fun _=>storeCells ⟨r,o,none⟩ vs (i+1))).run P w=_;rw[run_store_of (hp v (by simp)) hc hf];exact a1
   ·rw[a2,setCell_heap w r (o+i) v h]
    rw[Array.setIfInBounds_setIfInBounds];rfl
section wr
variable {G:Gl} {B:FM} {w0:World}
theorem WR.kill {τ:Rel} {H:Array Obj} {w:World} (h:WR G B w0 τ H w) (k:Nat):WR G B w0 τ (H.setIfInBounds k dead) w:=by
 have hal:∀j,alive (H.setIfInBounds k dead) j→alive H j∧j≠k:=by
  rintro j ⟨u,hu,hl⟩
  by_cases e:k=j
  ·subst e
   rw[Array.getElem?_setIfInBounds_self] at hu;split at hu
   ·cases hu;simp[live] at hl
   ·cases hu
  ·rw[Array.getElem?_setIfInBounds_ne e] at hu;exact⟨⟨u,hu,hl⟩,fun x=>e x.symm⟩
 have hne:∀(j:Nat) (u:Obj),(H.setIfInBounds k dead)[j]?=some u→u=dead∨H[j]?=some u:=by
  intro j u hu
  by_cases e:k=j
  ·subst e
   rw[Array.getElem?_setIfInBounds_self] at hu;split at hu
   ·cases hu;exact .inl rfl
   ·cases hu
  ·rw[Array.getElem?_setIfInBounds_ne e] at hu;exact .inr hu
 refine⟨fun j u hj hu=>?_,h.fn,fun a b c d e h1 h2 l1 l2=>h.inj a b c d e h1 h2 (hal _ l1).1 (hal _ l2).1,fun a b c x=>?_,fun j u hj=>?_,fun j cs e hj=>?_,h.glob,h.kp,h.sy⟩
 ·rcases hne j u hj with rfl|hj
  ·simp[live] at hu
  ·exact h.blk j u hj hu
 ·have:=h.dom _ _ _ x
  exact⟨by simpa using this.1,this.2.1,fun l=>this.2.2 (hal _ l).1⟩
 ·rcases hne j u hj with rfl|hj
  ·exact .inr (.inl rfl)
  ·exact h.ok j u hj
 ·rcases hne j _ hj with hd|hj
  ·simp only[dead,oldB,Obj.cells.injEq,Prod.mk.injEq] at hd
   omega
  ·obtain⟨r,i,cs',e',f,h1,h2,h3,h4,h5⟩:=h.old j cs e hj
   exact⟨r,i,cs',e',f,h1,h2,h3,fun k' i' q l=>h4 k' i' q (hal _ l).1,h5⟩
theorem WR.newAt {τ:Rel} {H:Array Obj} {w w':World} {r m z:Nat} {cs c1 c2:Array Value} {e:TypeId} (h:WR G B w0 τ H w) (hr:w.heap[r]?=some (.cells c1 e (0,0))) (hB:B r=none)
 (hno:∀k i,τ k r i→¬alive H k) (hold:∀(k:Nat) (cs:Array Value) (e:TypeId) i,H[k]?=some (oldB cs e)→¬τ k r i) (hw:w'.heap=w.heap.setIfInBounds r (.cells c2 e (0,0))) (hb:Kp B w0 w') (ho:OR τ (some (m,z)) (.cells cs e (z+2,1)) (.cells c2 e (0,0))) :
 ∃ τ':Rel,τ.le τ'∧τ' H.size r (some (m,z))∧WR G B w0 τ' (H.push (.cells cs e (z+2,1))) w':=by
 have hrl:=(Array.getElem?_eq_some_iff.1 hr).1;refine⟨⟨fun k u i=>τ.r k u i∨(k=H.size∧u=r∧i=some (m,z)),τ.s⟩,⟨fun k r i x=>.inl x,fun _ _ x=>x⟩,.inr ⟨rfl,rfl,rfl⟩,?_⟩;have hle:τ.le (⟨fun k u i=>τ.r k u i∨(k=H.size∧u=r∧i=some (m,z)),τ.s⟩:Rel):=⟨fun k r i x=>.inl x,fun _ _ x=>x⟩
 have hal:∀k,k<H.size→alive (H.push (.cells cs e (z+2,1))) k→alive H k:=by
  rintro k hk ⟨u,hu,hl⟩;rw[Array.getElem?_push,if_neg (by omega)] at hu;exact⟨u,hu,hl⟩
 refine⟨fun k u hk hu=>?_,?_,?_,?_,?_,?_,fun g hg=>.inl (h.glob g hg),hb,h.sy⟩
 ·rw[Array.getElem?_push] at hk
  by_cases he:k=H.size
  ·rw[if_pos he] at hk
   cases hk;exact⟨r,_,_,.inr ⟨he,rfl,rfl⟩,by rw[hw,Array.getElem?_setIfInBounds_self,if_pos hrl],ho.mono hle⟩
  ·rw[if_neg he] at hk
   obtain⟨r2,i,u',h1,h2,h3⟩:=h.blk k u hk hu;have hne:r≠r2:=fun er=>hno k i (er ▸ h1) ⟨u,hk,hu⟩;exact⟨r2,i,u',.inl h1,by rw[hw,Array.getElem?_setIfInBounds_ne hne];exact h2,h3.mono hle⟩
 ·rintro k u i u' i' (h1|⟨rfl,rfl,rfl⟩) (h2|⟨e,rfl,rfl⟩)
  ·exact h.fn _ _ _ _ _ h1 h2
  ·have:=(h.dom _ _ _ h1).1;omega
  ·have:=(h.dom _ _ _ h2).1;omega
  ·exact⟨rfl,rfl⟩
 ·rintro k k' u i i' (h1|⟨rfl,rfl,rfl⟩) (h2|⟨rfl,e,rfl⟩) l1 l2
  ·exact h.inj _ _ _ _ _ h1 h2 (hal _ (h.dom _ _ _ h1).1 l1) (hal _ (h.dom _ _ _ h2).1 l2)
  ·subst e;exact absurd (hal _ (h.dom _ _ _ h1).1 l1) (hno _ _ h1)
  ·exact absurd (hal _ (h.dom _ _ _ h2).1 l2) (hno _ _ h2)
  ·rfl
 ·rintro k u i (h1|⟨rfl,rfl,rfl⟩)
  ·have:=h.dom _ _ _ h1
   rw[hw];refine⟨by simp;omega,by simp;omega,fun l=>this.2.2 (hal _ this.1 l)⟩
  ·rw[hw]
   refine⟨by simp,by simpa using hrl,fun _=>hB⟩
 ·intro k u hk
  rw[Array.getElem?_push] at hk
  by_cases he:k=H.size
  ·rw[if_pos he] at hk;cases hk;exact .inl (or_live ho)
  ·rw[if_neg he] at hk;exact h.ok k u hk
 ·intro k cs2 e2 hk
  rw[Array.getElem?_push] at hk
  by_cases he:k=H.size
  ·rw[if_pos he] at hk
   have:=or_live ho;rw[Option.some.inj hk,not_live_old] at this;cases this
  ·rw[if_neg he] at hk
   obtain⟨r2,i,cs',e',f,h1,h2,h3,h4,h5⟩:=h.old k cs2 e2 hk;have hne:r≠r2:=fun e=>hold k cs2 e2 i hk (e ▸ h1);refine⟨r2,i,cs',e',f,.inl h1,?_,h3.mono hle,?_,h5⟩
   rotate_left
   ·rintro k' i' (q|⟨rfl,q,rfl⟩) ha
    ·exact h4 k' i' q (hal _ (h.dom _ _ _ q).1 ha)
    ·exact hne q.symm
   rw[hw,Array.getElem?_setIfInBounds_ne hne];exact h2
end wr
section run
variable {P:Program}
set_option maxRecDepth 100000 in
theorem run_append {ts:Array TypeId} {ty t0 t1 elem:TypeId} {d1:TypeDesc} {i:TypeInfo} {z x:Value} {n sLen sCap:Nat} {base:Option Addr} (h0:ts[0]?=some t0) (h1:ts[1]?=some t1) (hu0:P.underlying t0=some (.slice elem)) (hu1:P.underlying t1=some d1) (hd1:∀k,d1≠.int k)
 (hi:P.info? elem=some i) (hz:i.zero=some z) (hlen:lenV x=some n) (hneed:sCap<sLen+n) (hb:sLen+n<256) (hby:i.bytes≤1073741824) (w:World) :
 ∃newCap,sLen+n≤newCap∧∀old new,(Builtin.firstCells i.size sLen (.slice base sLen sCap)).run P w.drew=.ok old w.drew→(Builtin.firstCells i.size n x).run P w.drew=.ok new w.drew →
  (Builtin.append_ ts ty #[.slice base sLen sCap,x]).run P w=.ok (.slice (some ⟨w.heap.size,0,none⟩) (sLen+n) newCap) { w.drew with heap:=w.heap.push (.cells (old++new++Builtin.zeroCells z.cells (newCap-(sLen+n))) elem) }:=by
 refine⟨(Question.appendCap (sLen+n) sCap elem).cut (w.tape w.drawn (Question.appendCap (sLen+n) sCap elem)),by simp only[Question.cut];omega,?_⟩;intro old new ho hn
 have hnx:Builtin.nextslicecap (sLen+n) sCap≤512:=by
  unfold Builtin.nextslicecap;split
  ·omega
  ·rw[if_pos (by omega)];omega
 have hmul:¬(Builtin.nextslicecap (sLen+n) sCap*i.bytes > 2^48):=by
  have:Builtin.nextslicecap (sLen+n) sCap*i.bytes≤512*1073741824:=Nat.mul_le_mul hnx hby;omega
 have hz0:(match d1 with|.int _=>true|_=>false)=false:=by
  cases d1<;>first|rfl|exact absurd rfl (hd1 _)
 have hle:¬(sLen+n≤sCap):=by omega
 have hmax:¬(((sLen+n:Nat):Int) > IntKind.i64.max∧(False∨i.bytes=0)):=by
  intro h;have:=h.1;simp[IntKind.max,IntKind.signed,IntKind.bits] at this;omega
 have hch:∀w:World,(choose (Question.appendCap (sLen+n) sCap elem)).run P w=.ok ((Question.appendCap (sLen+n) sCap elem).cut (w.tape w.drawn (Question.appendCap (sLen+n) sCap elem))) w.drew:=fun w=>rfl
 have hnr:∀(xs:Array Value) (w:World),(newRow elem xs).run P w=.ok ⟨w.heap.size,0,none⟩ { w with heap:=w.heap.push (.cells xs elem) }:=fun xs w=>by simp[newRow,newObj,Sem.run]
 simp only[Builtin.append_,h0,h1];have hm1:∀ {α:Type} (x y:Sem α),(if ((sLen+n:Nat):Int) > IntKind.i64.max∧(False∨i.bytes=0) then x else y)=y:=fun x y=>if_neg hmax;have hm2:∀ {α:Type} (x y:Sem α),(if Builtin.nextslicecap (sLen+n) sCap*i.bytes > 2^48 then x else y)=y:=fun x y=>if_neg hmul;simp only[List.getElem?_toArray,List.getElem?_cons_zero,List.getElem?_cons_succ,Sem.run_bind,run_underlying hu0,run_underlying hu1,run_sizeOf hi,Result.andThen_ok,Sem.run_pure,hz0,Bool.false_eq_true,if_false,lenOf_run hlen,hle];simp only[run_typeInfo hi,Result.andThen_ok];rw[hm1];simp only[Sem.run_bind,run_typeInfo hi,Result.andThen_ok];rw[hm2];simp only[Sem.run_bind,hch,run_typeInfo hi,run_askRoom,Result.andThen_ok];rw[ho];simp only[Result.andThen_ok,Bool.not_false,if_true];rw[hn];simp only[Result.andThen_ok,run_zero hi hz,hnr,Sem.run_bind,Sem.run_pure];rfl
end run
def notInt:TypeDesc→Bool
 |.int _=>false
 |_=>true
def killB (H:Array Obj) (size:Nat) (elem:TypeId):Option Addr→Option (Array Obj)
 |none=>some H
 |some a=>match H[a.block]? with
   |some (.cells _ e f)=>if f==(0,0) then some H else if f==(size+2,1)&&a.off==0&&a.spot.isNone&&e==elem then some (H.setIfInBounds a.block dead) else none
   |_=>none
def growB (P:Program) (H:Array Obj) (wa:World) (ts:Array TypeId) (s x:Value):Option (Value×Array Obj):=
 match ts[0]?,ts[1]?,s,lenV x with
 |some t0,some t1,.slice base sLen sCap,some n=>
   match P.underlying t0,P.underlying t1 with
   |some (.slice elem),some d1=>
     match P.info? elem with
     |some i=>match i.zero with
       |some z=>
         if notInt d1&&decide (sCap<sLen+n)&&decide (sLen+n<256)&&decide (i.bytes≤1073741824)&&z.cells.size==i.size&&zeroOk P elem then
          match (Builtin.firstCells i.size sLen s).run P wa,(Builtin.firstCells i.size n x).run P wa,killB H i.size elem base with
          |.ok old _,.ok new _,some H'=>
            if old.size==sLen*i.size&&new.size==n*i.size&&new.toList.all Value.plainCell then
             some (.slice (some ⟨H.size,0,none⟩) (sLen+n) (sLen+n),H'.push (.cells (old++new) elem (i.size+2,1)))
            else none
          |_,_,_=>none
         else none
       |none=>none
     |none=>none
   |_,_=>none
 |_,_,_,_=>none
section sound
variable {P:Program} {G:Gl} {B:FM} {w0:World}
theorem killB_spec {τ:Rel} {H H':Array Obj} {w:World} {size:Nat} {elem:TypeId} {base:Option Addr} (hw:WR G B w0 τ H w) (h:killB H size elem base=some H'):WR G B w0 τ H' w∧H'.size=H.size:=by
 cases base with
 |none=>cases h;exact⟨hw,rfl⟩
 |some a=>
   unfold killB at h;dsimp only at h;split at h
   ·split at h
    ·cases h;exact⟨hw,rfl⟩
    ·split at h
     ·cases h;exact⟨hw.kill _,by simp⟩
     ·cases h
   ·cases h
theorem run_cells:∀(n:Nat) (w:World) (r o i:Nat) (acc c:Array Value) (e:TypeId) (f:Nat×Nat),w.heap[r]?=some (.cells c e f)→o+i+n≤c.size →
 (loadCellsFrom ⟨r,o,none⟩ i n acc).run P w=.ok (acc++c.extract (o+i) (o+i+n)) w
 | 0,w,r,o,i,acc,c,e,f,h,hl=>by
   have:c.extract (o+i) (o+i+0)=#[]:=by simp;omega
   rw[this];simp[loadCellsFrom]
 |n+1,w,r,o,i,acc,c,e,f,h,hl=>by
   have hc:w.cell? ⟨r,o+i,none⟩=some (c[o+i]'(by omega)):=by
    simp only[World.cell?,h];simp
   show (Sem.bind (load ((⟨r,o,none⟩:Addr).add i)) fun v=>loadCellsFrom ⟨r,o,none⟩ (i+1) n (acc.push v)).run P w=_;rw[add_eq];show (Sem.load .plain ⟨r,o+i,none⟩ fun v=>loadCellsFrom ⟨r,o,none⟩ (i+1) n (acc.push v)).run P w=_;simp only[Sem.run,hc];rw[run_cells n w r o (i+1) _ c e f h (by omega)];congr 1;apply Array.ext_getElem?;intro j;simp only[Array.getElem?_append,Array.getElem?_push,Array.size_push,Array.getElem?_extract]
   by_cases h1:j<acc.size
   ·rw[if_pos (by omega),if_neg (by omega),if_pos h1]
   ·rw[if_neg h1]
    by_cases h2:j=acc.size
    ·subst h2
     rw[if_pos (by omega),if_pos rfl,if_pos (by omega)];rw[show o+i+(acc.size-acc.size)=o+i by omega,Array.getElem?_eq_getElem (by omega)]
    ·rw[if_neg (by omega)]
     by_cases h3:j-acc.size<n+1
     ·rw[if_pos (by omega),if_pos (by omega)]
      congr 1;omega
     ·rw[if_neg (by omega),if_neg (by omega)]
theorem run_append_in {ts:Array TypeId} {ty t0 t1 elem:TypeId} {d1:TypeDesc} {i:TypeInfo} {x:Value} {n sLen sCap r:Nat} {c new:Array Value} {e:TypeId} (h0:ts[0]?=some t0) (h1:ts[1]?=some t1) (hu0:P.underlying t0=some (.slice elem)) (hu1:P.underlying t1=some d1) (hd1:∀k,d1≠.int k)
 (hi:P.info? elem=some i) (hlen:lenV x=some n) (hneed:sLen+n≤sCap) (w:World) (hn:(Builtin.firstCells i.size n x).run P w=.ok new w) (hr:w.heap[r]?=some (.cells c e (0,0))) (hl:sLen*i.size+new.size≤c.size) (hp:∀v∈new.toList,Value.plainCell v=true) :
 ∃w',(Builtin.append_ ts ty #[.slice (some ⟨r,0,none⟩) sLen sCap,x]).run P w=.ok (.slice (some ⟨r,0,none⟩) (sLen+n) sCap) w'∧w'.heap=w.heap.setIfInBounds r (.cells (over c (sLen*i.size) new.toList) e (0,0))∧w'.os=w.os∧w'.tape=w.tape∧w'.output=w.output:=by
 obtain⟨w',a1,a2,a3,a4,a5⟩:=run_storeCells (P:=P) new.toList w r (sLen*i.size) 0 c e hr (by simpa using hl) hp;refine⟨w',?_,by simpa using a2,a3,a4,a5⟩
 have hz0:(match d1 with|.int _=>true|_=>false)=false:=by
  cases d1<;>first|rfl|exact absurd rfl (hd1 _)
 simp only[Builtin.append_,h0,h1];simp only[List.getElem?_toArray,List.getElem?_cons_zero,List.getElem?_cons_succ,Sem.run_bind,run_underlying hu0,run_underlying hu1,run_sizeOf hi,Result.andThen_ok,Sem.run_pure,hz0,Bool.false_eq_true,if_false,lenOf_run hlen,hneed,if_true,Bool.not_false];rw[hn]
 have e1:(⟨r,0,none⟩:Addr).add (sLen*i.size)=⟨r,sLen*i.size,none⟩:=by rw[add_eq];simp
 rw[e1,Result.andThen_ok,a1];rfl
theorem zeroCells_size (z:Array Value) (n:Nat):(Builtin.zeroCells z n).size=n*z.size:=by simp[Builtin.zeroCells]
theorem growB_sound {τ:Rel} {wa wr:World} {ts:Array TypeId} {ty:TypeId} {s x s' x' v:Value} {H':Array Obj} (h:growB P wa.heap wa ts s x=some (v,H')) (hs:VR τ s s') (hx:VR τ x x') (hw:WR G B w0 τ wa.heap wr) :
 ∃ τ' v' wr',τ.le τ'∧(Builtin.append_ ts ty #[s',x']).run P wr=.ok v' wr'∧VR τ' v v'∧WR G B w0 τ' H' wr':=by
 unfold growB at h
 split at h<;>first|(cases h;done)|skip
 rename_i t0 t1 base sLen sCap n h0 h1 hlen
 split at h<;>first|(cases h;done)|skip
 rename_i elem d1 hu0 hu1
 split at h<;>first|(cases h;done)|skip
 rename_i i hi
 split at h<;>first|(cases h;done)|skip
 rename_i z hz
 split at h<;>first|(cases h;done)|skip
 rename_i hc;simp only[Bool.and_eq_true,decide_eq_true_eq,beq_iff_eq] at hc;obtain⟨⟨⟨⟨⟨c1,c2⟩,c3⟩,c4⟩,c5⟩,c6⟩:=hc
 split at h<;>first|(cases h;done)|skip
 rename_i old wo new wn Hk ho hn hk
 split at h<;>first|(cases h;done)|skip
 rename_i hsz;simp only[Bool.and_eq_true,beq_iff_eq,List.all_eq_true] at hsz;obtain⟨⟨s1,s2⟩,s3⟩:=hsz;cases h
 have hd1:∀k,d1≠.int k:=by rintro k rfl;cases c1
 have hlen':lenV x'=some n:=lenV_eq hx hlen
 have rd:∀wq:World,WR G B w0 τ wa.heap wq→∃ τ1 old' new',τ.le τ1∧(Builtin.firstCells i.size sLen s').run P wq=.ok old' wq∧(Builtin.firstCells i.size n x').run P wq=.ok new' wq∧AR τ1 old old'∧AR τ1 new new'∧WR G B w0 τ1 wa.heap wq:=by
  intro wq hq;obtain⟨τo,old',wo',l1,r1,a1,q1⟩:=(sim_firstCells i.size sLen hs).run hq ho;have e0:=(ro_firstCells i.size sLen (.slice base sLen sCap)).same ho;have e1:=(ro_firstCells i.size sLen s').same r1;subst e0 e1;obtain⟨τn,new',wn',l2,r2,a2,q2⟩:=(sim_firstCells i.size n (hx.mono l1)).run q1 hn;have e3:=(ro_firstCells i.size n x).same hn;have e2:=(ro_firstCells i.size n x').same r2;subst e2 e3;exact⟨τn,old',new',l1.trans l2,r1,r2,a1.mono l2,a2,q2⟩
 have grow:∀(base':Option Addr) (sCap':Nat),s'=.slice base' sLen sCap'→sCap'<sLen+n→∃ τ' v' wr',τ.le τ'∧(Builtin.append_ ts ty #[s',x']).run P wr=.ok v' wr'∧VR τ' (.slice (some ⟨wa.heap.size,0,none⟩) (sLen+n) (sLen+n)) v'∧WR G B w0 τ' (Hk.push (.cells (old++new) elem (i.size+2,1))) wr':=by
  intro base' sCap' hse hlt;subst hse;obtain⟨newCap,hnc,hrun⟩:=run_append (P:=P) (ty:=ty) (base:=base') h0 h1 hu0 hu1 hd1 hi hz hlen' hlt c3 c4 wr;obtain⟨τ1,old',new',l1,r1,r2,a1,a2,q⟩:=rd wr.drew (hw.drewn _);have hrun:=hrun old' new' r1 r2;obtain⟨hkw,hks⟩:=killB_spec q hk
  have hcs:(old'++new'++Builtin.zeroCells z.cells (newCap-(sLen+n))).size=newCap*i.size:=by
   rw[Array.size_append,Array.size_append,zeroCells_size,←a1.1,←a2.1,s1,s2,c5,←Nat.add_mul,←Nat.add_mul];congr 1;omega
  have hor:OR τ1 (some (newCap*i.size,i.size)) (.cells (old++new) elem (i.size+2,1)) (.cells (old'++new'++Builtin.zeroCells z.cells (newCap-(sLen+n))) elem (0,0)):=by
   refine .more _ _ _ _ _ ?_ hcs ?_
   ·rw[Array.size_append,s1,s2,←Nat.add_mul]
    exact Nat.mul_le_mul_right _ hnc
   ·intro j u u' h1 h2
    have hj:=(Array.getElem?_eq_some_iff.1 h1).1;have haa:=a1.append a2;rw[Array.getElem?_append,if_pos (by rw[←haa.1];exact hj)] at h2;exact haa.2 j u u' h1 h2
  obtain⟨τ2,l2,t2,w2⟩:=hkw.new hor;refine⟨τ2,_,_,l1.trans l2,hrun,?_,w2⟩;rw[hks] at t2;exact .sl _ _ 0 _ _ _ _ t2 ⟨hnc,by omega⟩
 generalize hbe:(Value.slice base sLen sCap)=s at hs
 cases hs<;>first|(cases hbe;done)|skip
 ·cases hbe
  exact grow none _ rfl c2
 ·rename_i k r o l c c' ii ht hcap
  cases hbe;unfold killB at hk;dsimp only at hk
  split at hk<;>first|(cases hk;done)|skip
  rename_i cc ee ff hh;split at hk
  ·rename_i hf
   have hf:ff=(0,0):=by simpa using hf
   subst hf;have hi0:ii=none:=hw.exact (by simp[exactB,hh]) _ _ ht;subst hi0;have hcap:sCap=c':=hcap;subst hcap;exact grow _ _ rfl c2
  ·split at hk<;>first|(cases hk;done)|skip
   rename_i hf;simp only[Bool.and_eq_true,beq_iff_eq] at hf;obtain⟨⟨⟨hf,hoo⟩,_⟩,hee⟩:=hf;subst hf hoo hee
   have hlive:live (.cells cc ee (i.size+2,1))=true:=by simp[live]
   obtain⟨r2,i2,o',b1,b2,b3⟩:=hw.blk k _ hh hlive;obtain⟨rfl,rfl⟩:=hw.fn _ _ _ _ _ ht b1
   cases b3 with
   |more _ c1 _ m zz m1 m2 m3=>
     by_cases hfit:sLen+n≤c'
     ·obtain⟨τ1,old',new',l1,r1,r2,a1,a2,q⟩:=rd wr hw
      have hal:alive wa.heap k:=⟨_,hh,hlive⟩;have hBr:=(hw.dom _ _ _ ht).2.2 hal
      have hm:c'*i.size≤m:=by have:=hcap.2;omega
      have hmul:(sLen+n)*i.size≤c'*i.size:=Nat.mul_le_mul_right _ hfit;rw[Nat.add_mul] at hmul
      have hl:sLen*i.size+new'.size≤c1.size:=by rw[←a2.1,s2,m2];omega
      have hp:∀v∈new'.toList,Value.plainCell v=true:=by
       intro v hv;obtain⟨j,hj,hjv⟩:=List.getElem_of_mem hv
       have hj':j<new'.size:=by simpa using hj
       have hj2:j<new.size:=by rw[a2.1];exact hj'
       have e1:new'[j]?=some v:=by rw[←Array.getElem?_toList,List.getElem?_eq_getElem hj,hjv]
       have e2:=Array.getElem?_eq_getElem hj2;have hvv:=a2.2 j _ _ e2 e1;rw[←hvv.plain];exact s3 _ (by simp)
      obtain⟨w',hrun,hheap,hos,htp,hou⟩:=run_append_in (P:=P) (ty:=ty) h0 h1 hu0 hu1 hd1 hi hlen' hfit wr r2 b2 hl hp
      have hold:old'=c1.extract 0 (sLen*i.size):=by
       have hrc:=run_cells (P:=P) (sLen*i.size) wr r 0 0 #[] c1 ee (0,0) b2 (by rw[m2];omega);have:(Builtin.firstCells i.size sLen (.slice (some ⟨r,0,none⟩) sLen c')).run P wr=.ok (#[]++c1.extract (0+0) (0+0+sLen*i.size)) wr:=hrc;rw[this] at r1;simp only[Result.ok.injEq] at r1;rw[←r1.1];simp
      have hkq:WR G B w0 τ1 (wa.heap.setIfInBounds k dead) wr:=q.kill k
      have hHk:Hk=wa.heap.setIfInBounds k dead:=by simpa using hk.symm
      have hno:∀k2 i2,τ1 k2 r i2→¬alive (wa.heap.setIfInBounds k dead) k2:=by
       rintro k2 i2 h2 ⟨u,hu,hlu⟩
       by_cases e:k=k2
       ·subst e
        rw[Array.getElem?_setIfInBounds_self] at hu;split at hu
        ·cases hu;simp[live] at hlu
        ·cases hu
       ·rw[Array.getElem?_setIfInBounds_ne e] at hu
        exact e (q.inj k k2 r _ i2 (l1 _ _ _ ht) h2 hal ⟨u,hu,hlu⟩)
      have hbel:Kp B w0 w':=by
       refine⟨hos.trans hw.kp.os,htp.trans hw.kp.tape,hou.trans hw.kp.output,by rw[hheap];simpa using hw.kp.size,fun j u hj=>?_⟩;rw[hheap,Array.getElem?_setIfInBounds_ne (fun e=>by rw[e,hj] at hBr;cases hBr)];exact hw.kp.block j u hj
      have hosz:old.size=old'.size:=a1.1
      have hor:OR τ1 (some (m,i.size)) (.cells (old++new) ee (i.size+2,1)) (.cells (over c1 (sLen*i.size) new'.toList) ee (0,0)):=by
       refine .more _ _ _ _ _ (by rw[Array.size_append,s1,s2];omega) (by rw[over_size,m2]) ?_;intro j u u' h1 h2;rw[over_get _ _ _ _ (by simpa using hl)] at h2;have hj:=(Array.getElem?_eq_some_iff.1 h1).1;rw[Array.size_append] at hj
       by_cases hjo:j<old.size
       ·rw[Array.getElem?_append,if_pos hjo] at h1
        rw[if_neg (by omega)] at h2;refine a1.2 j u u' h1 ?_;rw[hold,Array.getElem?_extract,if_pos (by omega),Nat.zero_add];exact h2
       ·rw[Array.getElem?_append,if_neg hjo] at h1
        rw[if_pos (by have:=a2.1;simp;omega)] at h2;rw[Array.getElem?_toList] at h2;rw[s1] at h1;exact a2.2 _ u u' h1 h2
      have hold:∀(k2:Nat) (cs:Array Value) (e:TypeId) (i2:Option (Nat×Nat)),(wa.heap.setIfInBounds k dead)[k2]?=some (oldB cs e)→¬τ1 k2 r i2:=by
       intro k2 cs e i2 hk2 h2
       have hk2':wa.heap[k2]?=some (oldB cs e):=by
        by_cases ek:k=k2
        ·subst ek
         rw[Array.getElem?_setIfInBounds_self] at hk2;split at hk2
         ·simp only[dead,oldB,Option.some.injEq,Obj.cells.injEq,Prod.mk.injEq] at hk2;omega
         ·cases hk2
        ·rw[Array.getElem?_setIfInBounds_ne ek] at hk2;exact hk2
       obtain⟨r2,i3,cs',e',f,g1,g2,g3,g4,_⟩:=q.old k2 cs e hk2';obtain⟨rfl,_⟩:=q.fn _ _ _ _ _ g1 h2;exact g4 k _ (l1 _ _ _ ht) hal
      obtain⟨τ2,l2,t2,w2⟩:=hkq.newAt b2 hBr hno hold hheap hbel hor;refine⟨τ2,_,_,l1.trans l2,hrun,?_,hHk ▸ w2⟩;rw[show (wa.heap.setIfInBounds k dead).size=wa.heap.size by simp] at t2;exact .sl _ _ 0 _ _ _ _ t2 ⟨hfit,by omega⟩
     ·exact grow _ _ rfl (by omega)
end sound
section find
variable {P:Program} {τ:Rel}
theorem still_bind {α β:Type} {s:Sem α} {f:α→Sem β}:∀ {b:β},still P (s >>= f)=some b→∃a,still P s=some a∧still P (f a)=some b:=by
 show ∀ {b:β},still P (s.bind f)=some b→_
 induction s with
 |pure a=>intro b h;exact⟨a,rfl,h⟩
 |program k ih=>intro b h;exact ih P h
 |mark m k ih=>intro b h;exact ih h
 |load=>intro b h;simp[Sem.bind,still] at h
 |store=>intro b h;simp[Sem.bind,still] at h
 |new=>intro b h;simp[Sem.bind,still] at h
 |shape=>intro b h;simp[Sem.bind,still] at h
 |freeze=>intro b h;simp[Sem.bind,still] at h
 |frozen=>intro b h;simp[Sem.bind,still] at h
 |getObj=>intro b h;simp[Sem.bind,still] at h
 |setObj=>intro b h;simp[Sem.bind,still] at h
 |choose=>intro b h;simp[Sem.bind,still] at h
 |sys=>intro b h;simp[Sem.bind,still] at h
 |halt=>intro b h;simp[Sem.bind,still] at h
theorem still_bind_of {α β:Type} {s:Sem α} {f:α→Sem β}:∀ {a:α},still P s=some a→still P (s >>= f)=still P (f a):=by
 show ∀ {a:α},still P s=some a→still P (s.bind f)=still P (f a)
 induction s with
 |pure a=>intro b h;simp only[still,Option.some.injEq] at h;subst h;rfl
 |program k ih=>intro b h;exact ih P h
 |mark m k ih=>intro b h;exact ih h
 |load=>intro b h;simp[still] at h
 |store=>intro b h;simp[still] at h
 |new=>intro b h;simp[still] at h
 |shape=>intro b h;simp[still] at h
 |freeze=>intro b h;simp[still] at h
 |frozen=>intro b h;simp[still] at h
 |getObj=>intro b h;simp[still] at h
 |setObj=>intro b h;simp[still] at h
 |choose=>intro b h;simp[still] at h
 |sys=>intro b h;simp[still] at h
 |halt=>intro b h;simp[still] at h
def LE (τ:Rel):List MapEntry→List MapEntry→Prop
 | [],[]=>True
 |e::es,f::fs=>e.key=f.key∧VR τ e.val f.val∧e.born=f.born∧LE τ es fs
 |_,_=>False
def FR (τ:Rel):Option (Nat×Value)→Option (Nat×Value)→Prop
 |none,none=>True
 |some (i,v),some (j,u)=>i=j∧VR τ v u
 |_,_=>False
theorem findAsking_le (kt:TypeId) (k:Value):∀(es fs:List MapEntry) (i:Nat) {r:Option (Nat×Value)},LE τ es fs→still P (Instr.findAsking kt k es i)=some r→∃r',still P (Instr.findAsking kt k fs i)=some r'∧FR τ r r'
 | [],[],i,r,_,h=>by
   simp only[Instr.findAsking] at h ⊢;cases h;exact⟨none,rfl,trivial⟩
 |e::es,f::fs,i,r,⟨h1,h2,h3,h4⟩,h=>by
   unfold Instr.findAsking at h ⊢;obtain⟨b,hb,hr⟩:=still_bind h;rw[←h1,still_bind_of hb];cases b
   ·exact findAsking_le kt k es fs (i+1) h4 hr
   ·cases hr
    exact⟨some (i,f.val),rfl,rfl,h2⟩
 | [],_::_,_,_,x,_=>x.elim
 |_::_,[],_,_,x,_=>x.elim
theorem findNow_le (d:TypeDesc) (k:Value):∀(es fs:List MapEntry) (i:Nat),LE τ es fs→(Instr.findNow d k es i=none∧Instr.findNow d k fs i=none)∨∃r r',Instr.findNow d k es i=some r∧Instr.findNow d k fs i=some r'∧FR τ r r'
 | [],[],i,_=>.inr ⟨none,none,rfl,rfl,trivial⟩
 |e::es,f::fs,i,⟨h1,h2,h3,h4⟩=>by
   unfold Instr.findNow;rw[←h1]
   cases Instr.sameNow d k e.key with
   |none=>exact .inl ⟨rfl,rfl⟩
   |some b=>
     cases b
     ·exact findNow_le d k es fs (i+1) h4
     ·exact .inr ⟨_,_,rfl,rfl,rfl,h2⟩
 | [],_::_,_,x=>x.elim
 |_::_,[],_,x=>x.elim
theorem findKey_le (kt:TypeId) (k:Value) (es fs:List MapEntry) {r:Option (Nat×Value)} (h:LE τ es fs) (hr:still P (Instr.findKey kt k es)=some r):∃r',still P (Instr.findKey kt k fs)=some r'∧FR τ r r':=by
 unfold Instr.findKey at hr ⊢;obtain⟨d,hd,hr⟩:=still_bind hr;rw[still_bind_of hd];rcases findNow_le (τ:=τ) d k es fs 0 h with⟨e1,e2⟩|⟨q,q',e1,e2,hq⟩
 ·rw[e1] at hr;rw[e2]
  exact findAsking_le kt k es fs 0 h hr
 ·rw[e1] at hr;rw[e2]
  cases hr;exact⟨q',rfl,hq⟩
theorem ER.le {es fs:Array MapEntry} (h:ER τ es fs) (hk:es.toList.all (fun e=>AFb 10 e.key)=true):LE τ es.toList fs.toList:=by
 obtain⟨es⟩:=es;obtain⟨fs⟩:=fs;simp only at hk ⊢
 induction es generalizing fs with
 |nil=>
   cases fs with
   |nil=>trivial
   |cons=>have:=h.1;simp at this
 |cons e es ih=>
   cases fs with
   |nil=>have:=h.1;simp at this
   |cons f fs=>
     simp only[List.all_cons,Bool.and_eq_true] at hk;obtain⟨h1,h2,h3⟩:=h.2 0 e f rfl rfl;refine⟨AFb.eq _ _ _ hk.1 h1,h2,h3,ih hk.2 fs ⟨by have:=h.1;simpa using this,fun i a b ha hb=>h.2 (i+1) a b (by simpa using ha) (by simpa using hb)⟩⟩
end find
def findB (P:Program) (kt:TypeId) (key:Value) (empty:Bool) (es:Array MapEntry):Option (Option (Nat×Value)):=
 if AFb 10 key&&es.toList.all (fun e=>AFb 10 e.key) then
  match still P (Instr.checkKey empty 10000 kt key),still P (Instr.findKey kt key es.toList) with
  |some _,some r=>some r
  |_,_=>none
 else none
theorem findB_spec {P:Program} {τ:Rel} {kt:TypeId} {key key':Value} {empty:Bool} {es fs:Array MapEntry} {r:Option (Nat×Value)} (h:findB P kt key empty es=some r) (hk:VR τ key key') (he:ER τ es fs) :
 key'=key∧AFb 10 key=true∧(∀w,(Instr.checkKey empty 10000 kt key).run P w=.ok () w)∧∃r',(∀w,(Instr.findKey kt key fs.toList).run P w=.ok r' w)∧FR τ r r':=by
 unfold findB at h
 split at h<;>first|(cases h;done)|skip
 rename_i hc;rw[Bool.and_eq_true] at hc
 split at h<;>first|(cases h;done)|skip
 rename_i u r2 h1 h2;cases h;obtain⟨r',e1,e2⟩:=findKey_le (τ:=τ) kt key es.toList fs.toList (he.le hc.2) h2;exact⟨(AFb.eq _ _ _ hc.1 hk).symm,hc.1,still_run _ h1,r',still_run _ e1,e2⟩
theorem WR.map {G:Gl} {B:FM} {w0:World} {τ:Rel} {H:Array Obj} {w:World} (h:WR G B w0 τ H w) {k r:Nat} {i:Option (Nat×Nat)} (ht:τ k r i) {es:Array MapEntry} {c:Nat} (hk:H[k]?=some (.map es c)) :
 ∃fs,w.heap[r]?=some (.map fs c)∧ER τ es fs∧i=none:=by
 obtain⟨r2,i2,o',h1,h2,h3⟩:=h.blk k _ hk rfl;obtain⟨rfl,rfl⟩:=h.fn _ _ _ _ _ ht h1
 cases h3 with
 |map _ fs _ he=>exact⟨fs,h2,he,rfl⟩
def lookB (P:Program) (H:Array Obj) (t:TypeId) (m key:Value) (ok:Bool):Option Value:=
 match P.underlying t with
 |some (.map kt et)=>
   match (match m with|.map none=>some #[]|.map (some k)=>(match H[k]? with|some (.map es _)=>some es|_=>none)|_=>none) with
   |some es=>match findB P kt key es.isEmpty es with
     |some (some (_,v))=>some (if ok then .tuple #[v,.bool true] else v)
     |some none=>match P.info? et with
       |some i=>match i.zero with
         |some z=>if AFb 10 z then some (if ok then .tuple #[z,.bool false] else z) else none
         |none=>none
       |none=>none
     |none=>none
   |none=>none
 |_=>none
section sound
variable {P:Program} {G:Gl} {B:FM} {w0:World}
theorem ER.empty {τ:Rel} {es fs:Array MapEntry} (h:ER τ es fs):es.isEmpty=fs.isEmpty:=by
 simp[Array.isEmpty,h.1]
theorem run_look {t kt et:TypeId} {m key:Value} {ok:Bool} {fs:Array MapEntry} {w:World} (hu:P.underlying t=some (.map kt et)) (hm:(m=.map none∧fs=#[])∨∃r c,m=.map (some r)∧w.heap[r]?=some (.map fs c))
 (hc:∀w,(Instr.checkKey fs.isEmpty 10000 kt key).run P w=.ok () w) {q:Option (Nat×Value)} (hf:∀w,(Instr.findKey kt key fs.toList).run P w=.ok q w) :
 (Instr.lookup t m key ok).run P w=match q with
  |some (_,v)=>.ok (if ok then .tuple #[v,.bool true] else v) w
  |none=>((zeroValue et).run P w).andThen fun z w=>.ok (if ok then .tuple #[z,.bool false] else z) w:=by
 rcases hm with⟨rfl,rfl⟩|⟨r,c,rfl,hr⟩
 ·simp only[Instr.lookup,Sem.run_bind,run_underlying hu,Result.andThen_ok,Sem.run_pure,hc,hf]
  cases q with
  |none=>dsimp only;rw[Sem.run_bind];rfl
  |some x=>rfl
 ·simp only[Instr.lookup,Sem.run_bind,run_underlying hu,Result.andThen_ok,Sem.run_pure,getObj,Sem.run,hr,hc,hf]
  cases q with
  |none=>dsimp only;rw[Sem.run_bind];rfl
  |some x=>rfl
theorem lookB_sound {τ:Rel} {H:Array Obj} {wr:World} {t:TypeId} {m m' key key' v:Value} {ok:Bool} (h:lookB P H t m key ok=some v) (hm:VR τ m m') (hk:VR τ key key') (hw:WR G B w0 τ H wr) :
 ∃v',(Instr.lookup t m' key' ok).run P wr=.ok v' wr∧VR τ v v':=by
 unfold lookB at h
 split at h<;>first|(cases h;done)|skip
 rename_i kt et hu
 split at h<;>first|(cases h;done)|skip
 rename_i es hes
 have hfs:∃fs,ER τ es fs∧((m'=.map none∧fs=#[])∨∃r c,m'=.map (some r)∧wr.heap[r]?=some (.map fs c)):=by
  cases hm with
  |map0=>
    cases hes;exact⟨#[],⟨rfl,fun i e f h=>by simp at h⟩,.inl ⟨rfl,rfl⟩⟩
  |map k r i ht=>
    dsimp only at hes
    split at hes<;>first|(cases hes;done)|skip
    rename_i es2 c hh;cases hes;obtain⟨fs,e1,e2,_⟩:=hw.map ht hh;exact⟨fs,e2,.inr ⟨r,c,rfl,e1⟩⟩
  |_=>cases hes
 obtain⟨fs,her,hmm⟩:=hfs
 split at h<;>first|(cases h;done)|skip
 ·rename_i i u hq
  obtain⟨rfl,hak,hcc,q',hff,hr⟩:=findB_spec hq hk her;rw[her.empty] at hcc;have hrun:=run_look (ok:=ok) hu hmm hcc hff
  cases q' with
  |none=>exact hr.elim
  |some x=>
    obtain⟨j,u'⟩:=x;cases h;refine⟨_,hrun,?_⟩;cases ok
    ·exact hr.2
    ·exact VR.tuple_ (((AR.nil _).push hr.2).push (.bool true))
 ·rename_i hq
  obtain⟨rfl,hak,hcc,q',hff,hr⟩:=findB_spec hq hk her;rw[her.empty] at hcc;have hrun:=run_look (ok:=ok) hu hmm hcc hff
  cases q' with
  |some x=>exact hr.elim
  |none=>
    split at h<;>first|(cases h;done)|skip
    rename_i inf hi
    split at h<;>first|(cases h;done)|skip
    rename_i z hz
    split at h<;>first|(cases h;done)|skip
    rename_i haz;cases h;rw[run_zero hi hz] at hrun;refine⟨_,hrun,?_⟩;have hvz:=AFb.vr (τ:=τ) _ _ haz;cases ok
    ·exact hvz
    ·exact VR.tuple_ (((AR.nil _).push hvz).push (.bool false))
end sound
section er
variable {τ:Rel}
theorem ER.push {es fs:Array MapEntry} (h:ER τ es fs) {e f:MapEntry} (hk:VR τ e.key f.key) (hv:VR τ e.val f.val) (hb:e.born=f.born):ER τ (es.push e) (fs.push f):=by
 refine⟨by simp[h.1],fun i a b ha hb2=>?_⟩;rw[Array.getElem?_push] at ha hb2;rw[h.1] at ha
 by_cases hi:i=fs.size
 ·rw[if_pos hi] at ha hb2
  cases ha;cases hb2;exact⟨hk,hv,hb⟩
 ·rw[if_neg hi] at ha hb2
  exact h.2 i a b ha hb2
theorem ER.modify {es fs:Array MapEntry} (h:ER τ es fs) (j:Nat) {key key' v v':Value} (hk:VR τ key key') (hv:VR τ v v'):ER τ (es.modify j fun e=>{ e with key:=key,val:=v }) (fs.modify j fun e=>{ e with key:=key',val:=v' }):=by
 refine⟨by simp[h.1],fun i a b ha hb=>?_⟩;rw[Array.getElem?_modify] at ha hb
 by_cases hi:j=i
 ·rw[if_pos hi] at ha hb
  cases h1:es[i]? with
  |none=>rw[h1] at ha;cases ha
  |some e=>
    cases h2:fs[i]? with
    |none=>rw[h2] at hb;cases hb
    |some f=>
      rw[h1] at ha;rw[h2] at hb;cases ha;cases hb;exact⟨hk,hv,(h.2 i e f h1 h2).2.2⟩
 ·rw[if_neg hi] at ha hb
  exact h.2 i a b ha hb
theorem erase_get (es:Array MapEntry) (i j:Nat) (hi:i<es.size):(es.eraseIdxIfInBounds i)[j]?=if j<i then es[j]? else es[j+1]?:=by
 unfold Array.eraseIdxIfInBounds;rw[dif_pos hi];rw[Array.getElem?_eraseIdx]
theorem ER.erase {es fs:Array MapEntry} (h:ER τ es fs) (i:Nat):ER τ (es.eraseIdxIfInBounds i) (fs.eraseIdxIfInBounds i):=by
 by_cases hi:i<es.size
 ·have hi2:i<fs.size:=by rw[←h.1];exact hi
  refine⟨by unfold Array.eraseIdxIfInBounds;rw[dif_pos hi,dif_pos hi2];simp[h.1],fun j a b ha hb=>?_⟩;rw[erase_get _ _ _ hi] at ha;rw[erase_get _ _ _ hi2] at hb;split at ha
  ·rename_i hj;rw[if_pos hj] at hb;exact h.2 _ a b ha hb
  ·rename_i hj;rw[if_neg hj] at hb;exact h.2 _ a b ha hb
 ·have hi2:¬i<fs.size:=by rw[←h.1];exact hi
  unfold Array.eraseIdxIfInBounds;rw[dif_neg hi,dif_neg hi2];exact h
end er
def updB (P:Program) (H:Array Obj) (t:TypeId) (m key v:Value):Option (Array Obj):=
 match P.underlying t,m with
 |some (.map kt _),.map (some k)=>match H[k]? with
   |some (.map es c)=>match findB P kt key false es with
     |some (some (i,_))=>match es[i]? with
       |some e=>if AFb 10 e.key&&Instr.sameBits 10000 e.key key then some (H.setIfInBounds k (.map (es.modify i fun e=>{ e with key:=key,val:=v }) c)) else none
       |none=>none
     |some none=>some (H.setIfInBounds k (.map (es.push { key,val:=v,born:=c }) (c+1)))
     |none=>none
   |_=>none
 |_,_=>none
def delB (P:Program) (H:Array Obj) (t:TypeId) (m key:Value):Option (Array Obj):=
 match P.underlying t,m with
 |some (.map kt _),.map (some k)=>match H[k]? with
   |some (.map es c)=>match findB P kt key es.isEmpty es with
     |some (some (i,_))=>some (H.setIfInBounds k (.map (es.eraseIdxIfInBounds i) c))
     |some none=>some (H.setIfInBounds k (.map es c))
     |none=>none
   |_=>none
 |_,_=>none
section sound
variable {P:Program} {G:Gl} {B:FM} {w0:World}
theorem run_setObj {w:World} {r:Nat} {fs:Array MapEntry} {c:Nat} (h:w.heap[r]?=some (.map fs c)) (o:Obj):(setObj r o).run P w=.ok () { w with heap:=w.heap.setIfInBounds r o }:=by
 simp[setObj,Sem.run,h]
theorem run_upd {t kt et:TypeId} {key v:Value} {fs:Array MapEntry} {c r:Nat} {w:World} (hu:P.underlying t=some (.map kt et)) (hr:w.heap[r]?=some (.map fs c)) (hc:∀w,(Instr.checkKey false 10000 kt key).run P w=.ok () w) {q:Option (Nat×Value)} (hf:∀w,(Instr.findKey kt key fs.toList).run P w=.ok q w)
 (hs:∀i u,q=some (i,u)→Instr.sameBits 10000 (((fs[i]?).map (·.key)).getD key) key=true) :
 (Instr.mapUpdate t (.map (some r)) key v).run P w=.ok () { w with heap:=w.heap.setIfInBounds r (match q with|some (i,_)=>.map (fs.modify i fun e=>{ e with key:=key,val:=v }) c|none=>.map (fs.push { key,val:=v,born:=c }) (c+1)) }:=by
 simp only[Instr.mapUpdate,Sem.run_bind,run_underlying hu,Result.andThen_ok,getObj,Sem.run,hr,hc,hf]
 cases q with
 |none=>exact run_setObj hr _
 |some x=>
   obtain⟨i,u⟩:=x;have:=hs i u rfl;simp only[Instr.keyThatStays,this,if_true,Sem.run_bind,Sem.run_pure,Result.andThen_ok];exact run_setObj hr _
theorem run_del {t kt et ty:TypeId} {ts:Array TypeId} {key:Value} {fs:Array MapEntry} {c r:Nat} {w:World} (h0:ts[0]?=some t) (hu:P.underlying t=some (.map kt et)) (hr:w.heap[r]?=some (.map fs c)) (hc:∀w,(Instr.checkKey fs.isEmpty 10000 kt key).run P w=.ok () w) {q:Option (Nat×Value)} (hf:∀w,(Instr.findKey kt key fs.toList).run P w=.ok q w) :
 (Builtin.delete_ ts ty #[.map (some r),key]).run P w=.ok (.tuple #[]) { w with heap:=w.heap.setIfInBounds r (match q with|some (i,_)=>.map (fs.eraseIdxIfInBounds i) c|none=>.map fs c) }:=by
 simp only[Builtin.delete_,h0,List.getElem?_toArray,List.getElem?_cons_zero,List.getElem?_cons_succ,Sem.run_bind,run_underlying hu,Result.andThen_ok,getObj,Sem.run,hr,hc,hf]
 cases q with
 |none=>dsimp only;rw[Sem.run_bind,run_setObj hr];rfl
 |some x=>dsimp only;rw[Sem.run_bind,run_setObj hr];rfl
theorem WR.putMap {τ:Rel} {H:Array Obj} {w:World} {k r:Nat} {es fs:Array MapEntry} {c c0:Nat} {es0:Array MapEntry} (h:WR G B w0 τ H w) (ht:τ k r none) (hk:H[k]?=some (.map es0 c0)) (he:ER τ es fs) :
 WR G B w0 τ (H.setIfInBounds k (.map es c)) { w with heap:=w.heap.setIfInBounds r (.map fs c) }:=by
 have hal:alive H k:=⟨_,hk,rfl⟩;exact h.put ht hal (.map _ _ c he) rfl (h.kp.put ((h.dom _ _ _ ht).2.2 hal) _)
theorem updB_sound {τ:Rel} {H H':Array Obj} {wr:World} {t:TypeId} {m m' key key' v v':Value} (h:updB P H t m key v=some H') (hm:VR τ m m') (hk:VR τ key key') (hv:VR τ v v') (hw:WR G B w0 τ H wr) :
 ∃wr',(Instr.mapUpdate t m' key' v').run P wr=.ok () wr'∧WR G B w0 τ H' wr':=by
 unfold updB at h
 split at h<;>first|(cases h;done)|skip
 rename_i kt et k hu
 split at h<;>first|(cases h;done)|skip
 rename_i es c hh
 cases hm with
 |map _ r i ht=>
   obtain⟨fs,e1,her,rfl⟩:=hw.map ht hh
   split at h<;>first|(cases h;done)|skip
   ·rename_i j u hq
    obtain⟨rfl,hak,hcc,q',hff,hr⟩:=findB_spec hq hk her
    cases q' with
    |none=>exact hr.elim
    |some x=>
      obtain⟨j',u'⟩:=x;obtain⟨rfl,_⟩:=hr
      split at h<;>first|(cases h;done)|skip
      rename_i e hej
      split at h<;>first|(cases h;done)|skip
      rename_i hsb;rw[Bool.and_eq_true] at hsb;cases h
      have hfj:∃f,fs[j]?=some f∧f.key=e.key:=by
       have hj:=(Array.getElem?_eq_some_iff.1 hej).1
       have hj2:j<fs.size:=by rw[←her.1];exact hj
       have e2:=Array.getElem?_eq_getElem hj2;exact⟨_,e2,(AFb.eq _ _ _ hsb.1 (her.2 j e _ hej e2).1).symm⟩
      obtain⟨f,hfj,hfk⟩:=hfj;refine⟨_,run_upd hu e1 hcc hff (fun i u hiu=>?_),hw.putMap ht hh (her.modify j hk hv)⟩;cases hiu;rw[hfj];simpa[hfk] using hsb.2
   ·rename_i hq
    obtain⟨rfl,hak,hcc,q',hff,hr⟩:=findB_spec hq hk her
    cases q' with
    |some x=>exact hr.elim
    |none=>
      cases h;exact⟨_,run_upd hu e1 hcc hff (fun i u hiu=>by cases hiu),hw.putMap ht hh (her.push hk hv rfl)⟩
theorem delB_sound {τ:Rel} {H H':Array Obj} {wr:World} {t ty:TypeId} {ts:Array TypeId} {m m' key key':Value} (h0:ts[0]?=some t) (h:delB P H t m key=some H') (hm:VR τ m m') (hk:VR τ key key') (hw:WR G B w0 τ H wr) :
 ∃wr',(Builtin.delete_ ts ty #[m',key']).run P wr=.ok (.tuple #[]) wr'∧WR G B w0 τ H' wr':=by
 unfold delB at h
 split at h<;>first|(cases h;done)|skip
 rename_i kt et k hu
 split at h<;>first|(cases h;done)|skip
 rename_i es c hh
 cases hm with
 |map _ r i ht=>
   obtain⟨fs,e1,her,rfl⟩:=hw.map ht hh
   split at h<;>first|(cases h;done)|skip
   ·rename_i j u hq
    obtain⟨rfl,hak,hcc,q',hff,hr⟩:=findB_spec hq hk her;rw[her.empty] at hcc
    cases q' with
    |none=>exact hr.elim
    |some x=>
      obtain⟨j',u'⟩:=x;obtain⟨rfl,_⟩:=hr;cases h;exact⟨_,run_del h0 hu e1 hcc hff,hw.putMap ht hh (her.erase j)⟩
   ·rename_i hq
    obtain⟨rfl,hak,hcc,q',hff,hr⟩:=findB_spec hq hk her;rw[her.empty] at hcc
    cases q' with
    |some x=>exact hr.elim
    |none=>
      cases h;exact⟨_,run_del h0 hu e1 hcc hff,hw.putMap ht hh her⟩
end sound
end Go.Ev
