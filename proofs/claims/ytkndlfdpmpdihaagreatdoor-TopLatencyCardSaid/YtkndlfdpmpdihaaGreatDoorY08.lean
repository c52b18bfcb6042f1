/- One operation on the small world as a tree. No conditions beyond those that each statement shows. -/
import Derived.Test.YtkndlfdpmpdihaaGreatDoorY07
namespace Go.Ev
open Go.RowKit
set_option linter.unusedVariables false
set_option linter.unusedSimpArgs false
noncomputable def exactT (w:TW) (k:Nat):Bool:=match w.blk k with
 |some (.cells _ _ f)=>f==(0,0)
 |_=>false
noncomputable def cutT (w:TW) (ρ:Operand→Value) (o:Oper):Bool:=match o.op with
 |.slice _ x lo _ _=>match ρ x with
   |.slice (some a) _ _=>exactT w a.block || zeroV (lo.map ρ)
   |.pointer (some a)=>exactT w a.block
   |_=>true
 |_=>true
theorem exactT_ref {w:TW} {H:Array Obj} (h:Rep w H) {k:Nat} (hk:exactT w k=true):exactB H k=true:=by
 unfold exactT at hk;split at hk
 ·rename_i c e f hb
  unfold exactB;rw[(h.blk hb).1];exact hk
 ·cases hk
theorem cutT_ref {w:TW} {H:Array Obj} (h:Rep w H) {ρ:Operand→Value} {o:Oper} (hk:cutT w ρ o=true):cutB H ρ o=true:=by
 unfold cutT at hk;unfold cutB;split
 ·rename_i hop
  rw[hop] at hk;dsimp only at hk;split
  ·rename_i hx
   rw[hx] at hk;simp only[Bool.or_eq_true] at hk ⊢;exact hk.imp (exactT_ref h) id
  ·rename_i hx
   rw[hx] at hk;exact exactT_ref h hk
  ·rfl
 ·rfl
noncomputable def lookT (P:Program) (w:TW) (t:TypeId) (m key:Value) (ok:Bool):Option Value:=
 match P.underlying t with
 |some (.map kt et)=>
   match (match m with|.map none=>some #[]|.map (some k)=>(match w.blk k with|some (.map es _)=>some es|_=>none)|_=>none) with
   |some es=>match findB P kt key es.isEmpty es with
     |some (some (_,v))=>some (if ok then .tuple #[v,.bool true] else v)
     |some none=>match P.info? et with
       |some i=>match i.zero with
         |some z=>if AFb 10 z then some (if ok then .tuple #[z,.bool false] else z) else none
         |none=>none
       |none=>none
     |none=>none
   |none=>none
 |_=>none
theorem lookT_ref {P:Program} {w:TW} {H:Array Obj} (h:Rep w H) {t:TypeId} {m key v:Value} {ok:Bool} (hl:lookT P w t m key ok=some v):lookB P H t m key ok=some v:=by
 unfold lookT at hl;unfold lookB
 split at hl<;>first|(cases hl;done)|skip
 rename_i kt et hu;rw[hu]
 cases m with
 |map r=>
   cases r with
   |none=>exact hl
   |some k=>
     dsimp only at hl ⊢
     cases hb:w.blk k with
     |none=>rw[hb] at hl;cases hl
     |some o=>
       rw[hb] at hl;rw[(h.blk hb).1];exact hl
 |_=>exact hl
noncomputable def updT (P:Program) (w:TW) (t:TypeId) (m key v:Value):Option TW:=
 match P.underlying t,m with
 |some (.map kt _),.map (some k)=>match w.blk k with
   |some (.map es c)=>match findB P kt key false es with
     |some (some (i,_))=>match es[i]? with
       |some e=>if AFb 10 e.key&&Instr.sameBits 10000 e.key key then forceObj (.map (es.modify i fun e=>{ e with key:=key,val:=v }) c) fun o=>w.setK k o some else none
       |none=>none
     |some none=>forceObj (.map (es.push { key,val:=v,born:=c }) (c+1)) fun o=>w.setK k o some
     |none=>none
   |_=>none
 |_,_=>none
theorem updT_ref {P:Program} {w w':TW} {H:Array Obj} (h:Rep w H) {t:TypeId} {m key v:Value} (hl:updT P w t m key v=some w'):∃H',updB P H t m key v=some H'∧Rep w' H':=by
 unfold updT at hl;unfold updB
 split at hl<;>first|(cases hl;done)|skip
 rename_i kt et k hu;rw[hu];dsimp only
 split at hl<;>first|(cases hl;done)|skip
 rename_i es c hb;obtain⟨h1,h2⟩:=h.blk hb;rw[h1];dsimp only
 split at hl<;>first|(cases hl;done)|skip
 ·rename_i i u hf
  rw[hf];dsimp only
  split at hl<;>first|(cases hl;done)|skip
  rename_i e he;rw[he];dsimp only
  split at hl<;>first|(cases hl;done)|skip
  rename_i hc;rw[if_pos hc];simp only[forceObj_eq,TW.setK,T.setK_eq,Option.some.injEq] at hl;subst hl;exact⟨_,rfl,h.set h2 _⟩
 ·rename_i hf
  rw[hf];simp only[forceObj_eq,TW.setK,T.setK_eq,Option.some.injEq] at hl;subst hl;exact⟨_,rfl,h.set h2 _⟩
noncomputable def delT (P:Program) (w:TW) (t:TypeId) (m key:Value):Option TW:=
 match P.underlying t,m with
 |some (.map kt _),.map (some k)=>match w.blk k with
   |some (.map es c)=>match findB P kt key es.isEmpty es with
     |some (some (i,_))=>forceObj (.map (es.eraseIdxIfInBounds i) c) fun o=>w.setK k o some
     |some none=>forceObj (.map es c) fun o=>w.setK k o some
     |none=>none
   |_=>none
 |_,_=>none
theorem delT_ref {P:Program} {w w':TW} {H:Array Obj} (h:Rep w H) {t:TypeId} {m key:Value} (hl:delT P w t m key=some w'):∃H',delB P H t m key=some H'∧Rep w' H':=by
 unfold delT at hl;unfold delB
 split at hl<;>first|(cases hl;done)|skip
 rename_i kt et k hu;rw[hu];dsimp only
 split at hl<;>first|(cases hl;done)|skip
 rename_i es c hb;obtain⟨h1,h2⟩:=h.blk hb;rw[h1];dsimp only
 split at hl<;>first|(cases hl;done)|skip
 ·rename_i i u hf
  rw[hf];simp only[forceObj_eq,TW.setK,T.setK_eq,Option.some.injEq] at hl;subst hl;exact⟨_,rfl,h.set h2 _⟩
 ·rename_i hf
  rw[hf];simp only[forceObj_eq,TW.setK,T.setK_eq,Option.some.injEq] at hl;subst hl;exact⟨_,rfl,h.set h2 _⟩
noncomputable def killT (w:TW) (size:Nat) (elem:TypeId):Option Addr→Option TW
 |none=>some w
 |some a=>match w.blk a.block with
   |some (.cells _ e f)=>if f==(0,0) then some w else if f==(size+2,1)&&a.off==0&&a.spot.isNone&&e==elem then w.setK a.block dead some else none
   |_=>none
theorem killT_ref {w w':TW} {H:Array Obj} (h:Rep w H) {size:Nat} {elem:TypeId} {base:Option Addr} (hl:killT w size elem base=some w'):∃H',killB H size elem base=some H'∧Rep w' H':=by
 cases base with
 |none=>cases hl;exact⟨H,rfl,h⟩
 |some a=>
   unfold killT at hl;unfold killB;dsimp only at hl ⊢
   split at hl<;>first|(cases hl;done)|skip
   rename_i cs e f hb;obtain⟨h1,h2⟩:=h.blk hb;rw[h1];dsimp only;split at hl
   ·rename_i hf
    cases hl;rw[if_pos hf];exact⟨H,rfl,h⟩
   ·rename_i hf
    rw[if_neg hf];split at hl
    ·rename_i hc
     rw[if_pos hc];simp only[TW.setK,T.setK_eq,Option.some.injEq] at hl;subst hl;exact⟨_,rfl,h.set h2 _⟩
    ·cases hl
noncomputable def growT (P:Program) (w:TW) (ts:Array TypeId) (s x:Value):Option (Value×TW):=
 match ts[0]?,ts[1]?,s,lenV x with
 |some t0,some t1,.slice base sLen sCap,some n=>
   match P.underlying t0,P.underlying t1 with
   |some (.slice elem),some d1=>
     match P.info? elem with
     |some i=>match i.zero with
       |some z=>
         if notInt d1&&decide (sCap<sLen+n)&&decide (sLen+n<256)&&decide (i.bytes≤1073741824)&&z.cells.size==i.size&&zeroOk P elem then
          match runW P (Builtin.firstCells i.size sLen s) w,runW P (Builtin.firstCells i.size n x) w,killT w i.size elem base with
          |some (old,_),some (new,_),some w'=>
            if old.size==sLen*i.size&&new.size==n*i.size&&new.toList.all Value.plainCell then
             match Nat.blt w'.n 65536 with
             |true=>w'.pushK (.cells (old++new) elem (i.size+2,1)) fun w2=>some (.slice (some ⟨w'.n,0,none⟩) (sLen+n) (sLen+n),w2)
             |false=>none
            else none
          |_,_,_=>none
         else none
       |none=>none
     |none=>none
   |_,_=>none
 |_,_,_,_=>none
theorem growT_ref {P:Program} {w w':TW} {u:World} (h:Rep w u.heap) {ts:Array TypeId} {s x v:Value} (hl:growT P w ts s x=some (v,w')):∃H',growB P u.heap u ts s x=some (v,H')∧Rep w' H':=by
 unfold growT at hl;unfold growB
 split at hl<;>first|(cases hl;done)|skip
 rename_i t0 t1 base sLen sCap n h0 h1 hlen;rw[h0,h1,hlen];dsimp only
 split at hl<;>first|(cases hl;done)|skip
 rename_i elem d1 hu0 hu1;rw[hu0,hu1];dsimp only
 split at hl<;>first|(cases hl;done)|skip
 rename_i i hi;rw[hi];dsimp only
 split at hl<;>first|(cases hl;done)|skip
 rename_i z hz;rw[hz];dsimp only
 split at hl<;>first|(cases hl;done)|skip
 rename_i hc;rw[if_pos hc]
 split at hl<;>first|(cases hl;done)|skip
 rename_i old wo new wn w1 ho hn hk;obtain⟨u1,r1,_⟩:=runW_sound ho h;obtain⟨u2,r2,_⟩:=runW_sound hn h;obtain⟨H1,k1,k2⟩:=killT_ref h hk;rw[r1,r2,k1];dsimp only
 split at hl<;>first|(cases hl;done)|skip
 rename_i hc2;rw[if_pos hc2]
 split at hl<;>first|(cases hl;done)|skip
 rename_i hlt;simp only[TW.pushK,forceObj_eq,T.setK_eq,forceNat_eq,Option.some.injEq,Prod.mk.injEq] at hl;obtain⟨rfl,rfl⟩:=hl
 have hsz:H1.size=u.heap.size:=by
  have:=k2.size
  cases base with
  |none=>cases k1;rfl
  |some a=>
    unfold killB at k1;dsimp only at k1;split at k1
    ·split at k1
     ·cases k1;rfl
     ·split at k1
      ·cases k1;simp
      ·cases k1
    ·cases k1
 refine⟨_,by rw[←hsz,k2.size],?_⟩;exact k2.push (by simpa[Nat.blt_eq] using hlt) _
abbrev SpecT:=(Operand→Value)→Oper→TW→Option (Next×TW)
noncomputable def specA (P:Program):SpecT:=fun ρ o w=>match o.op with
 |.lookup t m k ok=>match lookT P w t (ρ m) (ρ k) ok with
   |some v=>some (.value v,w)
   |none=>none
 |.mapUpdate t m k v=>match updT P w t (ρ m) (ρ k) (ρ v) with
   |some w'=>some (.skip,w')
   |none=>none
 |.insert t m k v=>match updT P w t (ρ m) (ρ k) (ρ v) with
   |some w'=>some (.skip,w')
   |none=>none
 |.call ⟨.builtin .append,args,ts⟩=>match args.toList with
   | [s,x]=>match growT P w ts (ρ s) (ρ x) with
     |some (v,w')=>some (.value v,w')
     |none=>match same0 P ts (ρ s) (ρ x) with
       |some v=>some (.value v,w)
       |none=>none
   |_=>none
 |.call ⟨.builtin .delete,args,ts⟩=>match args.toList,ts.toList with
   | [m,k],t::_=>match delT P w t (ρ m) (ρ k) with
     |some w'=>some (.value (.tuple #[]),w')
     |none=>none
   |_,_=>none
 |_=>none
def SpecOkT (P:Program) (G:Gl) (sp:SpecT):Prop:=∀(ρ ρ':Operand→Value) (o:Oper) (wa wa':TW) (n:Next),sp ρ o wa=some (n,wa')→∀(B:FM) (w0:World) (τ:Rel) (wr:World) (H:Array Obj),(∀x∈o.op.operands,VR τ (ρ x) (ρ' x))→Rep wa H→WR G B w0 τ H wr →
 ∃ τ' n' wr' H',τ.le τ'∧(execOp ρ' o).run P wr=.ok n' wr'∧NR τ' n n'∧Rep wa' H'∧WR G B w0 τ' H' wr'
theorem specA_ref {P:Program} {ρ:Operand→Value} {o:Oper} {w w':TW} {n:Next} {u:World} (hl:specA P ρ o w=some (n,w')) (h:Rep w u.heap):∃u',spec P ρ o u=some (n,u')∧Rep w' u'.heap:=by
 unfold specA at hl;unfold spec
 split at hl<;>first|(cases hl;done)|skip
 ·rename_i t m k ok hop
  rw[hop];dsimp only
  split at hl<;>first|(cases hl;done)|skip
  rename_i v hv;cases hl;rw[lookT_ref h hv];exact⟨u,rfl,h⟩
 ·rename_i t m k v hop
  rw[hop];dsimp only
  split at hl<;>first|(cases hl;done)|skip
  rename_i w2 hv;cases hl;obtain⟨H',e1,e2⟩:=updT_ref h hv;rw[e1];exact⟨_,rfl,e2⟩
 ·rename_i t m k v hop
  rw[hop];dsimp only
  split at hl<;>first|(cases hl;done)|skip
  rename_i w2 hv;cases hl;obtain⟨H',e1,e2⟩:=updT_ref h hv;rw[e1];exact⟨_,rfl,e2⟩
 ·rename_i args ts hop
  rw[hop];dsimp only
  split at hl<;>first|(cases hl;done)|skip
  rename_i s x ha;rw[ha];dsimp only;split at hl
  ·rename_i v w2 hg
   cases hl;obtain⟨H',e1,e2⟩:=growT_ref h hg;rw[e1];exact⟨_,rfl,e2⟩
  ·split at hl<;>first|(cases hl;done)|skip
   rename_i v hs;cases hl
   cases hq:growB P u.heap u ts (ρ s) (ρ x) with
   |none=>
     dsimp only;rw[hs];exact⟨u,rfl,h⟩
   |some r=>
     exfalso;unfold same0 at hs;unfold growB at hq
     split at hs<;>first|(cases hs;done)|skip
     rename_i t0 t1 base sLen sCap h0 h1 hsl hlen;rw[h0,h1,hsl,hlen] at hq;dsimp only at hq
     split at hs<;>first|(cases hs;done)|skip
     rename_i elem d1 hu0 hu1;rw[hu0,hu1] at hq;dsimp only at hq
     split at hs<;>first|(cases hs;done)|skip
     rename_i i hi;rw[hi] at hq;dsimp only at hq
     split at hs<;>first|(cases hs;done)|skip
     rename_i hc;rw[Bool.and_eq_true,decide_eq_true_eq] at hc
     split at hq<;>first|(cases hq;done)|skip
     rw[if_neg (by
      intro hcc;simp only[Bool.and_eq_true,decide_eq_true_eq] at hcc
      omega)] at hq
     cases hq
 ·rename_i args ts hop
  rw[hop];dsimp only
  split at hl<;>first|(cases hl;done)|skip
  rename_i m k t rest ha ht;rw[ha,ht];dsimp only
  split at hl<;>first|(cases hl;done)|skip
  rename_i w2 hg;cases hl;obtain⟨H',e1,e2⟩:=delT_ref h hg;rw[e1];exact⟨_,rfl,e2⟩
def wOf (H:Array Obj):World:={ heap:=H,tape:=fun _ _=>0,drawn:=0,os:=default,output:=#[] }
theorem specA_ok (P:Program) (G:Gl):SpecOkT P G (specA P):=by
 intro ρ ρ' o wa wa' n h B w0 τ wr H hv hR hw;obtain⟨u',h1,h2⟩:=specA_ref (u:=wOf H) h hR;obtain⟨τ',n',wr',l1,r1,r2,r3⟩:=spec_ok P G ρ ρ' o (wOf H) u' n h1 B w0 τ wr hv hw;exact⟨τ',n',wr',u'.heap,l1,r1,r2,h2,r3⟩
theorem WR.newOld {G:Gl} {B:FM} {w0:World} {τ:Rel} {H:Array Obj} {wr:World} {cs cs':Array Value} {e e':TypeId} {f:Nat×Nat} (q:Option (Nat×Nat)) (h:WR G B w0 τ H wr) (ho:LR τ cs cs') :
 ∃ τ':Rel,τ.le τ'∧τ' H.size wr.heap.size q∧WR G B w0 τ' (H.push (oldB cs e)) { wr with heap:=wr.heap.push (.cells cs' e' f) }:=by
 refine⟨⟨fun k r i=>τ.r k r i∨(k=H.size∧r=wr.heap.size∧i=q),τ.s⟩,⟨fun k r i x=>.inl x,fun _ _ x=>x⟩,.inr ⟨rfl,rfl,rfl⟩,?_⟩;have hle:τ.le (⟨fun k r i=>τ.r k r i∨(k=H.size∧r=wr.heap.size∧i=q),τ.s⟩:Rel):=⟨fun k r i x=>.inl x,fun _ _ x=>x⟩
 have hnew:¬alive (H.push (oldB cs e)) H.size:=by
  rintro ⟨u,hu,hl⟩;simp at hu;subst hu;have:=not_live_old cs e;unfold oldB at this;rw[this] at hl;cases hl
 have hal:∀k,k<H.size→alive (H.push (oldB cs e)) k→alive H k:=by
  rintro k hk ⟨u,hu,hl⟩;rw[Array.getElem?_push,if_neg (by omega)] at hu;exact⟨u,hu,hl⟩
 have hold:∀ {j:Nat},j<wr.heap.size→(wr.heap.push (.cells cs' e' f))[j]?=wr.heap[j]?:=fun{j} hj=>by rw[Array.getElem?_push,if_neg (by omega)]
 refine⟨fun k u hk hu=>?_,?_,?_,?_,?_,?_,fun g hg=>.inl (h.glob g hg),h.kp.alloc _,h.sy⟩
 ·rw[Array.getElem?_push] at hk
  by_cases he:k=H.size
  ·rw[if_pos he] at hk
   cases hk;rw[not_live_old] at hu;cases hu
  ·rw[if_neg he] at hk
   obtain⟨r,i,u',h1,h2,h3⟩:=h.blk k u hk hu;refine⟨r,i,u',.inl h1,?_,h3.mono hle⟩;show (wr.heap.push _)[r]?=_;rw[hold (h.dom _ _ _ h1).2.1];exact h2
 ·rintro k r i r' i' (h1|⟨rfl,rfl,rfl⟩) (h2|⟨e,rfl,rfl⟩)
  ·exact h.fn _ _ _ _ _ h1 h2
  ·have:=(h.dom _ _ _ h1).1;omega
  ·have:=(h.dom _ _ _ h2).1;omega
  ·exact⟨rfl,rfl⟩
 ·rintro k k' r i i' (h1|⟨rfl,rfl,rfl⟩) (h2|⟨rfl,e,rfl⟩) l1 l2
  ·exact h.inj _ _ _ _ _ h1 h2 (hal _ (h.dom _ _ _ h1).1 l1) (hal _ (h.dom _ _ _ h2).1 l2)
  ·exact absurd l2 hnew
  ·exact absurd l1 hnew
  ·rfl
 ·rintro k r i (h1|⟨rfl,rfl,rfl⟩)
  ·have:=h.dom _ _ _ h1
   refine⟨by simp;omega,by simp;omega,fun l=>this.2.2 (hal _ this.1 l)⟩
  ·exact⟨by simp,by simp,fun l=>absurd l hnew⟩
 ·intro k u hk
  rw[Array.getElem?_push] at hk
  by_cases he:k=H.size
  ·rw[if_pos he] at hk;cases hk;exact .inr (.inr ⟨_,_,rfl⟩)
  ·rw[if_neg he] at hk;exact h.ok k u hk
 ·intro k cs2 e2 hk
  rw[Array.getElem?_push] at hk
  by_cases he:k=H.size
  ·rw[if_pos he] at hk
   simp only[oldB,Option.some.injEq,Obj.cells.injEq] at hk;obtain⟨rfl,rfl,_⟩:=hk;refine⟨wr.heap.size,q,cs',e',f,.inr ⟨he,rfl,rfl⟩,by simp,ho.mono hle,?_,.inr h.kp.new⟩;rintro k' i' (g|⟨rfl,_,rfl⟩) ha
   ·have:=(h.dom _ _ _ g).2.1;omega
   ·exact hnew ha
  ·rw[if_neg he] at hk
   obtain⟨r,i,cs3,e3,f3,h1,h2,h3,h4,h5⟩:=h.old k cs2 e2 hk;have hr:=(h.dom _ _ _ h1).2.1;refine⟨r,i,cs3,e3,f3,.inl h1,?_,h3.mono hle,?_,h5⟩
   ·show (wr.heap.push _)[r]?=_
    rw[hold hr];exact h2
   ·rintro k' i' (g|⟨rfl,g,rfl⟩) ha
    ·exact h4 k' i' g (hal _ (h.dom _ _ _ g).1 ha)
    ·omega
def bytesL (s:ByteArray):Array Value:=⟨s.data.toList.map fun b=>.int .u8 b.toNat⟩
def bytesLoop (cs:Array Value):Sem Value:=do
 let mut s:=ByteArray.empty
 for c in cs do
  let .int .u8 n:=c|stuck "bytesToString: byte expected"
  s:=s.push (UInt8.ofNat n.toNat)
 pure (.string s)
theorem bytesToString_eq (a:Addr) (l c:Nat):Conv.bytesToString (.slice (some a) l c)=(do let cs ←loadCells a l;bytesLoop cs):=rfl
noncomputable def convT (P:Program) (w:TW) (src dst:TypeId) (x:Value):Option (Value×TW):=
 match P.underlying src,P.underlying dst,x with
 |some us,some (.slice e),.string s=>match P.underlying e with
   |some (.int .u8)=>match Nat.blt w.n 65536 with
     |true=>w.pushK (oldB (bytesL s) e) fun w2=>some (.slice (some ⟨w.n,0,none⟩) s.size s.size,w2)
     |false=>none
   |_=>none
 |some (.slice e),some .string,.slice none l c=>match P.underlying e with
   |some (.int .u8)=>some (.string .empty,w)
   |_=>none
 |some (.slice e),some .string,.slice (some a) l c=>match P.underlying e with
   |some (.int .u8)=>match runW P (loadCells a l) w with
     |some (cs,_)=>match cs.toList.all (AFb 10),still P (bytesLoop cs) with
       |true,some v=>match AFb 10 v with|true=>some (v,w)|false=>none
       |_,_=>none
     |none=>none
   |_=>none
 |_,_,_=>none
theorem ro_loadCellsFrom (a:Addr):∀(n i:Nat) (acc:Array Value),RO (loadCellsFrom a i n acc)
 | 0,i,acc=>.pure _
 |n+1,i,acc=>RO.then (.load _ _ _ (fun v=>.pure v)) (fun v=>ro_loadCellsFrom a n (i+1) _)
theorem run_stringToBytes {P:Program} (e:TypeId) (s:ByteArray) (w:World):∃cap cs f d,s.size≤cap∧(∀(i:Nat) (v:Value),(bytesL s)[i]?=some v→cs[i]?=some v)∧cs.size=cap ∧
 (Conv.stringToBytes e s).run P w=.ok (.slice (some ⟨w.heap.size,0,none⟩) s.size cap) { w with drawn:=d,heap:=w.heap.push (.cells cs e f) }:=by
 obtain⟨cap,hcap⟩:∃cap,cap=(Question.appendCap s.size 0 e).cut (w.tape w.drawn (Question.appendCap s.size 0 e)):=⟨_,rfl⟩
 have hle:s.size≤cap:=by rw[hcap];exact Nat.le_add_right _ _
 have hsz:(s.data.map fun b=>Value.int .u8 (b.toNat:Int)).size=s.size:=by rw[Array.size_map];rfl
 refine⟨cap,(s.data.map fun b=>Value.int .u8 b.toNat)++Array.replicate (cap-s.size) (.int .u8 0),(((s.data.map fun b=>Value.int .u8 (b.toNat:Int))++Array.replicate (cap-s.size) (Value.int .u8 0)).size,((s.data.map fun b=>Value.int .u8 (b.toNat:Int))++Array.replicate (cap-s.size) (Value.int .u8 0)).size+1),w.drawn+1,hle,?_,?_,?_⟩
 ·intro i v hv
  have hb:bytesL s=s.data.map fun b=>Value.int .u8 (b.toNat:Int):=by unfold bytesL;rw[←Array.toList_map]
  rw[hb] at hv;have hi:=(Array.getElem?_eq_some_iff.1 hv).1;rw[Array.getElem?_append,if_pos hi];exact hv
 ·rw[Array.size_append,hsz,Array.size_replicate];omega
 ·have hch:∀w:World,(choose (Question.appendCap s.size 0 e)).run P w=.ok ((Question.appendCap s.size 0 e).cut (w.tape w.drawn (Question.appendCap s.size 0 e))) w.drew:=fun w=>rfl
  have hnr:∀(xs:Array Value) (w:World),(newRow e xs).run P w=.ok ⟨w.heap.size,0,none⟩ { w with heap:=w.heap.push (.cells xs e) }:=fun xs w=>by simp[newRow,newObj,Sem.run]
  have hms:∀(xs:Array Value) (w:World),(markStringish ⟨w.heap.size,0,none⟩).run P { w with heap:=w.heap.push (.cells xs e) }=.ok () { w with heap:=w.heap.push (.cells xs e (xs.size,xs.size+1)) }:=by
   intro xs w
   have hsh:World.shape? { w with heap:=w.heap.push (.cells xs e) } w.heap.size=some (e,xs.size):=by simp[World.shape?]
   simp only[markStringish,Sem.run_bind,shape,freeze,Sem.run,hsh,Result.andThen_ok];congr 1;unfold World.freeze;rw[if_neg (by decide)];congr 1;apply Array.ext_getElem?;intro j;simp only[Array.getElem?_modify,Array.getElem?_push]
   by_cases hj:j=w.heap.size
   ·subst hj;simp
   ·rw[if_neg (fun x=>hj x.symm),if_neg hj,if_neg hj]
  simp only[Conv.stringToBytes,Sem.run_bind,hch,Result.andThen_ok,hnr,←hcap];rw[show w.drew.heap=w.heap from rfl];have:=hms ((s.data.map fun b=>Value.int .u8 (b.toNat:Int))++Array.replicate (cap-s.size) (Value.int .u8 0)) w.drew;rw[show w.drew.heap=w.heap from rfl] at this;rw[this];rfl
theorem convT_ok {P:Program} {G:Gl} {B:FM} {w0:World} {τ:Rel} {wa wa':TW} {wr:World} {H:Array Obj} {src dst:TypeId} {x x' v:Value} (h:convT P wa src dst x=some (v,wa')) (hx:VR τ x x') (hR:Rep wa H) (hw:WR G B w0 τ H wr) :
 ∃ τ' v' wr' H',τ.le τ'∧(convert src dst x').run P wr=.ok v' wr'∧VR τ' v v'∧Rep wa' H'∧WR G B w0 τ' H' wr':=by
 unfold convT at h
 split at h<;>first|(cases h;done)|skip
 ·rename_i us e s h1 h2
  split at h<;>first|(cases h;done)|skip
  rename_i h3
  split at h<;>first|(cases h;done)|skip
  rename_i hn;simp only[TW.pushK,forceObj_eq,T.setK_eq,forceNat_eq,Option.some.injEq,Prod.mk.injEq] at h;obtain⟨rfl,rfl⟩:=h;cases hx;obtain⟨cap,cs,f,d,c1,c2,c3,c4⟩:=run_stringToBytes (P:=P) e s wr
  obtain⟨τ',l1,t1,w1⟩:=(hw.drewn d).newOld (cs:=bytesL s) (cs':=cs) (e:=e) (e':=e) (f:=f) (some (cap,1)) (fun i v hv=>⟨v,c2 i v hv,AFb.vr 10 v (by
   unfold bytesL at hv;simp only[List.getElem?_toArray,List.getElem?_map,Option.map_eq_some_iff] at hv;obtain⟨b,_,rfl⟩:=hv
   rfl)⟩)
  refine⟨τ',.slice (some ⟨wr.heap.size,0,none⟩) s.size cap,_,_,l1,?_,?_,hR.push (by simpa[Nat.blt_eq] using hn) _,w1⟩
  ·simp only[convert,Sem.run_bind,run_underlying h1,run_underlying h2,Result.andThen_ok]
   cases us<;>(simp only[Sem.run_bind,run_underlying h3,Result.andThen_ok];exact c4)
  ·rw[hR.size] at t1
   exact .sl _ _ 0 _ _ _ _ t1 ⟨c1,by simp⟩
 ·rename_i e l c h1 h2
  split at h<;>first|(cases h;done)|skip
  rename_i h3;cases h;cases hx;refine⟨τ,.string .empty,wr,H,Rel.le.refl _,?_,.string _,hR,hw⟩;simp only[convert,Sem.run_bind,run_underlying h1,run_underlying h2,Result.andThen_ok,run_underlying h3];rfl
 ·rename_i e a l c h1 h2
  split at h<;>first|(cases h;done)|skip
  rename_i h3
  split at h<;>first|(cases h;done)|skip
  rename_i cs wl hl
  split at h<;>first|(cases h;done)|skip
  rename_i v2 hall hst
  split at h<;>first|(cases h;done)|skip
  rename_i hav;cases h
  cases hx with
  |sl k r o _ _ c' ii ht hcap=>
    obtain⟨u',r1,r2⟩:=runW_sound hl (u:=wOf H) hR;obtain⟨τ',b,wr',l1,q1,q2,q3⟩:=(sim_loadCellsFrom (P:=P) l 0 (a:=⟨k,o,none⟩) (b:=⟨r,o,none⟩) ⟨k,r,o,ii,rfl,rfl,ht⟩ (AR.nil τ)).run (wa:=wOf H) hw r1
    have e1:b=cs:=by
     refine(arr_eq q2.1 fun i v v' a b=>AFb.eq 10 v v' (List.all_eq_true.1 hall v ?_) (q2.2 i v v' a b)).symm;exact List.mem_of_getElem? (by rw[Array.getElem?_toList];exact a)
    subst e1;have e2:=(ro_loadCellsFrom ⟨r,o,none⟩ l 0 #[]).same q1;subst e2;refine⟨τ,v,wr',H,Rel.le.refl _,?_,AFb.vr 10 v hav,hR,hw⟩;simp only[convert,Sem.run_bind,run_underlying h1,run_underlying h2,Result.andThen_ok,run_underlying h3,bytesToString_eq];have hlc:(loadCells ⟨r,o,none⟩ l).run P wr'=.ok b wr':=q1;rw[hlc,Result.andThen_ok];exact still_run _ hst wr'
theorem ER.modify2 {τ:Rel} {es fs:Array MapEntry} (h:ER τ es fs) (j:Nat) {F F':MapEntry→MapEntry} (hF:∀e f:MapEntry,VR τ e.key f.key→VR τ e.val f.val→e.born=f.born→VR τ (F e).key (F' f).key∧VR τ (F e).val (F' f).val∧(F e).born=(F' f).born):ER τ (es.modify j F) (fs.modify j F'):=by
 refine⟨by simp[h.1],fun i a b ha hb=>?_⟩;rw[Array.getElem?_modify] at ha hb
 by_cases hi:j=i
 ·rw[if_pos hi] at ha hb
  cases h1:es[i]? with
  |none=>rw[h1] at ha;cases ha
  |some e=>
    cases h2:fs[i]? with
    |none=>rw[h2] at hb;cases hb
    |some f=>
      rw[h1] at ha;rw[h2] at hb;cases ha;cases hb;obtain⟨q1,q2,q3⟩:=h.2 i e f h1 h2;exact hF e f q1 q2 q3
 ·rw[if_neg hi] at ha hb
  exact h.2 i a b ha hb
theorem ER.born {τ:Rel} {es fs:Array MapEntry} (h:ER τ es fs):es.map (·.born)=fs.map (·.born):=by
 apply Array.ext_getElem?;intro i;rw[Array.getElem?_map,Array.getElem?_map]
 cases h1:es[i]? with
 |none=>
   have:fs[i]?=none:=by
    rw[Array.getElem?_eq_none_iff] at h1 ⊢;rw[←h.1];exact h1
   rw[this]
 |some e=>
   have hi:=(Array.getElem?_eq_some_iff.1 h1).1
   have hi2:i<fs.size:=by rw[←h.1];exact hi
   have h2:=Array.getElem?_eq_getElem hi2;rw[h2];simp[(h.2 i e _ h1 h2).2.2]
theorem ER.idx {τ:Rel} {es fs:Array MapEntry} (h:ER τ es fs) (n:Int):es.findIdx? (fun e=>(e.born:Int)==n)=fs.findIdx? (fun e=>(e.born:Int)==n):=by
 have h1:=Array.findIdx?_map (f:=(·.born)) (xs:=es) (p:=fun(b:Nat)=>(b:Int)==n);have h2:=Array.findIdx?_map (f:=(·.born)) (xs:=fs) (p:=fun(b:Nat)=>(b:Int)==n);rw[h.born,h2] at h1;exact h1.symm
noncomputable def entT (P:Program) (w:TW) (t:TypeId) (m key:Value):Option (Value×TW):=
 match P.underlying t,m with
 |some (.map kt et),.map (some k)=>match w.blk k with
   |some (.map es c)=>match findB P kt key false es with
     |some (some (i,v))=>match es[i]? with
       |some e=>if AFb 10 e.key&&Instr.sameBits 10000 e.key key then forceObj (.map (es.modify i fun e=>{ e with key:=key }) c) fun o=>w.setK k o fun w'=>some (.tuple #[v,goInt e.born],w') else none
       |none=>none
     |some none=>match P.info? et with
       |some inf=>match inf.zero with
         |some z=>if AFb 10 z then forceObj (.map (es.push { key,val:=z,born:=c }) (c+1)) fun o=>w.setK k o fun w'=>some (.tuple #[z,goInt c],w') else none
         |none=>none
       |none=>none
     |none=>none
   |_=>none
 |_,_=>none
theorem run_ent {P:Program} {w:World} {t kt et:TypeId} {key:Value} {fs:Array MapEntry} {c r:Nat} (hu:P.underlying t=some (.map kt et)) (hr:w.heap[r]?=some (.map fs c)) (hc:∀w,(Instr.checkKey false 10000 kt key).run P w=.ok () w) {q:Option (Nat×Value)} (hf:∀w,(Instr.findKey kt key fs.toList).run P w=.ok q w)
 (hs:∀i u,q=some (i,u)→Instr.sameBits 10000 (((fs[i]?).map (·.key)).getD key) key=true) {inf:TypeInfo} {z:Value} (hz:q=none→P.info? et=some inf∧inf.zero=some z) :
 (Instr.mapEntry t (.map (some r)) key).run P w=match q with
  |some (i,v)=>.ok (.tuple #[v,goInt (((fs[i]?).map (·.born)).getD 0)]) { w with heap:=w.heap.setIfInBounds r (.map (fs.modify i fun e=>{ e with key:=key }) c) }
  |none=>.ok (.tuple #[z,goInt c]) { w with heap:=w.heap.setIfInBounds r (.map (fs.push { key,val:=z,born:=c }) (c+1)) }:=by
 simp only[Instr.mapEntry,Sem.run_bind,run_underlying hu,Result.andThen_ok,getObj,Sem.run,hr,hc,hf]
 cases q with
 |none=>
   obtain⟨h1,h2⟩:=hz rfl;simp only[Sem.run_bind,run_zero h1 h2,Result.andThen_ok,run_setObj hr];rfl
 |some x=>
   obtain⟨i,u⟩:=x;have:=hs i u rfl;simp only[Instr.keyThatStays,this,if_true,Sem.run_bind,Sem.run_pure,Result.andThen_ok,run_setObj hr]
theorem entT_ok {P:Program} {G:Gl} {B:FM} {w0:World} {τ:Rel} {wa wa':TW} {wr:World} {H:Array Obj} {t:TypeId} {m m' key key' v:Value} (h:entT P wa t m key=some (v,wa')) (hm:VR τ m m') (hk:VR τ key key') (hR:Rep wa H) (hw:WR G B w0 τ H wr) :
 ∃v' wr' H',(Instr.mapEntry t m' key').run P wr=.ok v' wr'∧VR τ v v'∧Rep wa' H'∧WR G B w0 τ H' wr':=by
 unfold entT at h
 split at h<;>first|(cases h;done)|skip
 rename_i kt et k hu
 split at h<;>first|(cases h;done)|skip
 rename_i es c hb;obtain⟨h1,h2⟩:=hR.blk hb
 cases hm with
 |map _ r i ht=>
   obtain⟨fs,e1,her,rfl⟩:=hw.map ht h1
   split at h<;>first|(cases h;done)|skip
   ·rename_i j u hq
    obtain⟨rfl,hak,hcc,q',hff,hr⟩:=findB_spec hq hk her
    cases q' with
    |none=>exact hr.elim
    |some x=>
      obtain⟨j',u'⟩:=x;obtain⟨rfl,huu⟩:=hr
      split at h<;>first|(cases h;done)|skip
      rename_i e hej
      split at h<;>first|(cases h;done)|skip
      rename_i hsb;rw[Bool.and_eq_true] at hsb;simp only[forceObj_eq,TW.setK,T.setK_eq,Option.some.injEq,Prod.mk.injEq] at h;obtain⟨rfl,rfl⟩:=h
      have hfj:∃f,fs[j]?=some f∧f.key=e.key∧f.born=e.born:=by
       have hj:=(Array.getElem?_eq_some_iff.1 hej).1
       have hj2:j<fs.size:=by rw[←her.1];exact hj
       have e2:=Array.getElem?_eq_getElem hj2;exact⟨_,e2,(AFb.eq _ _ _ hsb.1 (her.2 j e _ hej e2).1).symm,(her.2 j e _ hej e2).2.2.symm⟩
      obtain⟨f,hfj,hfk,hfb⟩:=hfj
      have hrun:=run_ent (P:=P) (inf:=default) (z:=undef) hu e1 hcc hff (fun i u hiu=>by
       cases hiu;rw[hfj]
       simpa[hfk] using hsb.2) (fun hh=>by cases hh)
      refine⟨_,_,_,hrun,?_,hR.set h2 _,hw.putMap ht h1 (her.modify2 j fun e f q1 q2 q3=>⟨hk,q2,q3⟩)⟩;rw[hfj];simp only[Option.map_some,Option.getD_some,hfb];exact VR.tuple_ (((AR.nil τ).push huu).push (.int _ _))
   ·rename_i hq
    obtain⟨rfl,hak,hcc,q',hff,hr⟩:=findB_spec hq hk her
    cases q' with
    |some x=>exact hr.elim
    |none=>
      split at h<;>first|(cases h;done)|skip
      rename_i inf hinf
      split at h<;>first|(cases h;done)|skip
      rename_i z hz
      split at h<;>first|(cases h;done)|skip
      rename_i hza;simp only[forceObj_eq,TW.setK,T.setK_eq,Option.some.injEq,Prod.mk.injEq] at h;obtain⟨rfl,rfl⟩:=h;have hrun:=run_ent (P:=P) hu e1 hcc hff (fun i u hiu=>by cases hiu) (fun _=>⟨hinf,hz⟩);refine⟨_,_,_,hrun,?_,hR.set h2 _,hw.putMap ht h1 (her.push hk (AFb.vr _ _ hza) rfl)⟩;exact VR.tuple_ (((AR.nil τ).push (AFb.vr _ _ hza)).push (.int _ _))
noncomputable def estT (w:TW) (m s v:Value):Option TW:=match m,s with
 |.map (some k),.int _ n=>match w.blk k with
   |some (.map es c)=>match es.findIdx? (fun e=>(e.born:Int)==n) with
     |some i=>forceObj (.map (es.modify i fun e=>{ e with val:=v }) c) fun o=>w.setK k o some
     |none=>none
   |_=>none
 |_,_=>none
theorem estT_ok {P:Program} {G:Gl} {B:FM} {w0:World} {τ:Rel} {wa wa':TW} {wr:World} {H:Array Obj} {t:TypeId} {m m' s s' v v':Value} (h:estT wa m s v=some wa') (hm:VR τ m m') (hs:VR τ s s') (hv:VR τ v v') (hR:Rep wa H) (hw:WR G B w0 τ H wr) :
 ∃wr' H',(Instr.entryStore t m' s' v').run P wr=.ok () wr'∧Rep wa' H'∧WR G B w0 τ H' wr':=by
 unfold estT at h
 split at h<;>first|(cases h;done)|skip
 rename_i k kk n
 split at h<;>first|(cases h;done)|skip
 rename_i es c hb;obtain⟨h1,h2⟩:=hR.blk hb;cases hs
 cases hm with
 |map _ r i ht=>
   obtain⟨fs,e1,her,rfl⟩:=hw.map ht h1
   split at h<;>first|(cases h;done)|skip
   rename_i j hj;simp only[forceObj_eq,TW.setK,T.setK_eq,Option.some.injEq] at h;subst h;refine⟨_,_,?_,hR.set h2 _,hw.putMap ht h1 (her.modify2 j (F':=fun e=>{ e with val:=v' }) fun e f q1 q2 q3=>⟨q1,hv,q3⟩)⟩;rw[her.idx] at hj;simp only[Instr.entryStore,Sem.run_bind,getObj,Sem.run,e1,asInt,asIntOf,Sem.run_pure,Result.andThen_ok,hj];exact run_setObj e1 _
noncomputable def specT (P:Program):SpecT:=fun ρ o w=>match o.op with
 |.convert src dst x=>match convT P w src dst (ρ x) with
   |some (v,w')=>some (.value v,w')
   |none=>none
 |.mapEntry t m k=>match entT P w t (ρ m) (ρ k) with
   |some (v,w')=>some (.value v,w')
   |none=>none
 |.entryStore t m s x=>match estT w (ρ m) (ρ s) (ρ x) with
   |some w'=>some (.skip,w')
   |none=>none
 |_=>specA P ρ o w
theorem specT_ok (P:Program) (G:Gl):SpecOkT P G (specT P):=by
 intro ρ ρ' o wa wa' n h B w0 τ wr H hv hR hw;unfold specT at h;split at h
 ·rename_i src dst x hop
  split at h<;>first|(cases h;done)|skip
  rename_i v w2 hc;cases h;obtain⟨τ',v',wr',H',l1,r1,r2,r3,r4⟩:=convT_ok hc (hv x (by rw[hop];simp[Op.operands])) hR hw;refine⟨τ',_,wr',H',l1,?_,.value _ _ r2,r3,r4⟩;unfold execOp;rw[hop];show ((do pure (Next.value (←convert src dst (ρ' x)))):Sem Next).run P wr=_;rw[Sem.run_bind,r1];rfl
 ·rename_i t m k hop
  split at h<;>first|(cases h;done)|skip
  rename_i v w2 hc;cases h;obtain⟨v',wr',H',r1,r2,r3,r4⟩:=entT_ok (P:=P) hc (hv m (by rw[hop];simp[Op.operands])) (hv k (by rw[hop];simp[Op.operands])) hR hw;refine⟨τ,_,wr',H',Rel.le.refl _,?_,.value _ _ r2,r3,r4⟩;unfold execOp;rw[hop];show ((do pure (Next.value (←Instr.mapEntry t (ρ' m) (ρ' k)))):Sem Next).run P wr=_;rw[Sem.run_bind,r1];rfl
 ·rename_i t m s x hop
  split at h<;>first|(cases h;done)|skip
  rename_i w2 hc;cases h;obtain⟨wr',H',r1,r3,r4⟩:=estT_ok (P:=P) (t:=t) hc (hv m (by rw[hop];simp[Op.operands])) (hv s (by rw[hop];simp[Op.operands])) (hv x (by rw[hop];simp[Op.operands])) hR hw;refine⟨τ,_,wr',H',Rel.le.refl _,?_,.skip,r3,r4⟩;unfold execOp;rw[hop];show ((do Instr.entryStore t (ρ' m) (ρ' s) (ρ' x);pure Next.skip):Sem Next).run P wr=_;rw[Sem.run_bind,r1];rfl
 ·exact specA_ok P G ρ ρ' o wa wa' n h B w0 τ wr H hv hR hw
section short
variable {α β:Type}
noncomputable def dropR (o:Nat):List α→List α:=Nat.rec (motive:=fun _=>List α→List α) (fun l=>l) (fun _ ih l=>List.rec (motive:=fun _=>List α) [] (fun _ xs _=>ih xs) l) o
theorem dropR_eq:∀(o:Nat) (l:List α),dropR o l=l.drop o
 | 0,l=>rfl
 |o+1,[]=>rfl
 |o+1,x::l=>by
   show dropR o l=_;rw[dropR_eq o l];rfl
noncomputable def takeK (n:Nat):List α→(List α→Option β)→Option β:=Nat.rec (motive:=fun _=>List α→(List α→Option β)→Option β) (fun _ k=>k []) (fun _ ih l k=>List.rec (motive:=fun _=>Option β) none (fun x xs _=>ih xs fun ys=>k (x::ys)) l) n
theorem takeK_eq:∀(n:Nat) (l:List α) (k:List α→Option β),takeK n l k=if n≤l.length then k (l.take n) else none
 | 0,l,k=>by
   show k []=_;simp
 |n+1,[],k=>by
   show none=_;simp
 |n+1,x::l,k=>by
   show takeK n l (fun ys=>k (x::ys))=_;rw[takeK_eq n l];simp
noncomputable def replK (vs:List α):List α→(List α→Option β)→Option β:=List.rec (motive:=fun _=>List α→(List α→Option β)→Option β) (fun l k=>k l) (fun v _ ih l k=>List.rec (motive:=fun _=>Option β) none (fun _ xs _=>ih xs fun ys=>k (v::ys)) l) vs
theorem replK_eq:∀(vs l:List α) (k:List α→Option β),replK vs l k=if vs.length≤l.length then k (vs++l.drop vs.length) else none
 | [],l,k=>by
   show k l=_;simp
 |v::vs,[],k=>by
   show none=_;simp
 |v::vs,x::l,k=>by
   show replK vs l (fun ys=>k (v::ys))=_;rw[replK_eq vs l];simp
noncomputable def overK (vs:List α) (o:Nat):List α→(List α→Option β)→Option β:=Nat.rec (motive:=fun _=>List α→(List α→Option β)→Option β) (replK vs) (fun _ ih l k=>List.rec (motive:=fun _=>Option β) none (fun x xs _=>ih xs fun ys=>k (x::ys)) l) o
theorem overK_eq (vs:List α):∀(o:Nat) (l:List α) (k:List α→Option β),overK vs o l k=if o+vs.length≤l.length then k (l.take o++(vs++l.drop (o+vs.length))) else none
 | 0,l,k=>by
   show replK vs l k=_;rw[replK_eq];simp
 |o+1,[],k=>by
   show none=_;rw[if_neg (by simp only[List.length_nil];omega)]
 |o+1,x::l,k=>by
   show overK vs o l (fun ys=>k (x::ys))=_;rw[overK_eq vs o l]
   by_cases h:o+vs.length≤l.length
   ·rw[if_pos h,if_pos (by simp only[List.length_cons];omega)]
    rw[show o+1+vs.length=(o+vs.length)+1 by omega];simp
   ·rw[if_neg h,if_neg (by simp only[List.length_cons];omega)]
end short
noncomputable def fastLd (P:Program) (w:TW) (t:TypeId) (a:Value):Option Value:=match a with
 |.pointer (some ⟨b,o,none⟩)=>match w.blk b with
   |some (.cells ⟨cs⟩ _ _)=>match P.underlying t with
     |some (.struct _)=>match P.info? t with
       |some i=>takeK i.size (dropR o cs) fun vs=>some (.agg ⟨vs⟩)
       |none=>none
     |some (.array _ _)=>match P.info? t with
       |some i=>takeK i.size (dropR o cs) fun vs=>some (.agg ⟨vs⟩)
       |none=>none
     |some _=>nthL cs o
     |none=>none
   |_=>none
 |_=>none
def cellsL (v:Value):List Value:=match v with
 |.agg ⟨vs⟩=>vs
 |v=>[v]
theorem cellsL_eq (v:Value):v.cells=⟨cellsL v⟩:=by cases v<;>rfl
noncomputable def fastSt (P:Program) (w:TW) (t:TypeId) (a v:Value):Option TW:=match a with
 |.pointer (some ⟨b,o,none⟩)=>match w.blk b with
   |some (.cells ⟨cs⟩ e (lo,hi))=>match P.info? t with
     |some i=>match Nat.beq (cellsL v).length i.size&&((cellsL v).all Value.plainCell&&Nat.ble hi lo) with
       |true=>overK (cellsL v) o cs fun cs=>w.setK b (.cells ⟨cs⟩ e (lo,hi)) some
       |false=>none
     |none=>none
   |_=>none
 |_=>none
theorem run_storeCells2 {P:Program}:∀(vs:List Value) (w:World) (r o i:Nat) (cs:Array Value) (e:TypeId) (lo hi:Nat),hi≤lo→w.heap[r]?=some (.cells cs e (lo,hi))→o+i+vs.length≤cs.size→(∀v∈vs,Value.plainCell v=true) →
 ∃w',(storeCells ⟨r,o,none⟩ vs i).run P w=.ok () w'∧w'.heap=w.heap.setIfInBounds r (.cells (over cs (o+i) vs) e (lo,hi))
 | [],w,r,o,i,cs,e,lo,hi,hlo,h,hl,hp=>by
   refine⟨w,rfl,?_⟩;apply Array.ext_getElem?;intro j
   by_cases hj:r=j
   ·subst hj
    obtain⟨hlt,_⟩:=Array.getElem?_eq_some_iff.1 h;rw[Array.getElem?_setIfInBounds_self,if_pos hlt,h];rfl
   ·rw[Array.getElem?_setIfInBounds_ne hj]
 |v::vs,w,r,o,i,cs,e,lo,hi,hlo,h,hl,hp=>by
   simp only[List.length_cons] at hl
   have hc:w.cell? ⟨r,o+i,none⟩=some cs[o+i]:=by
    simp only[World.cell?,h];simp
   have hf:w.frozen? ⟨r,o+i,none⟩=false:=by simp[World.frozen?,h];omega
   have h2:(w.setCell ⟨r,o+i,none⟩ v).heap[r]?=some (.cells (cs.setIfInBounds (o+i) v) e (lo,hi)):=by
    obtain⟨hlt,_⟩:=Array.getElem?_eq_some_iff.1 h;rw[setCell_heap w r (o+i) v h,Array.getElem?_setIfInBounds_self,if_pos hlt]
   obtain⟨w',a1,a2⟩:=run_storeCells2 (P:=P) vs (w.setCell ⟨r,o+i,none⟩ v) r o (i+1) (cs.setIfInBounds (o+i) v) e lo hi hlo h2 (by simp;omega) (fun u hu=>hp u (by simp[hu]));refine⟨w',?_,?_⟩
   ·show (Sem.bind (store ((⟨r,o,none⟩:Addr).add i) v) fun _=>storeCells ⟨r,o,none⟩ vs (i+1)).run P w=_
    rw[add_eq];show (Sem.store .plain ⟨r,o+i,none⟩ v ((Sem.pure ()).bind fun _=>storeCells ⟨r,o,none⟩ vs (i+1))).run P w=_;rw[run_store_of (hp v (by simp)) hc hf];exact a1
   ·rw[a2,setCell_heap w r (o+i) v h]
    apply Array.ext_getElem?;intro j
    by_cases hj:r=j
    ·subst hj
     simp only[Array.getElem?_setIfInBounds_self,Array.size_setIfInBounds];rfl
    ·rw[Array.getElem?_setIfInBounds_ne hj,Array.getElem?_setIfInBounds_ne hj,Array.getElem?_setIfInBounds_ne hj]
theorem run_loadFrom {P:Program} {w:World} {b o:Nat} {cs:List Value} {e:TypeId} {f:Nat×Nat} (h:w.heap[b]?=some (.cells ⟨cs⟩ e f)):∀(n i:Nat) (acc:Array Value),o+i+n≤cs.length→(loadCellsFrom ⟨b,o,none⟩ i n acc).run P w=.ok (acc++⟨(cs.drop (o+i)).take n⟩) w
 | 0,i,acc,hn=>by simp[loadCellsFrom]
 |n+1,i,acc,hn=>by
   have hlt:o+i<cs.length:=by omega
   have hc:w.cell? ⟨b,o+i,none⟩=some cs[o+i]:=by simp[World.cell?,h,hlt]
   show (Sem.bind (load ((⟨b,o,none⟩:Addr).add i)) fun v=>loadCellsFrom ⟨b,o,none⟩ (i+1) n (acc.push v)).run P w=_;rw[Sem.run_bind',add_eq]
   have hl:(load ⟨b,o+i,none⟩:Sem Value).run P w=.ok cs[o+i] w:=by
    simp[load,Sem.run,hc]
   rw[hl];show (loadCellsFrom ⟨b,o,none⟩ (i+1) n (acc.push cs[o+i])).run P w=_;rw[run_loadFrom h n (i+1) _ (by omega)];congr 1;rw[List.drop_eq_getElem_cons hlt,List.take_succ_cons];rw[show o+(i+1)=o+i+1 by omega];apply Array.toList_inj.1;simp
theorem over_list (cs vs:List Value) (o:Nat) (h:o+vs.length≤cs.length):over ⟨cs⟩ o vs=⟨cs.take o++(vs++cs.drop (o+vs.length))⟩:=by
 apply Array.ext_getElem?;intro j;rw[over_get _ _ _ _ (by simpa using h)];simp only[List.getElem?_toArray]
 by_cases h1:j<o
 ·rw[if_neg (by omega),List.getElem?_append_left (by simp;omega),List.getElem?_take,if_pos h1]
 ·rw[List.getElem?_append_right (by simp;omega)]
  have:(cs.take o).length=o:=by simp;omega
  rw[this]
  by_cases h2:j<o+vs.length
  ·rw[if_pos ⟨by omega,h2⟩,List.getElem?_append_left (by omega)]
  ·rw[if_neg (by omega),List.getElem?_append_right (by omega),List.getElem?_drop]
   congr 1;omega
noncomputable def runF (P:Program) (ρ:Operand→Value) (o:Oper) (w:TW):Option (Next×TW):=match o.op with
 |.load t a=>match fastLd P w t (ρ a) with
   |some v=>some (.value v,w)
   |none=>runW P (execC o.op o.type ρ) w
 |.store t a x=>match fastSt P w t (ρ a) (ρ x) with
   |some w'=>some (.skip,w')
   |none=>runW P (execC o.op o.type ρ) w
 |_=>runW P (execC o.op o.type ρ) w
theorem fastLd_run {P:Program} {w:TW} {t:TypeId} {a v:Value} (h:fastLd P w t a=some v) {u:World} (hu:Rep w u.heap):(Instr.loadAt t a).run P u=.ok v u:=by
 unfold fastLd at h
 split at h<;>first|(cases h;done)|skip
 rename_i b o
 split at h<;>first|(cases h;done)|skip
 rename_i cs e f hb;obtain⟨h1,h2⟩:=hu.blk hb
 have hag:∀(d:TypeDesc) (i:TypeInfo),(∃fs,d=.struct fs)∨(∃n e,d=.array n e)→P.underlying t=some d→P.info? t=some i→takeK i.size (dropR o cs) (fun vs=>some (Value.agg ⟨vs⟩))=some v→(Instr.loadAt t (.pointer (some ⟨b,o,none⟩))).run P u=.ok v u:=by
  intro d i hd hun hi hk;rw[takeK_eq,dropR_eq] at hk
  split at hk<;>first|(cases hk;done)|skip
  rename_i hle;cases hk
  by_cases h0:i.size=0
  ·have hr:(loadCells ⟨b,o,none⟩ i.size).run P u=.ok #[] u:=by rw[h0];rfl
   simp only[Instr.loadAt,Instr.sureAddr,loadVar,isAgg,Sem.run_bind,Sem.run_pure,Result.andThen_ok,run_underlying hun,run_sizeOf hi];rw[h0]
   rcases hd with⟨fs,rfl⟩|⟨n,e,rfl⟩<;>(simp only[Sem.run_pure,Result.andThen_ok,if_true,Sem.run_bind,run_sizeOf hi,hr];simp)
  ·have hln:o+0+i.size≤cs.length:=by rw[List.length_drop] at hle;omega
   have hr:(loadCells ⟨b,o,none⟩ i.size).run P u=.ok (#[]++⟨(cs.drop (o+0)).take i.size⟩) u:=run_loadFrom h1 i.size 0 #[] hln;simp only[Instr.loadAt,Instr.sureAddr,loadVar,isAgg,Sem.run_bind,Sem.run_pure,Result.andThen_ok,run_underlying hun]
   rcases hd with⟨fs,rfl⟩|⟨n,e,rfl⟩<;>(simp only[Sem.run_pure,Result.andThen_ok,if_true,Sem.run_bind,run_sizeOf hi,hr];simp)
 split at h
 ·rename_i fs hun
  split at h<;>first|(cases h;done)|skip
  rename_i i hi;exact hag _ i (.inl ⟨fs,rfl⟩) hun hi h
 ·rename_i n e hun
  split at h<;>first|(cases h;done)|skip
  rename_i i hi;exact hag _ i (.inr ⟨n,e,rfl⟩) hun hi h
 ·rename_i d hd1 hd2 hun
  rw[nthL_eq] at h
  have hc:u.cell? ⟨b,o,none⟩=some v:=by simp[World.cell?,h1,h]
  simp only[Instr.loadAt,Instr.sureAddr,loadVar,isAgg,Sem.run_bind,Sem.run_pure,Result.andThen_ok,run_underlying hun]
  cases d<;>first|exact absurd rfl (hd1 _)|exact absurd rfl (hd2 _ _)|(simp only[Sem.run_pure,Result.andThen_ok,Bool.false_eq_true,if_false];simp[load,Sem.run,hc])
 ·cases h
theorem fastSt_run {P:Program} {w w':TW} {t:TypeId} {a v:Value} (h:fastSt P w t a v=some w') {u:World} (hu:Rep w u.heap):∃u',(Instr.storeAt t a v).run P u=.ok () u'∧Rep w' u'.heap:=by
 unfold fastSt at h
 split at h<;>first|(cases h;done)|skip
 rename_i b o
 split at h<;>first|(cases h;done)|skip
 rename_i cs e lo hi hb;obtain⟨h1,h2⟩:=hu.blk hb
 split at h<;>first|(cases h;done)|skip
 rename_i i hin
 split at h<;>first|(cases h;done)|skip
 rename_i hc;rw[Bool.and_eq_true,Bool.and_eq_true] at hc;rw[overK_eq] at h
 split at h<;>first|(cases h;done)|skip
 rename_i hle;simp only[TW.setK,T.setK_eq,Option.some.injEq] at h;subst h;obtain⟨u',a1,a2⟩:=run_storeCells2 (P:=P) (cellsL v) u b o 0 ⟨cs⟩ e lo hi (Nat.le_of_ble_eq_true hc.2.2) h1 (by simpa using hle) (fun v hv=>List.all_eq_true.1 hc.2.1 v hv);refine⟨u',?_,?_⟩
 ·have hsz:v.cells.size=i.size:=by
   rw[cellsL_eq];exact Nat.eq_of_beq_eq_true hc.1
  simp only[Instr.storeAt,Instr.sureAddr,storeVar,Sem.run_bind,Sem.run_pure,Result.andThen_ok,run_sizeOf hin,hsz];simp only[ne_eq,not_true_eq_false,if_false];rw[cellsL_eq];exact a1
 ·rw[a2,Nat.add_zero,over_list cs _ o hle]
  exact hu.set h2 _
theorem runF_sound {P:Program} {ρ:Operand→Value} {o:Oper} {w w':TW} {n:Next} (h:runF P ρ o w=some (n,w')) {u:World} (hu:Rep w u.heap):∃u',(execOp ρ o).run P u=.ok n u'∧Rep w' u'.heap:=by
 unfold runF at h;simp only[execQ_eq] at h;split at h
 ·rename_i t a hop
  split at h
  ·rename_i v hv
   cases h;refine⟨u,?_,hu⟩;unfold execOp;rw[hop];show ((do pure (Next.value (←Instr.loadAt t (ρ a)))):Sem Next).run P u=_;rw[Sem.run_bind,fastLd_run hv hu];rfl
  ·exact runW_sound h hu
 ·rename_i t a x hop
  split at h
  ·rename_i w2 hv
   cases h;obtain⟨u',r1,r2⟩:=fastSt_run hv hu;refine⟨u',?_,r2⟩;unfold execOp;rw[hop];show ((do Instr.storeAt t (ρ a) (ρ x);pure Next.skip):Sem Next).run P u=_;rw[Sem.run_bind,r1];rfl
  ·exact runW_sound h hu
 ·exact runW_sound h hu
theorem runF_congr {P:Program} {ρ ρ':Operand→Value} {o:Oper} {w:TW} (h:∀x∈o.op.operands,ρ x=ρ' x) (e:execOp ρ o=execOp ρ' o):runF P ρ o w=runF P ρ' o w:=by
 unfold runF;simp only[execQ_eq];rw[e];split
 ·rename_i t a hop
  rw[h a (by rw[hop];simp[Op.operands])]
 ·rename_i t a x hop
  rw[h a (by rw[hop];simp[Op.operands]),h x (by rw[hop];simp[Op.operands])]
 ·rfl
noncomputable def evalOpT (P:Program) (sp:SpecT) (okx:Operand→Bool) (ρ:Operand→Value) (o:Oper) (wa:TW):Option (Next×TW):=
 if o.op.operands.toList.all okx then
  match evalAF P ρ o with
  |some v=>some (.value v,wa)
  |none=>
    if kindOk P ρ o&&cutT wa ρ o then runF P ρ o wa
    else sp ρ o wa
 else none
def WT (G:Gl) (B:FM) (w0:World) (τ:Rel) (wa:TW) (wr:World):Prop:=∃H,Rep wa H∧WR G B w0 τ H wr
theorem evalOpT_sound {P:Program} {G:Gl} {B:FM} {w0:World} {sp:SpecT} (hsp:SpecOkT P G sp) {okx:Operand→Bool} {ρ ρ':Operand→Value} {o:Oper} {wa wa':TW} {wr:World} {n:Next} {τ:Rel} (hρ:∀x,okx x=true→VR τ (ρ x) (ρ' x)) (hw:WT G B w0 τ wa wr) (h:evalOpT P sp okx ρ o wa=some (n,wa')) :
 ∃ τ' n' wr',τ.le τ'∧(execOp ρ' o).run P wr=.ok n' wr'∧NR τ' n n'∧WT G B w0 τ' wa' wr':=by
 obtain⟨H,hR,hw⟩:=hw;unfold evalOpT at h;split at h
 ·rename_i ho
  have hv:∀x∈o.op.operands,VR τ (ρ x) (ρ' x):=fun x hx=>hρ x (List.all_eq_true.1 ho x (by simpa using hx));split at h
  ·rename_i v he
   cases h;obtain⟨h1,h2⟩:=evalAF_spec hv he;exact⟨τ,_,wr,Rel.le.refl τ,h2 wr,.value _ _ (AFb.vr _ _ h1),H,hR,hw⟩
  ·rename_i hna
   split at h
   ·rename_i hk
    rw[Bool.and_eq_true] at hk;obtain⟨u',r1,r2⟩:=runF_sound h (u:=wOf H) hR
    have he:evalOp P (fun _ _ _=>none) okx ρ o (wOf H)=some (n,u'):=by
     unfold evalOp;rw[if_pos ho,hna];dsimp only;rw[if_pos (by rw[Bool.and_eq_true];exact⟨hk.1,cutT_ref hR hk.2⟩),r1]
    obtain⟨τ',n',wr',l1,e1,e2,e3⟩:=evalOp_sound (G:=G) (sp:=fun _ _ _=>none) (fun _ _ _ _ _ _ hx=>by cases hx) hρ hw he;exact⟨τ',n',wr',l1,e1,e2,_,r2,e3⟩
   ·obtain⟨τ',n',wr',H',l1,e1,e2,e3,e4⟩:=hsp _ _ o wa wa' n h B w0 τ wr H hv hR hw
    exact⟨τ',n',wr',l1,e1,e2,H',e3,e4⟩
 ·cases h
section wt
variable {G:Gl} {B B':FM} {w0:World} {τ:Rel} {wa:TW} {w:World}
def upd (B:FM) (r:Nat) (o:Option Obj):FM:=fun j=>if j=r then o else B j
theorem upd_same (B:FM) (r:Nat) (o:Option Obj):upd B r o r=o:=by simp[upd]
theorem upd_ne (B:FM) (r:Nat) (o:Option Obj) {j:Nat} (h:j≠r):upd B r o j=B j:=by simp[upd,h]
theorem WT.lt (h:WT G B w0 τ wa w) {j:Nat} (hj:B j≠none):j<w.heap.size:=by obtain⟨H,_,h⟩:=h;exact h.kp.lt hj
theorem WT.at (h:WT G B w0 τ wa w) {j:Nat} {o:Obj} (hj:B j=some o):w.heap[j]?=some o:=by obtain⟨H,_,h⟩:=h;exact h.kp.block j o hj
theorem WT.lay (h:WT G B w0 τ wa w) (o:Obj):WT G (upd B w.heap.size (some o)) w0 τ wa (w.alloc o):=by
 obtain⟨H,hR,h⟩:=h;have old:∀ {j:Nat},j<w.heap.size→(w.alloc o).heap[j]?=w.heap[j]?:=fun{j} hj=>Below.heap_alloc w o j hj;refine⟨H,hR,fun k u hk hu=>?_,h.fn,h.inj,fun k r i x=>?_,h.ok,fun k cs e hk=>?_,h.glob,?_,h.sy⟩
 ·obtain⟨r,i,o',h1,h2,h3⟩:=h.blk k u hk hu
  exact⟨r,i,o',h1,by rw[old (h.dom _ _ _ h1).2.1];exact h2,h3⟩
 ·obtain⟨a,b,c⟩:=h.dom _ _ _ x
  exact⟨a,by rw[World.size_alloc];omega,fun l=>by rw[upd_ne _ _ _ (by omega)];exact c l⟩
 ·obtain⟨r,i,cs',e',f,h1,h2,h3,h4,h5⟩:=h.old k cs e hk
  exact⟨r,i,cs',e',f,h1,by rw[old (h.dom _ _ _ h1).2.1];exact h2,h3,h4,h5.imp id fun hb=>by rw[upd_ne _ _ _ (by have:=(h.dom _ _ _ h1).2.1;omega)];exact hb⟩
 ·refine⟨h.kp.os,h.kp.tape,h.kp.output,by rw[World.size_alloc];exact Nat.le_succ_of_le h.kp.size,fun j u hj=>?_⟩
  by_cases e:j=w.heap.size
  ·subst e
   rw[upd_same] at hj;cases hj;show (w.heap.push o)[w.heap.size]?=some o;simp
  ·rw[upd_ne _ _ _ e] at hj
   rw[old (h.kp.lt (by rw[hj];simp))];exact h.kp.block j u hj
theorem WT.take {r:Nat} {cs:Array Value} {t:TypeId} (h:WT G (upd B r (some (.cells cs t (0,0)))) w0 τ wa w) (hB:B r=none) (h0:w0.heap.size≤r) (hcs:∀ τ:Rel,AR τ cs cs) (hn:wa.n<65536) :
 ∃ τ':Rel,τ.le τ'∧τ' wa.n r none∧WT G B w0 τ' ⟨T.set (.cells cs t (0,0)) 16 wa.t wa.n,wa.n+1⟩ w:=by
 obtain⟨H,hR,h⟩:=h;have hg:=h.kp.block r _ (upd_same _ _ _);have hgl:=(Array.getElem?_eq_some_iff.1 hg).1;have hsz:=hR.size;refine⟨⟨fun k u j=>τ.r k u j∨(k=wa.n∧u=r∧j=none),τ.s⟩,⟨fun k r j x=>.inl x,fun _ _ x=>x⟩,.inr ⟨rfl,rfl,rfl⟩,H.push (.cells cs t (0,0)),hR.push hn _,?_⟩;have hle:τ.le (⟨fun k u j=>τ.r k u j∨(k=wa.n∧u=r∧j=none),τ.s⟩:Rel):=⟨fun k r j x=>.inl x,fun _ _ x=>x⟩
 have hal:∀k,k<H.size→alive (H.push (.cells cs t (0,0))) k→alive H k:=by
  rintro k hk ⟨u,hu,hl⟩;rw[Array.getElem?_push,if_neg (by omega)] at hu;exact⟨u,hu,hl⟩
 have hna:∀k i,τ k r i→¬alive H k:=by
  intro k i hk ha;have:=(h.dom _ _ _ hk).2.2 ha;rw[upd_same] at this;cases this
 have hdn:∀ {u:Nat},upd B r (some (.cells cs t (0,0))) u=none→u≠r∧B u=none:=by
  intro u hu
  have hne:u≠r:=fun e=>by rw[e,upd_same] at hu;cases hu
  rw[upd_ne _ _ _ hne] at hu;exact⟨hne,hu⟩
 have har:AR τ cs cs:=hcs τ;refine⟨fun k u hk hu=>?_,?_,?_,?_,?_,?_,fun q hq=>.inl (h.glob q hq),?_,h.sy⟩
 ·rw[Array.getElem?_push] at hk
  by_cases he:k=H.size
  ·rw[if_pos he] at hk
   cases hk;exact⟨r,none,_,.inr ⟨by omega,rfl,rfl⟩,hg,.cells _ _ _ (har.mono hle)⟩
  ·rw[if_neg he] at hk
   obtain⟨r2,j,u',h1,h2,h3⟩:=h.blk k u hk hu;exact⟨r2,j,u',.inl h1,h2,h3.mono hle⟩
 ·rintro k u j u' j' (h1|⟨rfl,rfl,rfl⟩) (h2|⟨e,rfl,rfl⟩)
  ·exact h.fn _ _ _ _ _ h1 h2
  ·have:=(h.dom _ _ _ h1).1;omega
  ·have:=(h.dom _ _ _ h2).1;omega
  ·exact⟨rfl,rfl⟩
 ·rintro k k' u j j' (h1|⟨rfl,rfl,rfl⟩) (h2|⟨rfl,e,rfl⟩) l1 l2
  ·exact h.inj _ _ _ _ _ h1 h2 (hal _ (h.dom _ _ _ h1).1 l1) (hal _ (h.dom _ _ _ h2).1 l2)
  ·subst e;exact absurd (hal _ (h.dom _ _ _ h1).1 l1) (hna _ _ h1)
  ·exact absurd (hal _ (h.dom _ _ _ h2).1 l2) (hna _ _ h2)
  ·rfl
 ·rintro k u j (h1|⟨rfl,rfl,rfl⟩)
  ·have:=h.dom _ _ _ h1
   exact⟨by simp;omega,this.2.1,fun l=>(hdn (this.2.2 (hal _ this.1 l))).2⟩
  ·exact⟨by simp;omega,hgl,fun _=>hB⟩
 ·intro k u hk
  rw[Array.getElem?_push] at hk
  by_cases he:k=H.size
  ·rw[if_pos he] at hk;cases hk;exact .inl rfl
  ·rw[if_neg he] at hk;exact h.ok k u hk
 ·intro k cs2 e2 hk
  rw[Array.getElem?_push] at hk
  by_cases he:k=H.size
  ·rw[if_pos he] at hk
   simp only[oldB,Option.some.injEq,Obj.cells.injEq,Prod.mk.injEq] at hk;omega
  ·rw[if_neg he] at hk
   obtain⟨r2,j,cs',e',f,h1,h2,h3,h4,h5⟩:=h.old k cs2 e2 hk
   have hne:r2≠r:=by
    rcases h5 with h5|h5
    ·omega
    ·exact(hdn h5).1
   refine⟨r2,j,cs',e',f,.inl h1,h2,h3.mono hle,?_,h5.imp id fun x=>(hdn x).2⟩;rintro k' i' (q|⟨_,q,_⟩) ha
   ·exact h4 k' i' q (hal _ (h.dom _ _ _ q).1 ha)
   ·exact hne q
 ·refine⟨h.kp.os,h.kp.tape,h.kp.output,h.kp.size,fun j o hj=>?_⟩
  have hne:j≠r:=fun e=>by rw[e,hB] at hj;cases hj
  exact h.kp.block j o (by rw[upd_ne _ _ _ hne];exact hj)
end wt
end Go.Ev
