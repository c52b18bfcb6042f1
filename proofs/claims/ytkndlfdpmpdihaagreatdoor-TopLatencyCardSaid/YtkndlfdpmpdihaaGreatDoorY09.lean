/- Maps whose keys are places, or the wheel's keys: look-ups, assignments, deletes, on maps told by what they hold. The pool of timers, told by what it holds; the handle of a place; where a live handle is found. The pool of timers: what is found at a live handle; the handle of a place; how many there a Conditions: those that each statement shows. -/
import Derived.Test.YtkndlfdpmpdihaaGreatDoorY06
import Derived.Test.YtkndlfdpmpdihaaGreatDoorY08
import Derived.Test.YtkndlfdpmpdihaaGreatDoorY05
import Derived.Deep.RegionHeld3
import Derived.StillTailTactics
namespace Go.Proofs.YtkndlfdpmpdihaaGreatDoor
open Go.RowKit Go.Ev Go.Mv
set_option linter.unusedVariables false
set_option linter.unusedSimpArgs false
def KP (k:Int×Int):Value:=KK k.1 k.2
theorem PK_inj (a b:Int) (h:PK a=PK b):a=b:=by
 simp only[PK,Value.agg.injEq] at h;have:=congrArg (fun x:Array Value=>x[0]?) h;simpa using this
theorem KP_inj (a b:Int×Int) (h:KP a=KP b):a=b:=by
 simp only[KP,KK,Value.agg.injEq] at h;have h1:=congrArg (fun x:Array Value=>x[0]?) h;have h2:=congrArg (fun x:Array Value=>x[1]?) h;simp at h1 h2;exact Prod.ext h1 h2
theorem lookP_none {a:Int}:∀ {es:List MapEntry} {i:Nat},(∀e∈es,∃b,e.key=PK b)→lookP a es i=none→valAt es (PK a)=none
 | [],i,_,_=>rfl
 |e::es,i,hk,h=>by
   obtain⟨b,hb⟩:=hk e List.mem_cons_self;unfold lookP at h;rw[hb] at h;simp only[PK] at h
   by_cases hab:a=b
   ·rw[if_pos hab] at h;cases h
   ·rw[if_neg hab] at h
    unfold valAt;rw[hb,if_neg (fun q=>hab (PK_inj _ _ q).symm)];exact lookP_none (fun x hx=>hk x (List.mem_cons_of_mem _ hx)) h
theorem lookK_none {a b:Int}:∀ {es:List MapEntry} {i:Nat},(∀e∈es,∃k,e.key=KP k)→lookK a b es i=none→valAt es (KK a b)=none
 | [],i,_,_=>rfl
 |e::es,i,hk,h=>by
   obtain⟨⟨c,d⟩,hb⟩:=hk e List.mem_cons_self;unfold lookK at h;rw[hb] at h;simp only[KP,KK] at h
   by_cases hab:a=c∧b=d
   ·rw[if_pos hab] at h;cases h
   ·rw[if_neg hab] at h
    unfold valAt;rw[hb,if_neg (fun q=>hab (by have:=KP_inj (c,d) (a,b) q;cases this;exact⟨rfl,rfl⟩))];exact lookK_none (fun x hx=>hk x (List.mem_cons_of_mem _ hx)) h
theorem findsP {es:List MapEntry} (hk:∀e∈es,∃b,e.key=PK b) (a:Int):Finds PK es a (lookP a es 0):=by
 cases h:lookP a es 0 with
 |none=>exact lookP_none hk h
 |some q=>
   obtain⟨i,v⟩:=q;obtain⟨e,_,h1,h2,h3⟩:=lookP_key _ _ h;exact⟨e,by simpa using h1,h2,h3⟩
theorem findsK {es:List MapEntry} (hk:∀e∈es,∃k,e.key=KP k) (k:Int×Int):Finds KP es k (lookK k.1 k.2 es 0):=by
 cases h:lookK k.1 k.2 es 0 with
 |none=>exact lookK_none hk h
 |some q=>
   obtain⟨i,v⟩:=q;obtain⟨e,_,h1,h2,h3⟩:=lookK_key _ _ h;exact⟨e,by simpa using h1,h2,h3⟩
theorem keysKP {es:List MapEntry} (hk:∀e∈es,∃k,e.key=KP k):∀e∈es,∃c d,e.key=KK c d:=fun e he=>let ⟨k,h⟩:=hk e he;⟨k.1,k.2,h⟩
abbrev putO (w:World) (r:Nat) (o:Obj):World:={ w with heap:=w.heap.setIfInBounds r o }
theorem putO_at {w:World} {r:Nat} {o:Obj} (h:r<w.heap.size):(putO w r o).heap[r]?=some o:=by simp[putO,h]
section
variable {t et:TypeId} {w:World} {r n:Nat} {z:Value}
theorem _root_.Go.Mv.MapIs.lookP {f:Int→Option Value} (h:MapIs PK w r f n) (hu:Tryz.prog.underlying t=some (.map 316 et)) (hz:∀w,(zeroValue et).run Tryz.prog w=.ok z w) (a:Int) (ok:Bool) :
 (Instr.lookup t (.map (some r)) (PK a) ok).run Tryz.prog w=.ok (if ok then .tuple #[(f a).getD z,.bool (f a).isSome] else(f a).getD z) w:=by
 obtain⟨es,c,h1,h2⟩:=h;have hf:=h2.finds (findsP h2.key a);rw[look_place hu hz h1 h2.key,←hf]
 cases Go.Proofs.YtkndlfdpmpdihaaGreatDoor.lookP a es.toList 0<;>rfl
theorem _root_.Go.Mv.MapIs.lookK {f:Int×Int→Option Value} (h:MapIs KP w r f n) (hu:Tryz.prog.underlying t=some (.map 219 et)) (hz:∀w,(zeroValue et).run Tryz.prog w=.ok z w) (k:Int×Int) (ok:Bool) :
 (Instr.lookup t (.map (some r)) (KK k.1 k.2) ok).run Tryz.prog w=.ok (if ok then .tuple #[(f k).getD z,.bool (f k).isSome] else(f k).getD z) w:=by
 obtain⟨es,c,h1,h2⟩:=h;have hf:=h2.finds (findsK h2.key k);rw[look_key hu hz h1 (keysKP h2.key),←hf]
 cases Go.Proofs.YtkndlfdpmpdihaaGreatDoor.lookK k.1 k.2 es.toList 0<;>rfl
theorem tells_put {α:Type} {K:α→Value} (hK:∀a b,K a=K b→a=b) {es:Array MapEntry} {c:Nat} {f:α→Option Value} (h:Tells K es.toList c f n) {a:α} (v:Value) {q:Option (Nat×Value)} (hq:Finds K es.toList a q) :
 ∃es' c',putM (K a) v es c q=.map es' c'∧Tells K es'.toList c' (fset f a (some v)) (if (f a).isSome then n else n+1):=by
 have hf:=h.finds hq
 cases q with
 |none=>
   refine⟨_,_,rfl,?_⟩;rw[←hf];have:=h.push hK (a:=a) hf.symm v;simpa using this
 |some q=>
   obtain⟨i,u⟩:=q;obtain⟨e,h1,h2,h3⟩:=hq;refine⟨_,_,rfl,?_⟩;rw[←hf];have:=h.mod hK h1 h2 (g:=fun e=>{ e with val:=v }) (v:=v) rfl rfl (fun e=>rfl)
   have e1:(es.modify i fun e=>{ e with key:=K a,val:=v }).toList=es.toList.modify i (fun e=>{ e with val:=v }):=by
    rw[Array.toList_modify];apply List.ext_getElem?;intro j;rw[List.getElem?_modify,List.getElem?_modify]
    by_cases hij:i=j
    ·subst hij
     rw[h1];simp[h2]
    ·simp[hij]
   rw[e1];simpa using this
theorem tells_del {α:Type} {K:α→Value} (hK:∀a b,K a=K b→a=b) {es:Array MapEntry} {c:Nat} {f:α→Option Value} (h:Tells K es.toList c f n) {a:α} {q:Option (Nat×Value)} (hq:Finds K es.toList a q) :
 ∃es' c',delM es c q=.map es' c'∧Tells K es'.toList c' (fset f a none) (if (f a).isSome then n-1 else n):=by
 have hf:=h.finds hq
 cases q with
 |none=>
   refine⟨_,_,rfl,?_⟩
   have e:fset f a none=f:=by
    funext x
    by_cases hx:x=a
    ·subst hx;rw[fset_same];exact hf
    ·exact fset_ne _ _ hx
   rw[e,←hf];simpa using h
 |some q=>
   obtain⟨i,u⟩:=q;obtain⟨e,h1,h2,h3⟩:=hq;refine⟨_,_,rfl,?_⟩;rw[←hf];have:=h.del hK h1 h2;simpa using this
theorem _root_.Go.Mv.MapIs.putP {f:Int→Option Value} (h:MapIs PK w r f n) (hu:Tryz.prog.underlying t=some (.map 316 et)) (a:Int) (v:Value) :
 ∃o,(∀W,W.heap[r]?=w.heap[r]?→(Instr.mapUpdate t (.map (some r)) (PK a) v).run Tryz.prog W=.ok () (putO W r o))∧∀w',w'.heap[r]?=some o→MapIs PK w' r (fset f a (some v)) (if (f a).isSome then n else n+1):=by
 obtain⟨es,c,h1,h2⟩:=h;obtain⟨es',c',h3,h4⟩:=tells_put PK_inj h2 v (findsP h2.key a);exact⟨_,fun W hW=>upd_place hu (hW.trans h1) h2.key,fun w' hw'=>⟨es',c',by rw[←h3];exact hw',h4⟩⟩
theorem _root_.Go.Mv.MapIs.putK {f:Int×Int→Option Value} (h:MapIs KP w r f n) (hu:Tryz.prog.underlying t=some (.map 219 et)) (k:Int×Int) (v:Value) :
 ∃o,(∀W,W.heap[r]?=w.heap[r]?→(Instr.mapUpdate t (.map (some r)) (KK k.1 k.2) v).run Tryz.prog W=.ok () (putO W r o))∧∀w',w'.heap[r]?=some o→MapIs KP w' r (fset f k (some v)) (if (f k).isSome then n else n+1):=by
 obtain⟨es,c,h1,h2⟩:=h;obtain⟨es',c',h3,h4⟩:=tells_put KP_inj h2 v (findsK h2.key k);exact⟨_,fun W hW=>upd_key hu (hW.trans h1) (keysKP h2.key),fun w' hw'=>⟨es',c',by rw[←h3];exact hw',h4⟩⟩
theorem _root_.Go.Mv.MapIs.delP {f:Int→Option Value} {ty:TypeId} {ts:Array TypeId} (h:MapIs PK w r f n) (h0:ts[0]?=some t) (hu:Tryz.prog.underlying t=some (.map 316 et)) (a:Int) :
 ∃o,(∀W,W.heap[r]?=w.heap[r]?→(Builtin.delete_ ts ty #[.map (some r),PK a]).run Tryz.prog W=.ok (.tuple #[]) (putO W r o))∧∀w',w'.heap[r]?=some o→MapIs PK w' r (fset f a none) (if (f a).isSome then n-1 else n):=by
 obtain⟨es,c,h1,h2⟩:=h;obtain⟨es',c',h3,h4⟩:=tells_del PK_inj h2 (findsP h2.key a);exact⟨_,fun W hW=>del_place h0 hu (hW.trans h1) h2.key,fun w' hw'=>⟨es',c',by rw[←h3];exact hw',h4⟩⟩
theorem _root_.Go.Mv.MapIs.delK {f:Int×Int→Option Value} {ty:TypeId} {ts:Array TypeId} (h:MapIs KP w r f n) (h0:ts[0]?=some t) (hu:Tryz.prog.underlying t=some (.map 219 et)) (k:Int×Int) :
 ∃o,(∀W,W.heap[r]?=w.heap[r]?→(Builtin.delete_ ts ty #[.map (some r),KK k.1 k.2]).run Tryz.prog W=.ok (.tuple #[]) (putO W r o))∧∀w',w'.heap[r]?=some o→MapIs KP w' r (fset f k none) (if (f k).isSome then n-1 else n):=by
 obtain⟨es,c,h1,h2⟩:=h;obtain⟨es',c',h3,h4⟩:=tells_del KP_inj h2 (findsK h2.key k);exact⟨_,fun W hW=>del_key h0 hu (hW.trans h1) (keysKP h2.key),fun w' hw'=>⟨es',c',by rw[←h3];exact hw',h4⟩⟩
theorem findIdx_born {es:Array MapEntry} {i:Nat} {e:MapEntry} (hb:es.toList.Pairwise fun x y=>x.born≠y.born) (hi:es.toList[i]?=some e):es.findIdx? (fun x=>(x.born:Int)==(e.born:Int))=some i:=by
 obtain⟨hlt,hi⟩:=List.getElem?_eq_some_iff.1 hi;rw[Array.findIdx?_eq_some_iff_getElem];refine⟨by simpa using hlt,?_,?_⟩
 ·have:es[i]'(by simpa using hlt)=e:=by simpa using hi
  simp[this]
 ·intro j hj
  have h1:=(List.pairwise_iff_getElem.1 hb) j i (by omega) hlt hj;rw[hi] at h1;simp only[Array.getElem_toList] at h1;simp;omega
theorem _root_.Go.Mv.MapIs.entP {f:Int→Option Value} (h:MapIs PK w r f n) (hu:Tryz.prog.underlying t=some (.map 316 et)) {inf:TypeInfo} (hz:Tryz.prog.info? et=some inf∧inf.zero=some z) (a:Int) :
 ∃o s,(∀W,W.heap[r]?=w.heap[r]?→(Instr.mapEntry t (.map (some r)) (PK a)).run Tryz.prog W=.ok (.tuple #[(f a).getD z,s]) (putO W r o))∧(∀W,W.heap[r]?=some o→(Instr.lookup t (.map (some r)) (PK a) false).run Tryz.prog W=.ok ((f a).getD z) W) ∧
  ∀v,∃o',(∀w',w'.heap[r]?=some o→(Instr.entryStore t (.map (some r)) s v).run Tryz.prog w'=.ok () (putO w' r o'))∧∀w'',w''.heap[r]?=some o'→MapIs PK w'' r (fset f a (some v)) (if (f a).isSome then n else n+1):=by
 obtain⟨es,c,h1,h2⟩:=h;have hq:=findsP h2.key a;have hf:=h2.finds hq
 have hent:=fun(W:World) (hW:W.heap[r]?=w.heap[r]?)=>run_ent (P:=Tryz.prog) (t:=t) (key:=PK a) (inf:=inf) (z:=z) hu (hW.trans h1) (fun w=>checkKey316 _ a w) (fun w=>findKey316 (a:=a) es.toList w h2.key) (by
  intro i u hiu;obtain⟨e,_,h5,h6,_⟩:=lookP_key _ _ hiu;rw[Nat.sub_zero,Array.getElem?_toList] at h5;rw[h5];simp only[Option.map_some,Option.getD_some,h6]
  exact bitsP a) (fun _=>hz)
 generalize Go.Proofs.YtkndlfdpmpdihaaGreatDoor.lookP a es.toList 0=q at hq hf hent
 cases q with
 |none=>
   have hva:valAt es.toList (PK a)=none:=hq;refine⟨_,_,fun W hW=>by rw[←hf];exact hent W hW,fun W hW=>?_,fun v=>?_⟩
   ·have hp:=h2.push PK_inj (a:=a) hf.symm z
    have h3:MapIs PK W r (fset f a (some z)) (n+1):=⟨_,_,hW,by simpa using hp⟩;have:=h3.lookP hu (run_zero hz.1 hz.2) a false;rw[fset_same] at this;rw[this,←hf];rfl
   have hidx:(es.push { key:=PK a,val:=z,born:=c }).findIdx? (fun e=>(e.born:Int)==(c:Int))=some es.size:=by
    have hp:=h2.push PK_inj (a:=a) hf.symm z;have:=findIdx_born (es:=es.push { key:=PK a,val:=z,born:=c }) (i:=es.size) (e:={ key:=PK a,val:=z,born:=c }) (by simpa using hp.born) (by simp);exact this
   refine⟨.map ((es.push { key:=PK a,val:=z,born:=c }).modify es.size fun e=>{ e with val:=v }) (c+1),fun w' hw'=>?_,fun w'' hw''=>⟨_,_,hw'',?_⟩⟩
   rotate_left
   ·rw[←hf]
    have hp:=h2.push PK_inj (a:=a) hf.symm z;have:=hp.mod PK_inj (a:=a) (i:=es.size) (e:={ key:=PK a,val:=z,born:=c }) (by simp) rfl (g:=fun e=>{ e with val:=v }) (v:=v) rfl rfl (fun e=>rfl)
    have e1:fset (fset f a (some z)) a (some v)=fset f a (some v):=by
     funext x
     by_cases hx:x=a
     ·subst hx;rw[fset_same,fset_same]
     ·rw[fset_ne _ _ hx,fset_ne _ _ hx,fset_ne _ _ hx]
    rw[e1] at this
    have e2:((es.push { key:=PK a,val:=z,born:=c }).modify es.size fun e=>{ e with val:=v }).toList=(es.toList++[({ key:=PK a,val:=z,born:=c }:MapEntry)]).modify es.size fun e=>{ e with val:=v }:=by simp
    rw[e2];simpa using this
   ·simp only[Instr.entryStore,Sem.run_bind,getObj,Sem.run,hw',asInt,asIntOf,goInt,Sem.run_pure,Result.andThen_ok,hidx]
    exact run_setObj hw' _
 |some q=>
   obtain⟨i,u⟩:=q;obtain⟨e,g1,g2,g3⟩:=hq
   have g1':es[i]?=some e:=by simpa using g1
   have em:(es.modify i fun e=>{ e with key:=PK a })=es:=by
    apply Array.toList_inj.1;rw[Array.toList_modify];apply List.ext_getElem?;intro j;rw[List.getElem?_modify]
    by_cases hij:i=j
    ·subst hij
     rw[g1];cases e;simp at g2;simp[g2]
    ·cases hj:es.toList[j]?<;>simp[hij]
   refine⟨_,_,fun W hW=>by rw[←hf];exact hent W hW,fun W hW=>?_,fun v=>?_⟩
   ·rw[em] at hW
    have h3:MapIs PK W r f n:=⟨_,_,hW,h2⟩;exact h3.lookP hu (run_zero hz.1 hz.2) a false
   have hidx:=findIdx_born h2.born g1;refine⟨.map (es.modify i fun e=>{ e with val:=v }) c,fun w' hw'=>?_,fun w'' hw''=>⟨_,_,hw'',?_⟩⟩
   rotate_left
   ·rw[←hf]
    have:=h2.mod PK_inj g1 g2 (g:=fun e=>{ e with val:=v }) (v:=v) rfl rfl (fun e=>rfl);rw[Array.toList_modify];simpa using this
   ·rw[em] at hw'
    rw[g1'];simp only[Option.map_some,Option.getD_some];simp only[Instr.entryStore,Sem.run_bind,getObj,Sem.run,hw',asInt,asIntOf,goInt,Sem.run_pure,Result.andThen_ok,hidx];exact run_setObj hw' _
end
end Go.Proofs.YtkndlfdpmpdihaaGreatDoor
namespace Go.Proofs.YtkndlfdpmpdihaaGreatDoor
open Go.RowKit Go.Ev Go.Mv
set_option linter.unusedVariables false
set_option linter.unusedSimpArgs false
set_option maxRecDepth 100000
def EV (d p o:Int):Value:=.agg #[.int .u64 d,.int .u64 p,.int .u64 o]
structure Tm where
 d:Nat
 p:Nat
 o:Nat
def Tm.v (t:Tm):Value:=EV t.d t.p t.o
structure PB where
 b:Nat
 re:Nat
 ro:Nat
 tb:Nat
 room:Nat
structure PS where
 ent:Nat→Option Tm
 gen:Nat→Nat
 n:Nat
 word:Nat
def entF (ent:Nat→Option Tm):Int→Option Value
 |.ofNat a=>(ent a).map Tm.v
 |.negSucc _=>none
structure PoolAt (B:PB) (S:PS) (w:World):Prop where
 blk:Blk w B.b (poolV B.re B.ro (.slice (some ⟨B.tb,0,none⟩) 1 1) B.room) 320
 ent:MapIs PK w B.re (entF S.ent) S.n
 old:∃f m,MapIs PK w B.ro f m∧∀a:Nat,(f a).getD (.int .u64 0)=.int .u64 (S.gen a)
 tk:Blk w B.tb #[.int .u64 S.word] 37
 ne:B.re≠B.ro
def PB.own (B:PB):Nat→Prop:=fun r=>r=B.re∨r=B.ro∨r=B.tb
section
variable {B:PB} {S:PS} {w w':World}
theorem PoolAt.lt (h:PoolAt B S w):B.b<w.heap.size∧B.re<w.heap.size∧B.ro<w.heap.size∧B.tb<w.heap.size:=by
 obtain⟨f,m,h1,_⟩:=h.old;exact⟨h.blk.lt,h.ent.lt,h1.lt,h.tk.lt⟩
theorem PoolAt.apart (h:PoolAt B S w):B.re≠B.b∧B.ro≠B.b∧B.tb≠B.b∧B.re≠B.tb∧B.ro≠B.tb:=by
 obtain⟨f,m,h1,_⟩:=h.old;exact⟨h.ent.ne h.blk,h1.ne h.blk,fun e=>Blk.ne_ h.tk h.blk (by decide) e,h.ent.ne h.tk,h1.ne h.tk⟩
theorem PoolAt.keep (h:PoolAt B S w) (hk:∀r,r=B.b∨r=B.re∨r=B.ro∨r=B.tb→w'.heap[r]?=w.heap[r]?):PoolAt B S w':=by
 obtain⟨f,m,h1,h2⟩:=h.old;exact⟨(hk _ (.inl rfl)).trans h.blk,h.ent.at (hk _ (.inr (.inl rfl))),⟨f,m,h1.at (hk _ (.inr (.inr (.inl rfl)))),h2⟩,(hk _ (.inr (.inr (.inr rfl)))).trans h.tk,h.ne⟩
theorem PoolAt.tch {T:Nat→Prop} (h:PoolAt B S w) (hb:Tch T w w') (h0:¬T B.b) (h1:¬T B.re) (h2:¬T B.ro) (h3:¬T B.tb):PoolAt B S w':=
 h.keep fun r hr=>by
  have hl:=h.lt;rcases hr with rfl|rfl|rfl|rfl
  ·exact hb.block _ hl.1 h0
  ·exact hb.block _ hl.2.1 h1
  ·exact hb.block _ hl.2.2.1 h2
  ·exact hb.block _ hl.2.2.2 h3
theorem PoolAt.below (h:PoolAt B S w) {n:Nat} (hb:Below n w w') (hn:B.b<n∧B.re<n∧B.ro<n∧B.tb<n):PoolAt B S w':=
 h.keep fun r hr=>by rcases hr with rfl|rfl|rfl|rfl<;>first|exact hb.block _ hn.1|exact hb.block _ hn.2.1|exact hb.block _ hn.2.2.1|exact hb.block _ hn.2.2.2
end
theorem entF_nat (ent:Nat→Option Tm) (a:Nat):entF ent (a:Int)=(ent a).map Tm.v:=rfl
theorem handle_at {B:PB} {S:PS} {w:World} {a:Nat} (h:PoolAt B S w) (ha:a<4096) (hg:S.gen a<4294967295) :
 Calls Tryz.prog 177 #[.pointer (some ⟨B.b,0,none⟩),PK (a:Int)] w fun e w'=>e=.returned (.int .u64 (((S.gen a+1)*4096+a:Nat):Int))∧Below w.heap.size w w':=by
 obtain⟨f,m,⟨es,c,h1,h2⟩,h3⟩:=h.old;refine handle_any h.blk h1 h2.key ?_ hg ha;have hf:=h2.finds (findsP h2.key (a:Int));have:=h3 a;rw[←hf] at this;rw[←this]
 cases lookP (a:Int) es.toList 0<;>rfl
theorem zero226 (w:World):(zeroValue 226).run Tryz.prog w=.ok (EV 0 0 0) w:=by kernel_rfl
theorem under317:Tryz.prog.underlying 317=some (.map 316 226):=by kernel_rfl
theorem under318:Tryz.prog.underlying 318=some (.map 316 37):=by kernel_rfl
def tm0 (t:Option Tm):Value:=(t.map Tm.v).getD (EV 0 0 0)
theorem tm0_eq (t:Option Tm):∃d p o:Nat,tm0 t=.agg #[.int .u64 d,.int .u64 p,.int .u64 o]:=by
 cases t with
 |none=>exact⟨0,0,0,rfl⟩
 |some t=>exact⟨t.d,t.p,t.o,rfl⟩
theorem PoolAt.look {B:PB} {S:PS} {w:World} (h:PoolAt B S w) (a:Nat):(Instr.lookup 317 (.map (some B.re)) (.agg #[.int .i64 (a:Int)]) true).run Tryz.prog w=.ok (.tuple #[tm0 (S.ent a),.bool (S.ent a).isSome]) w:=by
 have:=h.ent.lookP under317 zero226 (a:Int) true;rw[entF_nat] at this;rw[show Value.agg #[Value.int IntKind.i64 (a:Int)]=PK a from rfl,this];simp[tm0]
theorem PoolAt.look1 {B:PB} {S:PS} {w:World} (h:PoolAt B S w) (a:Nat):(Instr.lookup 317 (.map (some B.re)) (.agg #[.int .i64 (a:Int)]) false).run Tryz.prog w=.ok (tm0 (S.ent a)) w:=by
 have:=h.ent.lookP under317 zero226 (a:Int) false;rw[entF_nat] at this;rw[show Value.agg #[Value.int IntKind.i64 (a:Int)]=PK a from rfl,this];simp[tm0]
theorem wp_gen {P:Program} {c:Code} {Q:Exit→Act→World→Prop} {a:Act} {w w1:World} (h:∀w2,Below w1.heap.size w1 w2→c.wp P Q a w2) (hb:Below w1.heap.size w1 w):c.wp P Q a w:=h w hb
def FindE (w2:World) (rb:Nat) (v:Bool→Value) (b:Bool) (w:World):Prop:=Tch (fun r=>r=rb) w2 w∧Blk w rb #[v b] 316
theorem FindE.below {w2 w w':World} {rb:Nat} {v:Bool→Value} {b:Bool} (h:FindE w2 rb v b w) (hb:Below w.heap.size w w'):FindE w2 rb v b w':=
 ⟨h.1.trans (Tch.of_below hb),h.2.below hb h.2.lt⟩
theorem find_at {B:PB} {S:PS} {w:World} {n:Nat} (h:PoolAt B S w) (hn:n<18446744073709551616) (hg:S.gen (n%4096)<4294967295) :
 Calls Tryz.prog 179 #[.pointer (some ⟨B.b,0,none⟩),.int .u64 (n:Int)] w fun e w'=>e=.returned (.tuple #[PK ((n%4096:Nat):Int),.bool ((S.ent (n%4096)).isSome&&decide ((S.gen (n%4096)+1)*4096+n%4096=n))])∧Below w.heap.size w w':=by
 go_enter Tryz.func179,Tryz.ntmps179
 go_wp2_with (go_at_call 189;refine(split_any n hn _).mono ?_;rintro e w' ⟨rfl,rfl⟩)
 rw[show ((n:Int)%4096)=((n%4096:Nat):Int) by simp];generalize hat:n%4096=at_ at hg
 have hat2:at_<4096:=by omega
 have hB:Below w.heap.size w ((w.alloc (Obj.cells #[Value.int IntKind.i64 0] 316)).alloc (Obj.cells #[Value.int IntKind.i64 (at_:Int)] 316)):=(((Below.refl _ w).alloc (Nat.le_refl _) _).alloc (by simp) _)
 have hX:Blk ((w.alloc (Obj.cells #[Value.int IntKind.i64 0] 316)).alloc (Obj.cells #[Value.int IntKind.i64 (at_:Int)] 316)) (w.heap.size+1) #[Value.int IntKind.i64 (at_:Int)] 316:=by
  have:=Blk.new (w.alloc (Obj.cells #[Value.int IntKind.i64 0] 316)) #[Value.int IntKind.i64 (at_:Int)] 316;simpa using this
 have hR:Blk ((w.alloc (Obj.cells #[Value.int IntKind.i64 0] 316)).alloc (Obj.cells #[Value.int IntKind.i64 (at_:Int)] 316)) w.heap.size #[Value.int IntKind.i64 0] 316:=(Blk.new w _ _).alloc _;have hlw:=h.lt;have h':=h.below hB hlw;generalize (w.alloc (Obj.cells #[Value.int IntKind.i64 0] 316)).alloc (Obj.cells #[Value.int IntKind.i64 (at_:Int)] 316)=w1 at hB hX hR h' ⊢;have hl1:=h'.lt;obtain⟨d,p,o,htm⟩:=tm0_eq (S.ent at_)
 have hS:∀W,Below w1.heap.size w1 W→W.cell? ⟨B.b,0,none⟩=some (.map (some B.re))∧W.cell? ⟨w.heap.size+1,0,none⟩=some (Value.int IntKind.i64 at_)∧(Instr.lookup 317 (.map (some B.re)) (.agg #[.int .i64 (at_:Int)]) true).run Tryz.prog W=.ok (.tuple #[.agg #[.int .u64 d,.int .u64 p,.int .u64 o],.bool (S.ent at_).isSome]) W:=fun W hW=>
  ⟨h'.blk.wx 0 rfl ⟨W,hW⟩,hX.wx 0 rfl ⟨W,hW⟩,by rw[(h'.below hW hl1).look,htm]⟩
 have c0:=(hS _ (Below.refl _ w1)).1;have c1:=(hS _ (Below.refl _ w1)).2.1;have c2:=(hS _ (Below.refl _ w1)).2.2
 go_region_held3 (fun W=>W.cell? ⟨B.b,0,none⟩=some (.map (some B.re))∧W.cell? ⟨w.heap.size+1,0,none⟩=some (Value.int IntKind.i64 at_)∧(Instr.lookup 317 (.map (some B.re)) (.agg #[.int .i64 (at_:Int)]) true).run Tryz.prog W=.ok (.tuple #[.agg #[.int .u64 d,.int .u64 p,.int .u64 o],.bool (S.ent at_).isSome]) W) (exact hS _ (by first|exact(Below.refl _ w1).drew|exact(((Below.refl _ w1).drew).alloc (Nat.le_refl _) _).drew|exact(((Below.refl _ w1)).alloc (Nat.le_refl _) _).drew)) (fail)
 all_goals (go_wp2)
 all_goals (refine wp_gen (w1:=w1) ?_ (by first|exact((((Below.refl _ w1).drew).alloc (Nat.le_refl _) _).setCell (Nat.le_refl _) _)|(repeat (first|exact Below.refl _ _|refine Below.drew ?_|refine Below.setCell ?_ (by simp) _|refine Below.alloc ?_ (by simp) _))))
 all_goals intro w2 hb2
 all_goals clear c0 c1 c2 hS
 all_goals (have hX2:=hX.below hb2 hX.lt;have hR2:=hR.below hb2 hR.lt;have h2:=h'.below hb2 hl1;have hl2:=h2.lt)
 all_goals (have hBw:Below w.heap.size w w2:=hB.trans (hb2.mono hB.size))
 all_goals (generalize hq:(S.ent at_).isSome=q)
 all_goals (have hE:∀x:Two (FindE w2 w.heap.size fun b=>if b then .int .i64 (at_:Int) else .int .i64 0),x.w.cell? ⟨w.heap.size+1,0,none⟩=some (Value.int IntKind.i64 at_):=fun x=>Blk.cell ((x.h.1.block _ hX2.lt (by omega)).trans hX2:Blk x.w (w.heap.size+1) #[Value.int IntKind.i64 (at_:Int)] 316) 0 rfl)
 all_goals (refine wp_region_two (FindE w2 w.heap.size fun b=>if b then .int .i64 (at_:Int) else .int .i64 0) 9 (by decide) (by kernel_rfl) (by kernel_rfl) ⟨(Tch.refl _ _).drew,hR2⟩ ?_)
 all_goals (haveI:Nonempty (Two (FindE w2 w.heap.size fun b=>if b then .int .i64 (at_:Int) else .int .i64 0)):=⟨⟨false,w2,Tch.refl _ _,hR2⟩⟩)
 all_goals cases q
 all_goals (repeat (first|(refine lexS_skip (by rfl) (by decide) ?_;simp only[Act.put,List.setIfInBounds_toArray,List.set_cons_succ,List.set_cons_zero])|(refine lexS_want (by rfl) (by decide) (by rfl) ?_;intro K hK;go_big_quiet_op;refine hK _ ?_;clear hK K)))
 all_goals (try (refine lexS_call (f:=177) (args:=#[.pointer (some ⟨B.b,0,none⟩),PK (at_:Int)]) (v:=.int .u64 (((S.gen at_+1)*4096+at_:Nat):Int)) (by rfl) (by decide) (fun w=>by kernel_rfl) (fun x=>((handle_at (h2.tch x.h.1 (by omega) (by omega) (by omega) (by omega)) hat2 hg).mono fun e w' hx=>⟨hx.1,x.h.below hx.2⟩)) ?_;simp only[Act.put,List.setIfInBounds_toArray,List.set_cons_succ,List.set_cons_zero]))
 all_goals (repeat (first|(refine lexS_skip (by rfl) (by decide) ?_;simp only[Act.put,List.setIfInBounds_toArray,List.set_cons_succ,List.set_cons_zero])|(refine lexS_want (by rfl) (by decide) (by rfl) ?_;intro K hK;go_big_quiet_op;refine hK _ ?_;clear hK K)))
 all_goals (refine lexS_turn (by rfl) (by rfl) undef (fun W hW=>?_) ?_)
 all_goals (try (have q0:=hW.2.cell 0 rfl;have q1:=hW.2.free 0;unfold does;go_simp;exact⟨⟨hW.1.setCell _ (.inl rfl),hW.2.set 0 _⟩,rfl⟩))
 all_goals (simp only[Act.put,List.setIfInBounds_toArray,List.set_cons_succ,List.set_cons_zero])
 all_goals (repeat (first|(refine lexS_skip (by rfl) (by decide) ?_;simp only[Act.put,List.setIfInBounds_toArray,List.set_cons_succ,List.set_cons_zero])|(refine lexS_want (by rfl) (by decide) (by rfl) ?_;intro K hK;go_big_quiet_op;refine hK _ ?_;clear hK K)))
 all_goals (intro w3 hw3;have q0:=hw3.2.cell 0 rfl;have hB3:Below w.heap.size w w3:=hBw.trans (hw3.1.below hBw.size (fun j hj=>by omega)))
 all_goals go_wp2
 all_goals (have hdec:((((S.gen at_:Nat):Int)+1)*4096+(at_:Int)==(n:Int))=decide ((S.gen at_+1)*4096+at_=n):=by rw[Bool.eq_iff_iff,beq_iff_eq,decide_eq_true_eq];omega)
 all_goals first
  |exact bodyPost_ret (v:=.tuple #[PK (at_:Int),.bool false]) (by simp[results,Tryz.results179,go_sem,q0,PK]) rfl ⟨rfl,hB3⟩
  |exact bodyPost_ret (v:=.tuple #[PK (at_:Int),.bool (decide ((S.gen at_+1)*4096+at_=n))]) (by simp[results,Tryz.results179,go_sem,q0,PK,hdec]) rfl ⟨rfl,hB3⟩
def BlkE (w2:World) (rb:Nat) (T:TypeId) (vs:Bool→Array Value) (b:Bool) (w:World):Prop:=Tch (fun r=>r=rb) w2 w∧Blk w rb (vs b) T
theorem BlkE.keep {w2 w w':World} {rb:Nat} {T:TypeId} {v:Bool→Array Value} {b:Bool} (h:BlkE w2 rb T v b w) (hb:Below w.heap.size w w'):BlkE w2 rb T v b w':=
 ⟨h.1.trans (Tch.of_below hb),h.2.below hb h.2.lt⟩
theorem BlkE.other {w2 w:World} {rb k:Nat} {T T':TypeId} {v:Bool→Array Value} {b:Bool} (h:BlkE w2 rb T v b w) {cs:Array Value} (hk:Blk w2 k cs T') (hne:k≠rb):Blk w k cs T':=(h.1.block _ hk.lt hne).trans hk
theorem BlkE.cell {w2:World} {rb k:Nat} {T T':TypeId} {vs:Bool→Array Value} {cs:Array Value} (hk:Blk w2 k cs T') (hne:k≠rb) (j:Nat) {v:Value} (hv:cs[j]?=some v):∀x:Two (BlkE w2 rb T vs),x.w.cell? ⟨k,j,none⟩=some v:=fun x=>(x.h.other hk hne).cell j hv
def hN (S:PS) (a:Nat):Nat:=(S.gen a+1)*4096+a
structure LiveAt (S:PS) (a:Nat) (t:Tm):Prop where
 ent:S.ent a=some t
 lt:a<4096
 gen:S.gen a<4294967295
section
variable {B:PB} {S:PS} {w w':World} {a:Nat} {t:Tm}
theorem LiveAt.mod (h:LiveAt S a t):hN S a%4096=a:=by have:=h.lt;unfold hN;omega
theorem find_live (h:PoolAt B S w) (hL:LiveAt S a t):Calls Tryz.prog 179 #[.pointer (some ⟨B.b,0,none⟩),.int .u64 (hN S a:Nat)] w fun e w'=>e=.returned (.tuple #[.agg #[.int .i64 (a:Int)],.bool true])∧Below w.heap.size w w':=by
 have h1:hN S a<18446744073709551616:=by have:=hL.gen;have:=hL.lt;unfold hN;omega
 refine(find_at h h1 (by rw[hL.mod];exact hL.gen)).mono ?_;rintro e w' ⟨rfl,hb⟩;refine⟨?_,hb⟩;rw[hL.mod,hL.ent];have:(S.gen a+1)*4096+a=hN S a:=rfl;simp[this,PK]
theorem get_live (h:PoolAt B S w) (hL:LiveAt S a t):Calls Tryz.prog 112 #[.pointer (some ⟨B.b,0,none⟩),.int .u64 (hN S a:Nat)] w fun e w'=>e=.returned (.tuple #[.agg #[.int .u64 t.d,.int .u64 t.p,.int .u64 t.o],.bool true])∧Below w.heap.size w w':=by
 go_enter Tryz.func112,Tryz.ntmps112;have hlw:=h.lt;have hBa:Below w.heap.size w (w.alloc (Obj.cells #[Value.int IntKind.u64 0,Value.int IntKind.u64 0,Value.int IntKind.u64 0] 226)):=(Below.refl _ w).alloc (Nat.le_refl _) _;have h0:=h.below hBa hlw;have hRa:Blk (w.alloc (Obj.cells #[Value.int IntKind.u64 0,Value.int IntKind.u64 0,Value.int IntKind.u64 0] 226)) w.heap.size #[Value.int IntKind.u64 0,Value.int IntKind.u64 0,Value.int IntKind.u64 0] 226:=Blk.new _ _ _
 go_wp2_with (go_at_call 179;refine(find_live h0 hL).mono ?_;rintro e w1 ⟨rfl,hb1⟩)
 have hB1:Below w.heap.size w (w1.alloc (Obj.cells #[Value.int IntKind.i64 (a:Int)] 316)):=(hBa.trans (hb1.mono hBa.size)).alloc (Nat.le_trans hBa.size hb1.size) _;have hsz:w.heap.size<w1.heap.size:=Nat.lt_of_lt_of_le hRa.lt hb1.size;have hR1:=(hRa.below hb1 hRa.lt).alloc (Obj.cells #[Value.int IntKind.i64 (a:Int)] 316);have hX1:=Blk.new w1 #[Value.int IntKind.i64 (a:Int)] 316;have h1:=h.below hB1 hlw;generalize w1.alloc (Obj.cells #[Value.int IntKind.i64 (a:Int)] 316)=w2 at *;generalize w1.heap.size=xb at *;have hl2:=h1.lt
 let vs:Bool→Array Value:=fun b=>if b then #[Value.int IntKind.u64 t.d,Value.int IntKind.u64 t.p,Value.int IntKind.u64 t.o] else #[Value.int IntKind.u64 0,Value.int IntKind.u64 0,Value.int IntKind.u64 0]
 have hE0:BlkE w2 w.heap.size 226 vs false w2:=⟨Tch.refl _ _,hR1⟩;haveI:Nonempty (Two (BlkE w2 w.heap.size 226 vs)):=⟨⟨false,w2,hE0⟩⟩;have c1:=BlkE.cell (T:=226) (vs:=vs) h1.blk (rb:=w.heap.size) (by omega) 0 rfl;have c2:=BlkE.cell (T:=226) (vs:=vs) hX1 (rb:=w.heap.size) (by omega) 0 rfl
 have c3:∀x:Two (BlkE w2 w.heap.size 226 vs),(Instr.lookup 317 (.map (some B.re)) (.agg #[.int .i64 (a:Int)]) false).run Tryz.prog x.w=.ok (.agg #[Value.int IntKind.u64 t.d,Value.int IntKind.u64 t.p,Value.int IntKind.u64 t.o]) x.w:=fun x=>by
  rw[(h1.tch x.h.1 (by omega) (by omega) (by omega) (by omega)).look1,hL.ent];rfl
 refine wp_region_two (BlkE w2 w.heap.size 226 vs) 6 (by decide) (by kernel_rfl) (by kernel_rfl) ⟨(Tch.refl _ _).drew,hR1⟩ ?_
 (repeat (first|(refine lexS_skip (by rfl) (by decide) ?_;simp only[Act.put,List.setIfInBounds_toArray,List.set_cons_succ,List.set_cons_zero])|(refine lexS_want (by rfl) (by decide) (by rfl) ?_;intro K hK;go_big_quiet_op;refine hK _ ?_;clear hK K)))
 refine lexS_plain (by rfl) (by decide) (.agg #[Value.int IntKind.u64 t.d,Value.int IntKind.u64 t.p,Value.int IntKind.u64 t.o]) (fun x=>does_look _ _ rfl x.h (c3 x)) ?_;simp only[Act.put,List.setIfInBounds_toArray,List.set_cons_succ,List.set_cons_zero];refine lexS_turn (by rfl) (by rfl) undef (fun W hW=>?_) ?_
 ·have q0:=hW.2.cell 0 rfl
  have q1:=hW.2.cell 1 rfl;have q2:=hW.2.cell 2 rfl;have f0:=hW.2.free 0;have f1:=hW.2.free 1;have f2:=hW.2.free 2;unfold does
  go_simp
  exact⟨⟨((hW.1.setCell _ (.inl rfl)).setCell _ (.inl rfl)).setCell _ (.inl rfl),((hW.2.set 0 _).set 1 _).set 2 _⟩,rfl⟩
 simp only[Act.put,List.setIfInBounds_toArray,List.set_cons_succ,List.set_cons_zero]
 (repeat (first|(refine lexS_skip (by rfl) (by decide) ?_;simp only[Act.put,List.setIfInBounds_toArray,List.set_cons_succ,List.set_cons_zero])|(refine lexS_want (by rfl) (by decide) (by rfl) ?_;intro K hK;go_big_quiet_op;refine hK _ ?_;clear hK K)))
 intro w3 hw3;have q0:=hw3.2.cell 0 rfl;have q1:=hw3.2.cell 1 rfl;have q2:=hw3.2.cell 2 rfl;go_wp2;refine bodyPost_ret (v:=.tuple #[.agg #[.int .u64 t.d,.int .u64 t.p,.int .u64 t.o],.bool true]) ?_ rfl ⟨rfl,hB1.trans (hw3.1.below hB1.size (fun j hj=>by omega))⟩;simp[results,Tryz.results112,go_sem,q0,q1,q2];exact⟨rfl,rfl,rfl⟩
end
end Go.Proofs.YtkndlfdpmpdihaaGreatDoor
namespace Go.Mv
open Go.RowKit
set_option linter.unusedVariables false
set_option linter.unusedSimpArgs false
structure Thr (E:Nat→World→Prop) where
 b:Nat
 w:World
 h:E b w
def stage (s1 s2:Nat) (L:Array Bool):Nat:=if L.getD s2 true=true then 2 else if L.getD s1 true=true then 1 else 0
section
variable {P:Program} {ops:Array Oper} {E:Nat→World→Prop} {s1 s2:Nat}
def dOf2 (ops:Array Oper) (E:Nat→World→Prop) (s1 s2:Nat):Array Bool→World→Prop:=fun L w=>
 (L.getD s2 true=true→L.getD s1 true=true)∧(L.size=ops.size∧Clo ops L)∧E (stage s1 s2 L) w
def lexT (P:Program) (ops:Array Oper) (E:Nat→World→Prop) (s1 s2:Nat) (Q:Act→Prop):List Oper→Nat→Act→Prop
 | [],_,a=>Q a
 |o::l,k,a=>if Region.wanted o (yielded ops a.tmps) then(if k=s1 then ∃v,(∀w,E 0 w→does P o a (E 1) w v)∧lexT P ops E s1 s2 Q l (k+1) (a.put o.dst v)
  else if k=s2 then ∃v,(∀w,E 1 w→does P o a (E 2) w v)∧lexT P ops E s1 s2 Q l (k+1) (a.put o.dst v)
  else ∃v,(∀x:Thr E,(waitsT ops k s1=true→x.b=0)→(waitsT ops k s2=true→x.b≤1)→does P o a (E x.b) x.w v)∧lexT P ops E s1 s2 Q l (k+1) (a.put o.dst v)) else k≠s1∧k≠s2∧lexT P ops E s1 s2 Q l (k+1) (a.put o.dst undef)
theorem lexT_M (hz1:s1<ops.size) (hz2:s2<ops.size) (h12:s1≠s2) (hw12:waits ops s1 s2=true) {Q:Act→Prop}:∀(l:List Oper) (k:Nat) (a:Act),(∀j,l[j]?=ops[k+j]?)→lexT P ops E s1 s2 Q l k a→lexM P ops (dOf2 ops E s1 s2) Q l k a
 | [],_,_,_,h=>h
 |o::l,k,a,hl,h=>by
   have ih:=fun a=>lexT_M hz1 hz2 h12 hw12 (Q:=Q) l (k+1) a
   have hl2:∀j,l[j]?=ops[k+1+j]?:=fun j=>by have:=hl (j+1);simpa[Nat.add_assoc,Nat.add_comm 1 j] using this
   have plain:∀ {L:Array Bool} {w:World},k≠s1→k≠s2→k∈Region.ready .any ops L→dOf2 ops E s1 s2 L w→dOf2 ops E s1 s2 (L.setIfInBounds k true)=E (stage s1 s2 L):=fun{L w} h1 h2 hr hD=>by
    funext w'
    apply propext;unfold dOf2 stage;rw[getD_set_ne true h1,getD_set_ne true h2];exact⟨fun h=>h.2.2,fun h=>⟨hD.1,⟨by simpa using hD.2.1.1,hD.2.1.2.set hD.2.1.1 hr⟩,h⟩⟩
   unfold lexT at h;unfold lexM;split at h
   ·rename_i hw
    split at h
    ·rename_i hk
     obtain⟨v,h1,h2⟩:=h;refine⟨v,fun L w hr hD=>.inl ⟨hw,?_⟩,ih _ hl2 h2⟩
     have e:L.getD s1 true=false:=by rw[←hk];exact(mem_ready.1 hr).1
     obtain⟨hD1,hD2,hD4⟩:=hD
     have e2:L.getD s2 true=false:=by
      cases h3:L.getD s2 true with
      |false=>rfl
      |true=>rw[hD1 h3] at e;cases e
     have es:stage s1 s2 L=0:=by unfold stage;rw[e,e2];rfl
     have es':stage s1 s2 (L.setIfInBounds k true)=1:=by
      unfold stage;rw[getD_set_ne true (show k≠s2 by rw[hk];exact h12),e2,hk,getD_set_self];rfl
     rw[es] at hD4;have:=h1 w hD4
     have e3:dOf2 ops E s1 s2 (L.setIfInBounds k true)=E 1:=by
      funext w
      apply propext;unfold dOf2;rw[es'];exact⟨fun h=>h.2.2,fun h=>⟨fun _=>by rw[hk,getD_set_self],⟨by simpa using hD2.1,hD2.2.set hD2.1 hr⟩,h⟩⟩
     rw[e3];exact this
    ·rename_i hk1
     split at h
     ·rename_i hk
      obtain⟨v,h1,h2⟩:=h;refine⟨v,fun L w hr hD=>.inl ⟨hw,?_⟩,ih _ hl2 h2⟩
      have e2:L.getD s2 true=false:=by rw[←hk];exact(mem_ready.1 hr).1
      have e1:L.getD s1 true=true:=waits_listed (by rw[←hk];exact hr) hw12;obtain⟨hD1,hD2,hD4⟩:=hD
      have es:stage s1 s2 L=1:=by unfold stage;rw[e1,e2];rfl
      have es':stage s1 s2 (L.setIfInBounds k true)=2:=by
       unfold stage;rw[hk,getD_set_self];rfl
      rw[es] at hD4;have:=h1 w hD4
      have e3:dOf2 ops E s1 s2 (L.setIfInBounds k true)=E 2:=by
       funext w
       apply propext;unfold dOf2;rw[es'];exact⟨fun h=>h.2.2,fun h=>⟨fun _=>by rw[getD_set_ne true (show k≠s1 from hk1),e1],⟨by simpa using hD2.1,hD2.2.set hD2.1 hr⟩,h⟩⟩
      rw[e3];exact this
     ·rename_i hk
      obtain⟨v,h1,h2⟩:=h;refine⟨v,fun L w hr hD=>.inl ⟨hw,?_⟩,ih _ hl2 h2⟩;rw[plain hk1 hk hr hD];have hj:=(mem_ready.1 hr).1;refine h1 ⟨_,w,hD.2.2⟩ (fun hwt=>?_) (fun hwt=>?_)
      ·show stage s1 s2 L=0
       have e1:L.getD s1 true=false:=by
        cases h3:L.getD s1 true with
        |false=>rfl
        |true=>have:=waitsT_listed hD.2.1.2 hz1 h3 hwt;rw[hj] at this;cases this
       have e2:L.getD s2 true=false:=by
        cases h3:L.getD s2 true with
        |false=>rfl
        |true=>rw[hD.1 h3] at e1;cases e1
       unfold stage;rw[e1,e2];rfl
      ·show stage s1 s2 L≤1
       have e2:L.getD s2 true=false:=by
        cases h3:L.getD s2 true with
        |false=>rfl
        |true=>have:=waitsT_listed hD.2.1.2 hz2 h3 hwt;rw[hj] at this;cases this
       unfold stage;rw[e2];simp only[Bool.false_eq_true,if_false]
       split<;>omega
   ·rename_i hw
    obtain⟨hk1,hk,h2⟩:=h;refine⟨undef,fun L w hr hD=>.inr ⟨by simpa using hw,rfl,?_⟩,ih _ hl2 h2⟩;rw[plain hk1 hk hr hD];exact hD.2.2
theorem lexT_mono {Q Q':Act→Prop} (hQ:∀a,Q a→Q' a):∀(l:List Oper) (k:Nat) (a:Act),lexT P ops E s1 s2 Q l k a→lexT P ops E s1 s2 Q' l k a
 | [],_,_,h=>hQ _ h
 |o::l,k,a,h=>by
   have ih:=fun a=>lexT_mono hQ l (k+1) a;unfold lexT at h ⊢;split at h
   ·rename_i hw
    rw[if_pos hw];split at h
    ·rename_i hk
     rw[if_pos hk];obtain⟨v,h1,h2⟩:=h;exact⟨v,h1,ih _ h2⟩
    ·rename_i hk
     rw[if_neg hk];split at h
     ·rename_i hk2
      rw[if_pos hk2];obtain⟨v,h1,h2⟩:=h;exact⟨v,h1,ih _ h2⟩
     ·rename_i hk2
      rw[if_neg hk2];obtain⟨v,h1,h2⟩:=h;exact⟨v,h1,ih _ h2⟩
   ·rename_i hw
    rw[if_neg hw];exact⟨h.1,h.2.1,ih _ h.2.2⟩
theorem wp_region_thr {id:Nat} {Q:Exit→Act→World→Prop} {a:Act} {w:World} {l:List Oper} (E:Nat→World→Prop) (s1 s2:Nat) (h12:(s1≠s2∧s1<l.length)∧s2<l.length) (hm:P.follows .mixedOrders=true) (hB:(Region.lexB .any l.toArray&&waits l.toArray s1 s2)=true) (hE:E 0 w.drew)
 (h:lexT P l.toArray E s1 s2 (fun a'=>∀w',E 2 w'→Q .normal a' w') l 0 a):(Code.region id l.toArray true).wp P Q a w:=by
 rw[Bool.and_eq_true] at hB;refine wp_region_lexM (D:=dOf2 l.toArray E s1 s2) hm hB.1 ?_ (lexT_M (by simpa using h12.1.2) (by simpa using h12.2) h12.1.1 hB.2 _ _ _ (by simp) ?_)
 ·have e1:(Array.replicate l.toArray.size false).getD s1 true=false:=by simp[h12.1.2]
  have e2:(Array.replicate l.toArray.size false).getD s2 true=false:=by simp[h12.2]
  unfold dOf2 stage;rw[e1,e2];refine⟨fun h=>(by cases h),⟨by simp,fun j k hj hl=>?_⟩,hE⟩;simp at hj;simp[hj] at hl
 ·refine lexT_mono (fun a' h L w' hL hD=>?_) _ _ _ h
  refine h w' ?_;have:=hD.2.2;unfold stage at this;rw[hL s2 (by simpa using h12.2)] at this;exact this
theorem lexT_skip {Q:Act→Prop} {o:Oper} {l:List Oper} {k:Nat} {a:Act} (hw:Region.wanted o (yielded ops a.tmps)=false) (hk:k≠s1∧k≠s2) (h:lexT P ops E s1 s2 Q l (k+1) (a.put o.dst undef)):lexT P ops E s1 s2 Q (o::l) k a:=by
 unfold lexT;rw[if_neg (by rw[hw];decide)];exact⟨hk.1,hk.2,h⟩
theorem lexT_plain {Q:Act→Prop} {o:Oper} {l:List Oper} {k:Nat} {a:Act} (hw:Region.wanted o (yielded ops a.tmps)=true) (hk:k≠s1∧k≠s2) (v:Value) (h1:∀x:Thr E,does P o a (E x.b) x.w v) (h:lexT P ops E s1 s2 Q l (k+1) (a.put o.dst v)):lexT P ops E s1 s2 Q (o::l) k a:=by
 unfold lexT;rw[if_pos hw,if_neg hk.1,if_neg hk.2];exact⟨v,fun x _ _=>h1 x,h⟩
theorem lexT_early {Q:Act→Prop} {o:Oper} {l:List Oper} {k:Nat} {a:Act} (hw:Region.wanted o (yielded ops a.tmps)=true) (hk:k≠s1∧k≠s2) (hs:waitsT ops k s2=true) (v:Value) (h1:∀x:Thr E,x.b≤1→does P o a (E x.b) x.w v) (h:lexT P ops E s1 s2 Q l (k+1) (a.put o.dst v)):lexT P ops E s1 s2 Q (o::l) k a:=by
 unfold lexT;rw[if_pos hw,if_neg hk.1,if_neg hk.2];exact⟨v,fun x _ h2=>h1 x (h2 hs),h⟩
theorem lexT_turn1 {Q:Act→Prop} {o:Oper} {l:List Oper} {k:Nat} {a:Act} (hw:Region.wanted o (yielded ops a.tmps)=true) (hk:k=s1) (v:Value) (h1:∀w,E 0 w→does P o a (E 1) w v) (h:lexT P ops E s1 s2 Q l (k+1) (a.put o.dst v)):lexT P ops E s1 s2 Q (o::l) k a:=by
 unfold lexT;rw[if_pos hw,if_pos hk];exact⟨v,h1,h⟩
theorem lexT_turn2 {Q:Act→Prop} {o:Oper} {l:List Oper} {k:Nat} {a:Act} (hw:Region.wanted o (yielded ops a.tmps)=true) (hk:k=s2) (hn:k≠s1) (v:Value) (h1:∀w,E 1 w→does P o a (E 2) w v) (h:lexT P ops E s1 s2 Q l (k+1) (a.put o.dst v)):lexT P ops E s1 s2 Q (o::l) k a:=by
 unfold lexT;rw[if_pos hw,if_neg hn,if_pos hk];exact⟨v,h1,h⟩
theorem lexT_want {Q:Act→Prop} {o:Oper} {l:List Oper} {k:Nat} {a:Act} (hw:Region.wanted o (yielded ops a.tmps)=true) (hk:k≠s1∧k≠s2) (hp:plainOp o.op=true)
 (h:∀K:Act→Prop,(∀a,lexT P ops E s1 s2 Q l (k+1) a→K a)→o.quiet P a (fun w=>∃x:Thr E,w=x.w) K):lexT P ops E s1 s2 Q (o::l) k a:=by
 obtain⟨v,h1,h2⟩:=h _ (fun _ h=>h);refine lexT_plain hw hk v (fun x=>?_) h2;have h3:=h1 x.w ⟨x,rfl⟩;unfold Oper.quietAt at h3;unfold does;generalize hr:(execOp a.eval o).run P x.w=r at *
 cases r with
 |halt y w'=>exact h3.elim
 |ok n w'=>
   obtain⟨u,rfl⟩:=plain_value hp hr;obtain⟨rfl,rfl⟩:=h3;exact⟨x.h,rfl⟩
end
def NewE (w2:World) (T:TypeId) (z vs:Array Value):Nat→World→Prop
 | 0,w=>Below w2.heap.size w2 w∧w.heap.size=w2.heap.size
 | 1,w=>Below w2.heap.size w2 w∧w.heap[w2.heap.size]?=some (.cells z T (0,0))
 |_,w=>Below w2.heap.size w2 w∧w.heap[w2.heap.size]?=some (.cells vs T (0,0))
theorem NewE.below {w2 w:World} {T:TypeId} {z vs:Array Value} {b:Nat} (h:NewE w2 T z vs b w):Below w2.heap.size w2 w:=by
 match b with
 | 0=>exact h.1
 | 1=>exact h.1
 |_+2=>exact h.1
end Go.Mv
namespace Go.Proofs.YtkndlfdpmpdihaaGreatDoor
open Go.RowKit Go.Ev Go.Mv
set_option linter.unusedVariables false
set_option linter.unusedSimpArgs false
set_option maxRecDepth 100000
theorem new_alloc {o:Oper} {a:Act} {w2:World} {T:TypeId} {z vs:Array Value} (h:o.op=.alloc T) (hz:∀w,(Instr.alloc T true (.tuple #[])).run Tryz.prog w=.ok (.pointer (some ⟨w.heap.size,0,none⟩)) (w.alloc (.cells z T))) :
 ∀w,NewE w2 T z vs 0 w→does Tryz.prog o a (NewE w2 T z vs 1) w (.pointer (some ⟨w2.heap.size,0,none⟩)):=by
 intro w hw;unfold does execOp;rw[h];simp only[Functor.map,Sem.run_bind,Sem.run_map,hz,Result.andThen_ok];have e:=hw.2;refine⟨⟨hw.1.alloc (by omega) _,?_⟩,by rw[e]⟩;rw[←e];show (w.heap.push _)[w.heap.size]?=_;simp
theorem NewE.blk1 {w2 w:World} {T:TypeId} {z vs:Array Value} (h:NewE w2 T z vs 1 w):Blk w w2.heap.size z T:=h.2
theorem NewE.blk2 {w2 w:World} {T:TypeId} {z vs:Array Value} (h:NewE w2 T z vs 2 w):Blk w w2.heap.size vs T:=h.2
theorem NewE.cell {w2:World} {k:Nat} {T T':TypeId} {z vs cs:Array Value} (hk:Blk w2 k cs T') (j:Nat) {v:Value} (hv:cs[j]?=some v):∀x:Thr (NewE w2 T z vs),x.w.cell? ⟨k,j,none⟩=some v:=fun x=>(hk.below x.h.below hk.lt).cell j hv
theorem alloc226 (w:World):(Instr.alloc 226 true (.tuple #[])).run Tryz.prog w=.ok (.pointer (some ⟨w.heap.size,0,none⟩)) (w.alloc (.cells #[Value.int .u64 0,Value.int .u64 0,Value.int .u64 0] 226)):=by kernel_rfl
section
variable {B:PB} {S:PS} {w w':World} {a:Nat} {t:Tm}
theorem place_live (h:PoolAt B S w) (hL:LiveAt S a t):Calls Tryz.prog 131 #[.pointer (some ⟨B.b,0,none⟩),.int .u64 (hN S a:Nat)] w fun e w'=>e=.returned (.int .i64 (a:Int))∧Below w.heap.size w w':=by
 go_enter Tryz.func131,Tryz.ntmps131
 go_wp2_with (go_at_call 179;refine(find_live h hL).mono ?_;rintro e w1 ⟨rfl,hb1⟩)
 refine bodyPost_ret (v:=.int .i64 (a:Int)) ?_ rfl ⟨rfl,hb1.alloc hb1.size _⟩;simp[results,Tryz.results131,go_sem]
theorem handle_live (h:PoolAt B S w) (hL:LiveAt S a t):Calls Tryz.prog 110 #[.pointer (some ⟨B.b,0,none⟩),.int .i64 (a:Int)] w fun e w'=>e=.returned (.int .u64 (hN S a:Nat))∧Below w.heap.size w w':=by
 go_enter Tryz.func110,Tryz.ntmps110;have hlw:=h.lt;have hBa:Below w.heap.size w (w.alloc (Obj.cells #[Value.int .i64 (a:Int)] 316)):=(Below.refl _ w).alloc (Nat.le_refl _) _;have h0:=h.below hBa hlw;have hX:=Blk.new w #[Value.int .i64 (a:Int)] 316;go_wp2;generalize w.alloc (Obj.cells #[Value.int .i64 (a:Int)] 316)=w2 at *;have hl2:=h0.lt
 let z:Array Value:=#[Value.int .u64 0,Value.int .u64 0,Value.int .u64 0]
 let vs:Array Value:=#[Value.int .u64 t.d,Value.int .u64 t.p,Value.int .u64 t.o]
 haveI:Nonempty (Thr (NewE w2 226 z vs)):=⟨⟨0,w2,Below.refl _ _,rfl⟩⟩;have c1:=NewE.cell (T:=226) (z:=z) (vs:=vs) h0.blk 0 rfl;have c2:=NewE.cell (T:=226) (z:=z) (vs:=vs) hX 0 rfl
 have c3:∀x:Thr (NewE w2 226 z vs),(Instr.lookup 317 (.map (some B.re)) (.agg #[.int .i64 (a:Int)]) true).run Tryz.prog x.w=.ok (.tuple #[.agg #[Value.int .u64 t.d,Value.int .u64 t.p,Value.int .u64 t.o],.bool true]) x.w:=fun x=>by
  rw[(h0.below x.h.below hl2).look,hL.ent];rfl
 refine wp_region_thr (NewE w2 226 z vs) 9 10 (by decide) (by kernel_rfl) (by kernel_rfl) ⟨(Below.refl _ _).drew,rfl⟩ ?_
 (repeat (first|(refine lexT_skip (by rfl) (by decide) ?_;simp only[Act.put,List.setIfInBounds_toArray,List.set_cons_succ,List.set_cons_zero])|(refine lexT_want (by rfl) (by decide) (by rfl) ?_;intro K hK;go_big_quiet_op;refine hK _ ?_;clear hK K)))
 refine lexT_plain (by rfl) (by decide) (.tuple #[.agg #[Value.int .u64 t.d,Value.int .u64 t.p,Value.int .u64 t.o],.bool true]) (fun x=>does_look _ _ rfl x.h (c3 x)) ?_;simp only[Act.put,List.setIfInBounds_toArray,List.set_cons_succ,List.set_cons_zero]
 (repeat (first|(refine lexT_skip (by rfl) (by decide) ?_;simp only[Act.put,List.setIfInBounds_toArray,List.set_cons_succ,List.set_cons_zero])|(refine lexT_want (by rfl) (by decide) (by rfl) ?_;intro K hK;go_big_quiet_op;refine hK _ ?_;clear hK K)))
 refine lexT_turn1 (by rfl) (by rfl) _ (new_alloc rfl alloc226) ?_;simp only[Act.put,List.setIfInBounds_toArray,List.set_cons_succ,List.set_cons_zero];refine lexT_turn2 (by rfl) (by rfl) (by decide) undef (fun W hW=>?_) ?_
 ·have hb:=NewE.blk1 hW
  have q0:=hb.cell 0 rfl;have q1:=hb.cell 1 rfl;have q2:=hb.cell 2 rfl;have f0:=hb.free 0;have f1:=hb.free 1;have f2:=hb.free 2;unfold does
  go_simp
  exact⟨⟨((hW.1.setCell (Nat.le_refl _) _).setCell (Nat.le_refl _) _).setCell (Nat.le_refl _) _,((hb.set 0 _).set 1 _).set 2 _⟩,rfl⟩
 simp only[Act.put,List.setIfInBounds_toArray,List.set_cons_succ,List.set_cons_zero]
 (repeat (first|(refine lexT_skip (by rfl) (by decide) ?_;simp only[Act.put,List.setIfInBounds_toArray,List.set_cons_succ,List.set_cons_zero])|(refine lexT_want (by rfl) (by decide) (by rfl) ?_;intro K hK;go_big_quiet_op;refine hK _ ?_;clear hK K)))
 intro w3 hw3;have hB3:Below w.heap.size w w3:=hBa.trans (hw3.1.mono hBa.size);have hX3:=(hX.below hw3.1 hX.lt).cell 0 rfl;have h3:=h.below hB3 hlw
 go_wp2_with (go_at_call 177;refine(handle_at h3 hL.lt hL.gen).mono ?_;rintro e w4 ⟨rfl,hb4⟩)
 exact bodyPost_ret (v:=.int .u64 (hN S a:Nat)) (by simp[results,Tryz.results110,go_sem,hN]) rfl ⟨rfl,hB3.trans (hb4.mono hB3.size)⟩
theorem live_at (h:PoolAt B S w):Calls Tryz.prog 128 #[.pointer (some ⟨B.b,0,none⟩)] w fun e w'=>e=.returned (.int .i64 (S.n:Int))∧Below w.heap.size w w':=by
 go_enter Tryz.func128,Tryz.ntmps128;obtain⟨es,c,h1,h2⟩:=h.ent;have c0:w.cell? ⟨B.b,0,none⟩=some (.map (some B.re)):=h.blk.cell 0 rfl
 have hlen:(Builtin.len_ #[317] 3 #[.map (some B.re)]).run Tryz.prog w=.ok (.int .i64 (S.n:Int)) w:=by
  have hn:=h2.len;rw[←hn];simp[Builtin.len_,go_sem,under317,h1,getObj,Sem.run]
 go_wp2;refine bodyPost_ret (v:=.int .i64 (S.n:Int)) ?_ rfl ⟨rfl,Below.refl _ _⟩;simp[results,Tryz.results128,go_sem]
end
end Go.Proofs.YtkndlfdpmpdihaaGreatDoor
