/- Maps told by what they hold at each key; frames that name the blocks that are touched. No conditions beyond those that each statement shows. -/
import Derived.Test.YtkndlfdpmpdihaaGreatDoorY05
namespace Go.Mv
open Go.RowKit
set_option linter.unusedVariables false
set_option linter.unusedSimpArgs false
structure Tch (S:Nat→Prop) (w w':World):Prop where
 os:w'.os=w.os
 tape:w'.tape=w.tape
 output:w'.output=w.output
 size:w.heap.size≤w'.heap.size
 block:∀j,j<w.heap.size→¬S j→w'.heap[j]?=w.heap[j]?
section
variable {S S':Nat→Prop} {w w' w'':World}
theorem Tch.refl (S:Nat→Prop) (w:World):Tch S w w:=⟨rfl,rfl,rfl,Nat.le_refl _,fun _ _ _=>rfl⟩
theorem Tch.trans (h:Tch S w w') (h2:Tch S w' w''):Tch S w w'':=
 ⟨h2.os.trans h.os,h2.tape.trans h.tape,h2.output.trans h.output,Nat.le_trans h.size h2.size,fun j hj hs=>(h2.block j (Nat.lt_of_lt_of_le hj h.size) hs).trans (h.block j hj hs)⟩
theorem Tch.trans' (h:Tch S w w') (h2:Tch S' w' w'') (hs:∀j,j<w.heap.size→S' j→S j):Tch S w w'':=
 ⟨h2.os.trans h.os,h2.tape.trans h.tape,h2.output.trans h.output,Nat.le_trans h.size h2.size,fun j hj hn=>(h2.block j (Nat.lt_of_lt_of_le hj h.size) (fun x=>hn (hs j hj x))).trans (h.block j hj hn)⟩
theorem Tch.mono (h:Tch S w w') (hs:∀j,S j→S' j):Tch S' w w':=⟨h.os,h.tape,h.output,h.size,fun j hj hn=>h.block j hj (fun x=>hn (hs j x))⟩
theorem Tch.of_below (h:Below w.heap.size w w'):Tch S w w':=⟨h.os,h.tape,h.output,h.size,fun j hj _=>h.block j hj⟩
theorem Tch.below (h:Tch S w w') {n:Nat} (hn:n≤w.heap.size) (hs:∀j,S j→n≤j):Below n w w':=
 ⟨h.os,h.tape,h.output,h.size,fun j hj=>h.block j (by omega) (fun x=>by have:=hs j x;omega)⟩
theorem Tch.drew (h:Tch S w w'):Tch S w w'.drew:=⟨h.os,h.tape,h.output,h.size,h.block⟩
theorem Tch.alloc (h:Tch S w w') (o:Obj):Tch S w (w'.alloc o):=
 ⟨h.os,h.tape,h.output,by show w.heap.size≤(w'.heap.push o).size;rw[Array.size_push];exact Nat.le_succ_of_le h.size,fun j hj hn=>(Below.heap_alloc _ _ _ (Nat.lt_of_lt_of_le hj h.size)).trans (h.block j hj hn)⟩
theorem Tch.setCell (h:Tch S w w') {a:Addr} (v:Value) (ha:S a.block∨w.heap.size≤a.block):Tch S w (w'.setCell a v):=by
 refine⟨h.os,h.tape,h.output,by simpa[World.setCell] using h.size,fun j hj hn=>?_⟩;rw[Below.heap_setCell _ _ _ _ (fun e=>by subst e;rcases ha with ha|ha;exact hn ha;omega)];exact h.block j hj hn
theorem Tch.put (h:Tch S w w') {r:Nat} (o:Obj) (hr:S r∨w.heap.size≤r):Tch S w { w' with heap:=w'.heap.setIfInBounds r o }:=by
 refine⟨h.os,h.tape,h.output,by simpa using h.size,fun j hj hn=>?_⟩;show (w'.heap.setIfInBounds r o)[j]?=_;rw[Array.getElem?_setIfInBounds_ne (fun e=>by subst e;rcases hr with hr|hr;exact hn hr;omega)];exact h.block j hj hn
theorem Tch.at (h:Tch S w w') {r:Nat} {o:Obj} (ho:w.heap[r]?=some o) (hs:¬S r):w'.heap[r]?=some o:=(h.block r (Array.getElem?_eq_some_iff.1 ho).1 hs).trans ho
end
open Classical in
noncomputable def valAt:List MapEntry→Value→Option Value
 | [],_=>none
 |e::es,k=>if e.key=k then some e.val else valAt es k
theorem valAt_none {k:Value}:∀ {es:List MapEntry},valAt es k=none↔∀e∈es,e.key≠k
 | []=>by simp[valAt]
 |e::es=>by
   have ih:=valAt_none (k:=k) (es:=es);unfold valAt
   by_cases h:e.key=k
   ·simp[h]
   ·simp[h,ih]
theorem valAt_snoc {e:MapEntry} {k:Value}:∀ {es:List MapEntry},valAt es e.key=none→valAt (es++[e]) k=(open Classical in if e.key=k then some e.val else valAt es k)
 | [],_=>by simp[valAt]
 |x::es,h=>by
   unfold valAt at h
   by_cases hx:x.key=e.key
   ·rw[if_pos hx] at h;cases h
   ·rw[if_neg hx] at h
    have ih:=valAt_snoc (e:=e) (k:=k) h;show valAt (x::(es++[e])) k=_;unfold valAt;rw[ih]
    by_cases h1:x.key=k
    ·rw[if_pos h1,if_pos h1,if_neg (fun q=>hx (h1.trans q.symm))]
    ·rw[if_neg h1,if_neg h1]
def NoTwice (es:List MapEntry):Prop:=es.Pairwise fun x y=>x.key≠y.key
theorem valAt_modify {v:Value} {k:Value}:∀ {es:List MapEntry} {i:Nat} {e:MapEntry},NoTwice es→es[i]?=some e→∀ {g:MapEntry→MapEntry},(g e).key=e.key→(g e).val=v→valAt (es.modify i g) k=(open Classical in if e.key=k then some v else valAt es k)
 | [],i,e,hn,hi,g,hg,hv=>by simp at hi
 |x::es,0,e,hn,hi,g,hg,hv=>by
   simp only[List.getElem?_cons_zero,Option.some.injEq] at hi;subst hi;show valAt (g x::es) k=_;unfold valAt;rw[hg,hv]
   by_cases h:x.key=k
   ·rw[if_pos h,if_pos h]
   ·rw[if_neg h,if_neg h,if_neg h]
 |x::es,i+1,e,hn,hi,g,hg,hv=>by
   have hn':=List.pairwise_cons.1 hn;rw[List.getElem?_cons_succ] at hi;have hne:=hn'.1 e (List.mem_of_getElem? hi);have ih:=valAt_modify (k:=k) hn'.2 hi hg hv;show valAt (x::es.modify i g) k=_;unfold valAt;rw[ih]
   by_cases h:x.key=k
   ·rw[if_pos h,if_pos h,if_neg (fun q=>hne (h.trans q.symm))]
   ·rw[if_neg h,if_neg h]
theorem valAt_erase {k:Value}:∀ {es:List MapEntry} {i:Nat} {e:MapEntry},NoTwice es→es[i]?=some e→valAt (es.eraseIdx i) k=(open Classical in if e.key=k then none else valAt es k)
 | [],i,e,hn,hi=>by simp at hi
 |x::es,0,e,hn,hi=>by
   simp only[List.getElem?_cons_zero,Option.some.injEq] at hi;subst hi;have hn':=List.pairwise_cons.1 hn;show valAt es k=_
   by_cases h:x.key=k
   ·rw[if_pos h]
    exact valAt_none.2 fun y hy q=>hn'.1 y hy (h.trans q.symm)
   ·rw[if_neg h]
    conv=>rhs;unfold valAt
    rw[if_neg h]
 |x::es,i+1,e,hn,hi=>by
   have hn':=List.pairwise_cons.1 hn;rw[List.getElem?_cons_succ] at hi;have hne:=hn'.1 e (List.mem_of_getElem? hi);have ih:=valAt_erase (k:=k) hn'.2 hi;show valAt (x::es.eraseIdx i) k=_;unfold valAt;rw[ih]
   by_cases h:x.key=k
   ·rw[if_pos h,if_pos h,if_neg (fun q=>hne (h.trans q.symm))]
   ·rw[if_neg h,if_neg h]
theorem keys_modify {es:List MapEntry} {i:Nat} {e:MapEntry} (hi:es[i]?=some e) {g:MapEntry→MapEntry} (hg:(g e).key=e.key):(es.modify i g).map (·.key)=es.map (·.key):=by
 apply List.ext_getElem?;intro j;simp only[List.getElem?_map,List.getElem?_modify]
 by_cases h:i=j
 ·subst h
  simp[hi,hg]
 ·cases hj:es[j]?<;>simp[h]
theorem borns_modify {es:List MapEntry} {i:Nat} {g:MapEntry→MapEntry} (hg:∀e,(g e).born=e.born):(es.modify i g).map (·.born)=es.map (·.born):=by
 apply List.ext_getElem?;intro j;simp only[List.getElem?_map,List.getElem?_modify]
 cases hj:es[j]? with
 |none=>simp
 |some x=>by_cases h:i=j<;>simp[h,hg]
theorem noTwice_map {es es':List MapEntry} (h:es'.map (·.key)=es.map (·.key)) (hn:NoTwice es):NoTwice es':=by
 have h1:(es.map (·.key)).Pairwise (·≠·):=List.pairwise_map.2 hn;rw[←h] at h1;exact List.pairwise_map.1 h1
structure Tells {α:Type} (K:α→Value) (es:List MapEntry) (c:Nat) (f:α→Option Value) (n:Nat):Prop where
 key:∀e∈es,∃a,e.key=K a
 one:NoTwice es
 born:es.Pairwise fun x y=>x.born≠y.born
 lt:∀e∈es,e.born<c
 val:∀a,valAt es (K a)=f a
 len:es.length=n
def MapIs {α:Type} (K:α→Value) (w:World) (r:Nat) (f:α→Option Value) (n:Nat):Prop:=∃es c,w.heap[r]?=some (.map es c)∧Tells K es.toList c f n
open Classical in
noncomputable def fset {α β:Type} (f:α→β) (a:α) (b:β):α→β:=fun x=>if x=a then b else f x
theorem fset_same {α β:Type} (f:α→β) (a:α) (b:β):fset f a b a=b:=if_pos rfl
theorem fset_ne {α β:Type} (f:α→β) {a x:α} (b:β) (h:x≠a):fset f a b x=f x:=if_neg h
section
variable {α:Type} {K:α→Value} {es:List MapEntry} {c n:Nat} {f:α→Option Value}
theorem Tells.push (h:Tells K es c f n) (hK:∀a b,K a=K b→a=b) {a:α} (ha:f a=none) (v:Value):Tells K (es++[{ key:=K a,val:=v,born:=c }]) (c+1) (fset f a (some v)) (n+1):=by
 have hv:valAt es (K a)=none:=(h.val a).trans ha;refine⟨?_,?_,?_,?_,?_,by simp[h.len]⟩
 ·intro e he
  rcases List.mem_append.1 he with he|he
  ·exact h.key e he
  ·rw[List.mem_singleton.1 he];exact⟨a,rfl⟩
 ·refine List.pairwise_append.2 ⟨h.one,List.pairwise_singleton _ _,?_⟩
  intro x hx y hy;rw[List.mem_singleton.1 hy];exact valAt_none.1 hv x hx
 ·refine List.pairwise_append.2 ⟨h.born,List.pairwise_singleton _ _,?_⟩
  intro x hx y hy;rw[List.mem_singleton.1 hy];have:=h.lt x hx;show x.born≠c;omega
 ·intro e he
  rcases List.mem_append.1 he with he|he
  ·have:=h.lt e he;omega
  ·rw[List.mem_singleton.1 he];exact Nat.lt_succ_self c
 ·intro b
  rw[valAt_snoc (e:={ key:=K a,val:=v,born:=c }) hv]
  by_cases hb:b=a
  ·subst hb;rw[if_pos rfl,fset_same]
  ·rw[if_neg (fun q=>hb (hK _ _ q).symm),fset_ne _ _ hb,h.val]
theorem Tells.mod (h:Tells K es c f n) (hK:∀a b,K a=K b→a=b) {a:α} {i:Nat} {e:MapEntry} (hi:es[i]?=some e) (he:e.key=K a) {g:MapEntry→MapEntry} {v:Value} (hg1:(g e).key=e.key) (hg2:(g e).val=v) (hg3:∀e,(g e).born=e.born):Tells K (es.modify i g) c (fset f a (some v)) n:=by
 have hk:=keys_modify hi hg1;have hb:=borns_modify (es:=es) (i:=i) hg3
 have hmem:∀x∈es.modify i g,∃y∈es,x.key=y.key∧x.born=y.born:=by
  intro x hx;obtain⟨j,hj⟩:=List.mem_iff_getElem?.1 hx;rw[List.getElem?_modify] at hj
  cases hy:es[j]? with
  |none=>rw[hy] at hj;simp at hj
  |some y=>
    rw[hy] at hj;refine⟨y,List.mem_of_getElem? hy,?_⟩
    by_cases hij:i=j
    ·subst hij
     rw[hi] at hy;cases hy;simp at hj;subst hj;exact⟨hg1,hg3 _⟩
    ·simp[hij] at hj
     subst hj;exact⟨rfl,rfl⟩
 refine⟨?_,noTwice_map hk h.one,?_,?_,?_,by rw[List.length_modify];exact h.len⟩
 ·intro x hx
  obtain⟨y,hy,h1,_⟩:=hmem x hx;rw[h1];exact h.key y hy
 ·have h1:(es.map (·.born)).Pairwise (·≠·):=List.pairwise_map.2 h.born
  rw[←hb] at h1;exact List.pairwise_map.1 h1
 ·intro x hx
  obtain⟨y,hy,_,h1⟩:=hmem x hx;rw[h1];exact h.lt y hy
 ·intro b
  rw[valAt_modify h.one hi hg1 hg2,he]
  by_cases hb:b=a
  ·subst hb;rw[if_pos rfl,fset_same]
  ·rw[if_neg (fun q=>hb (hK _ _ q).symm),fset_ne _ _ hb,h.val]
theorem Tells.del (h:Tells K es c f n) (hK:∀a b,K a=K b→a=b) {a:α} {i:Nat} {e:MapEntry} (hi:es[i]?=some e) (he:e.key=K a):Tells K (es.eraseIdx i) c (fset f a none) (n-1):=by
 have hlt:=(List.getElem?_eq_some_iff.1 hi).1;have hsub:=List.eraseIdx_sublist es i;refine⟨fun x hx=>h.key x (hsub.subset hx),h.one.sublist hsub,h.born.sublist hsub,fun x hx=>h.lt x (hsub.subset hx),?_,by rw[List.length_eraseIdx_of_lt hlt,h.len]⟩;intro b;rw[valAt_erase h.one hi,he]
 by_cases hb:b=a
 ·subst hb;rw[if_pos rfl,fset_same]
 ·rw[if_neg (fun q=>hb (hK _ _ q).symm),fset_ne _ _ hb,h.val]
def Finds (K:α→Value) (es:List MapEntry) (a:α):Option (Nat×Value)→Prop
 |some (i,v)=>∃e,es[i]?=some e∧e.key=K a∧e.val=v
 |none=>valAt es (K a)=none
theorem Tells.finds (h:Tells K es c f n) {a:α} {q:Option (Nat×Value)} (hq:Finds K es a q):q.map Prod.snd=f a:=by
 rw[←h.val]
 cases q with
 |none=>exact hq.symm
 |some q=>
   obtain⟨i,v⟩:=q;obtain⟨e,h1,h2,h3⟩:=hq;have:=valAt_modify (v:=v) (k:=K a) h.one h1 (g:=id) rfl h3;rw[h2,if_pos rfl,List.modify_id] at this;exact this.symm
theorem mapIs_new (w:World):MapIs K (w.alloc (.map #[] 0)) w.heap.size (fun _=>none) 0:=by
 refine⟨#[],0,?_,⟨by simp,List.Pairwise.nil,List.Pairwise.nil,by simp,fun a=>rfl,rfl⟩⟩;show (w.heap.push _)[w.heap.size]?=_;simp
theorem MapIs.at {w w':World} {r:Nat} {f:α→Option Value} {n:Nat} (h:MapIs K w r f n) (hb:w'.heap[r]?=w.heap[r]?):MapIs K w' r f n:=by
 obtain⟨es,c,h1,h2⟩:=h;exact⟨es,c,hb.trans h1,h2⟩
theorem MapIs.lt {w:World} {r:Nat} {f:α→Option Value} {n:Nat} (h:MapIs K w r f n):r<w.heap.size:=by
 obtain⟨es,c,h1,h2⟩:=h;exact(Array.getElem?_eq_some_iff.1 h1).1
theorem MapIs.tch {w w':World} {r:Nat} {f:α→Option Value} {n:Nat} {S:Nat→Prop} (h:MapIs K w r f n) (hb:Tch S w w') (hs:¬S r):MapIs K w' r f n:=h.at (hb.block r h.lt hs)
theorem MapIs.ne {w:World} {r b:Nat} {f:α→Option Value} {n:Nat} {cs:Array Value} {T:TypeId} (h:MapIs K w r f n) (hb:w.heap[b]?=some (.cells cs T (0,0))):r≠b:=by
 rintro rfl;obtain⟨es,c,h1,h2⟩:=h;rw[h1] at hb;cases hb
end
end Go.Mv
