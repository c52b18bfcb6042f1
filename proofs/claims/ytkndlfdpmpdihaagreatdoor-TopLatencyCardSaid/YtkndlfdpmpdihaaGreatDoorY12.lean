/- Chains, told by their heads and links; what is read of them. Chains: the first thing of one, how many it has. Chains: a thing comes. Chains: a thing comes behind others. Conditions: those that each statement shows. -/
import Derived.Test.YtkndlfdpmpdihaaGreatDoorY11
namespace Go.Proofs.YtkndlfdpmpdihaaGreatDoor
open Go.RowKit Go.Ev Go.Mv
set_option linter.unusedVariables false
set_option linter.unusedSimpArgs false
set_option maxRecDepth 100000
structure Lk where
 l:Int
 s:Int
 ins:Bool
 ah:Int
 be:Int
def Lk.cells (x:Lk):List Value:=[.int .i64 x.l,.int .i64 x.s,.bool x.ins,.int .i64 x.ah,.int .i64 x.be]
structure Hd where
 fi:Int
 la:Int
 n:Int
def Hd.v (h:Hd):Value:=.agg #[.int .i64 h.fi,.int .i64 h.la,.int .i64 h.n]
structure CB where
 b:Nat
 hb:Nat
 lb:Nat
 room:Nat
def linkCells (f:Nat→Lk) (n:Nat):List Value:=(List.range n).flatMap fun i=>(f i).cells
structure CS where
 head:Int×Int→Option Hd
 link:Nat→Lk
structure ChainAt (B:CB) (S:CS) (w:World):Prop where
 blk:Blk w B.b #[.map (some B.hb),.slice (some ⟨B.lb,0,none⟩) B.room B.room] 344
 head:∃n,MapIs KP w B.hb (fun k=>(S.head k).map Hd.v) n
 link:Blk w B.lb ⟨linkCells S.link B.room⟩ 340
def CB.own (B:CB):Nat→Prop:=fun r=>r=B.hb∨r=B.lb
theorem linkCells_length (f:Nat→Lk) (n:Nat):(linkCells f n).length=5*n:=by
 induction n with
 |zero=>rfl
 |succ n ih=>
   unfold linkCells at ih ⊢;rw[List.range_succ,List.flatMap_append,List.length_append,ih];simp[Lk.cells];omega
theorem linkCells_at (f:Nat→Lk) (n i j:Nat) (hi:i<n) (hj:j<5):(linkCells f n)[5*i+j]?=(f i).cells[j]?:=by
 induction n with
 |zero=>omega
 |succ n ih=>
   have hl:=linkCells_length f n
   have e:linkCells f (n+1)=linkCells f n++(f n).cells:=by
    unfold linkCells;rw[List.range_succ,List.flatMap_append];simp
   rw[e]
   by_cases h:i<n
   ·rw[List.getElem?_append_left (by omega)]
    exact ih h
   ·have:i=n:=by omega
    subst this;rw[List.getElem?_append_right (by omega),hl];congr 1;omega
theorem linkCells_set (f:Nat→Lk) (n i j:Nat) (hi:i<n) (v:Value) (g:Nat→Lk) (hg:∀k,k≠i→g k=f k) (hj:j<5) (hc:(g i).cells=(f i).cells.set j v):(linkCells f n).set (5*i+j) v=linkCells g n:=by
 apply List.ext_getElem?;intro x;rw[List.getElem?_set,linkCells_length]
 have hx:x=5*(x/5)+x%5:=by omega
 have hm:x%5<5:=Nat.mod_lt _ (by omega)
 by_cases hxn:x/5<n
 ·have e1:=linkCells_at f n (x/5) (x%5) hxn hm
  have e2:=linkCells_at g n (x/5) (x%5) hxn hm;rw[←hx] at e1 e2;rw[e1,e2]
  by_cases h:5*i+j=x
  ·have h1:x/5=i:=by omega
   have h2:x%5=j:=by omega
   rw[if_pos h,if_pos (by omega),h1,h2,hc,List.getElem?_set];simp[Lk.cells,hj]
  ·rw[if_neg h]
   by_cases h1:x/5=i
   ·have h2:x%5≠j:=by omega
    rw[h1,hc,List.getElem?_set,if_neg (Ne.symm h2)]
   ·rw[hg _ h1]
 ·have e1:(linkCells f n)[x]?=none:=by rw[List.getElem?_eq_none_iff,linkCells_length];omega
  have e2:(linkCells g n)[x]?=none:=by rw[List.getElem?_eq_none_iff,linkCells_length];omega
  rw[e1,e2,if_neg (by omega)]
section
variable {B:CB} {S:CS} {w w':World}
theorem ChainAt.lt (h:ChainAt B S w):B.b<w.heap.size∧B.hb<w.heap.size∧B.lb<w.heap.size:=by
 obtain⟨n,h1⟩:=h.head;exact⟨h.blk.lt,h1.lt,h.link.lt⟩
theorem ChainAt.apart (h:ChainAt B S w):B.hb≠B.b∧B.lb≠B.b∧B.hb≠B.lb:=by
 obtain⟨n,h1⟩:=h.head;exact⟨h1.ne h.blk,fun e=>Blk.ne_ h.link h.blk (by decide) e,h1.ne h.link⟩
theorem ChainAt.keep (h:ChainAt B S w) (hk:∀r,r=B.b∨r=B.hb∨r=B.lb→w'.heap[r]?=w.heap[r]?):ChainAt B S w':=by
 obtain⟨n,h1⟩:=h.head;exact⟨(hk _ (.inl rfl)).trans h.blk,⟨n,h1.at (hk _ (.inr (.inl rfl)))⟩,(hk _ (.inr (.inr rfl))).trans h.link⟩
theorem ChainAt.tch {T:Nat→Prop} (h:ChainAt B S w) (hb:Tch T w w') (h0:¬T B.b) (h1:¬T B.hb) (h2:¬T B.lb):ChainAt B S w':=
 h.keep fun r hr=>by
  have hl:=h.lt;rcases hr with rfl|rfl|rfl
  ·exact hb.block _ hl.1 h0
  ·exact hb.block _ hl.2.1 h1
  ·exact hb.block _ hl.2.2 h2
theorem ChainAt.below (h:ChainAt B S w) {n:Nat} (hb:Below n w w') (hn:B.b<n∧B.hb<n∧B.lb<n):ChainAt B S w':=
 h.keep fun r hr=>by rcases hr with rfl|rfl|rfl<;>first|exact hb.block _ hn.1|exact hb.block _ hn.2.1|exact hb.block _ hn.2.2
theorem ChainAt.cell (h:ChainAt B S w) {i:Nat} (hi:i<B.room) (j:Nat) (hj:j<5) {v:Value} (hv:(S.link i).cells[j]?=some v) {o:Nat} (ho:o=5*i+j):w.cell? ⟨B.lb,o,none⟩=some v:=by
 subst ho;refine h.link.cell _ ?_;rw[List.getElem?_toArray,linkCells_at _ _ _ _ hi hj];exact hv
theorem is_at (h:ChainAt B S w) {i:Nat} (hi:i<B.room):Calls Tryz.prog 194 #[.pointer (some ⟨B.b,0,none⟩),.int .i64 i] w fun e w'=>e=.returned (.bool (S.link i).ins)∧Below w.heap.size w w':=by
 go_enter Tryz.func194,Tryz.ntmps194;have c1:w.cell? ⟨B.b,1,none⟩=some (.slice (some ⟨B.lb,0,none⟩) B.room B.room):=h.blk.cell 1 rfl;have c2:w.cell? ⟨B.lb,i*5+2,none⟩=some (.bool (S.link i).ins):=h.cell hi 2 (by omega) rfl (by omega)
 have hi':(i:Int)<(B.room:Int):=by omega
 go_wp2;refine bodyPost_ret (v:=.bool (S.link i).ins) ?_ rfl ⟨rfl,Below.refl _ _⟩;simp[results,Tryz.results194,go_sem]
theorem next_at (h:ChainAt B S w) {i:Nat} (hi:i<B.room) (hin:(S.link i).ins=true):Calls Tryz.prog 246 #[.pointer (some ⟨B.b,0,none⟩),.int .i64 i] w fun e w'=>e=.returned (.int .i64 (S.link i).be)∧Below w.heap.size w w':=by
 have his:=is_at h hi;rw[hin] at his;have hl:=h.lt;go_enter Tryz.func246,Tryz.ntmps246
 go_wp2_with (go_at_call 194;refine his.mono ?_;rintro e w1 ⟨rfl,hb1⟩;have h1:=h.below hb1 hl;have c1:w1.cell? ⟨B.b,1,none⟩=some (.slice (some ⟨B.lb,0,none⟩) B.room B.room):=h1.blk.cell 1 rfl;have c2:w1.cell? ⟨B.lb,i*5+4,none⟩=some (.int .i64 (S.link i).be):=h1.cell hi 4 (by omega) rfl (by omega);have hi':(i:Int)<(B.room:Int):=by omega)
 refine bodyPost_ret (v:=.int .i64 (S.link i).be) ?_ rfl ⟨rfl,hb1⟩;simp[results,Tryz.results246,go_sem]
end
theorem zero346 (w:World):(zeroValue 346).run Tryz.prog w=.ok (.agg #[.int .i64 0,.int .i64 0,.int .i64 0]) w:=by kernel_rfl
theorem under341:Tryz.prog.underlying 341=some (.map 219 346):=by kernel_rfl
theorem alloc346 (w:World):(Instr.alloc 346 true (.tuple #[])).run Tryz.prog w=.ok (.pointer (some ⟨w.heap.size,0,none⟩)) (w.alloc (.cells #[Value.int .i64 0,Value.int .i64 0,Value.int .i64 0] 346)):=by kernel_rfl
def hd0 (h:Option Hd):Hd:=h.getD ⟨0,0,0⟩
theorem hd0_v (h:Option Hd):(h.map Hd.v).getD (.agg #[.int .i64 0,.int .i64 0,.int .i64 0])=.agg #[.int .i64 (hd0 h).fi,.int .i64 (hd0 h).la,.int .i64 (hd0 h).n]:=by cases h<;>rfl
def firstOf:Option Hd→Int
 |some x=>x.fi
 |none=>-1
section
variable {B:CB} {S:CS} {w w':World}
theorem ChainAt.look (h:ChainAt B S w) (l s:Int):(Instr.lookup 341 (.map (some B.hb)) (.agg #[.int .i64 l,.int .i64 s]) true).run Tryz.prog w=.ok (.tuple #[.agg #[.int .i64 (hd0 (S.head (l,s))).fi,.int .i64 (hd0 (S.head (l,s))).la,.int .i64 (hd0 (S.head (l,s))).n],.bool (S.head (l,s)).isSome]) w:=by
 obtain⟨n,h1⟩:=h.head;have:=h1.lookK under341 zero346 (l,s) true;rw[hd0_v] at this;rw[show Value.agg #[Value.int .i64 l,Value.int .i64 s]=KK (l,s).1 (l,s).2 from rfl,this];simp
theorem ChainAt.look1 (h:ChainAt B S w) (l s:Int):(Instr.lookup 341 (.map (some B.hb)) (.agg #[.int .i64 l,.int .i64 s]) false).run Tryz.prog w=.ok (.agg #[.int .i64 (hd0 (S.head (l,s))).fi,.int .i64 (hd0 (S.head (l,s))).la,.int .i64 (hd0 (S.head (l,s))).n]) w:=by
 obtain⟨n,h1⟩:=h.head;have:=h1.lookK under341 zero346 (l,s) false;rw[hd0_v] at this;rw[show Value.agg #[Value.int .i64 l,Value.int .i64 s]=KK (l,s).1 (l,s).2 from rfl,this];simp
theorem first_of (h:ChainAt B S w) (l s:Int):Calls Tryz.prog 245 #[.pointer (some ⟨B.b,0,none⟩),.agg #[.int .i64 l,.int .i64 s]] w fun e w'=>
 e=.returned (.int .i64 (firstOf (S.head (l,s))))∧Below w.heap.size w w':=by
 go_enter Tryz.func245,Tryz.ntmps245;have hlw:=h.lt;have hBa:Below w.heap.size w (w.alloc (Obj.cells #[.int .i64 l,.int .i64 s] 219)):=(Below.refl _ w).alloc (Nat.le_refl _) _;have h0:=h.below hBa hlw;have hX:=Blk.new w #[.int .i64 l,.int .i64 s] 219;go_wp2;generalize w.alloc (Obj.cells #[.int .i64 l,.int .i64 s] 219)=w2 at *;have hl2:=h0.lt;have hlk:=fun(W:World) (hW:Below w2.heap.size w2 W)=>(h0.below hW hl2).look l s
 cases hh:S.head (l,s) with
 |none=>
   rw[hh] at hlk
   let z:Array Value:=#[Value.int .i64 0,Value.int .i64 0,Value.int .i64 0]
   haveI:Nonempty (Thr (NewE w2 346 z z)):=⟨⟨0,w2,Below.refl _ _,rfl⟩⟩;have c1:∀x:Thr (NewE w2 346 z z),x.w.cell? ⟨B.b,0,none⟩=some (.map (some B.hb)):=NewE.cell h0.blk 0 rfl;have c2:∀x:Thr (NewE w2 346 z z),x.w.cell? ⟨w.heap.size,0,none⟩=some (.int .i64 l):=NewE.cell hX 0 rfl;have c3:∀x:Thr (NewE w2 346 z z),x.w.cell? ⟨w.heap.size,1,none⟩=some (.int .i64 s):=NewE.cell hX 1 rfl;refine wp_region_thr (NewE w2 346 z z) 9 10 (by decide) (by kernel_rfl) (by kernel_rfl) ⟨(Below.refl _ _).drew,rfl⟩ ?_
   (repeat (first|(refine lexT_skip (by rfl) (by decide) ?_;simp only[Act.put,List.setIfInBounds_toArray,List.set_cons_succ,List.set_cons_zero])|(refine lexT_want (by rfl) (by decide) (by rfl) ?_;intro K hK;go_big_quiet_op;refine hK _ ?_;clear hK K)))
   refine lexT_plain (by rfl) (by decide) (.tuple #[.agg #[Value.int .i64 0,Value.int .i64 0,Value.int .i64 0],.bool false]) (fun x=>does_look _ _ rfl x.h (hlk x.w x.h.below)) ?_;simp only[Act.put,List.setIfInBounds_toArray,List.set_cons_succ,List.set_cons_zero]
   (repeat (first|(refine lexT_skip (by rfl) (by decide) ?_;simp only[Act.put,List.setIfInBounds_toArray,List.set_cons_succ,List.set_cons_zero])|(refine lexT_want (by rfl) (by decide) (by rfl) ?_;intro K hK;go_big_quiet_op;refine hK _ ?_;clear hK K)))
   refine lexT_turn1 (by rfl) (by rfl) _ (new_alloc rfl alloc346) ?_;simp only[Act.put,List.setIfInBounds_toArray,List.set_cons_succ,List.set_cons_zero];refine lexT_turn2 (by rfl) (by rfl) (by decide) undef (fun W hW=>?_) ?_
   ·have hb:=NewE.blk1 hW
    have q0:=hb.cell 0 rfl;have q1:=hb.cell 1 rfl;have q2:=hb.cell 2 rfl;have f0:=hb.free 0;have f1:=hb.free 1;have f2:=hb.free 2;unfold does
    go_simp
    exact⟨⟨((hW.1.setCell (Nat.le_refl _) _).setCell (Nat.le_refl _) _).setCell (Nat.le_refl _) _,((hb.set 0 _).set 1 _).set 2 _⟩,rfl⟩
   simp only[Act.put,List.setIfInBounds_toArray,List.set_cons_succ,List.set_cons_zero]
   (repeat (first|(refine lexT_skip (by rfl) (by decide) ?_;simp only[Act.put,List.setIfInBounds_toArray,List.set_cons_succ,List.set_cons_zero])|(refine lexT_want (by rfl) (by decide) (by rfl) ?_;intro K hK;go_big_quiet_op;refine hK _ ?_;clear hK K)))
   intro w3 hw3;have hB3:Below w.heap.size w w3:=hBa.trans (hw3.1.mono hBa.size);go_wp2;refine bodyPost_ret (v:=.int .i64 (-1)) ?_ rfl ⟨by first|rfl|(rw[hh];rfl),hB3⟩;simp[results,Tryz.results245,go_sem]
 |some x=>
   rw[hh] at hlk
   let z:Array Value:=#[Value.int .i64 0,Value.int .i64 0,Value.int .i64 0]
   let vs:Array Value:=#[Value.int .i64 x.fi,Value.int .i64 x.la,Value.int .i64 x.n]
   haveI:Nonempty (Thr (NewE w2 346 z vs)):=⟨⟨0,w2,Below.refl _ _,rfl⟩⟩;have c1:∀x:Thr (NewE w2 346 z vs),x.w.cell? ⟨B.b,0,none⟩=some (.map (some B.hb)):=NewE.cell h0.blk 0 rfl;have c2:∀x:Thr (NewE w2 346 z vs),x.w.cell? ⟨w.heap.size,0,none⟩=some (.int .i64 l):=NewE.cell hX 0 rfl;have c3:∀x:Thr (NewE w2 346 z vs),x.w.cell? ⟨w.heap.size,1,none⟩=some (.int .i64 s):=NewE.cell hX 1 rfl;refine wp_region_thr (NewE w2 346 z vs) 9 10 (by decide) (by kernel_rfl) (by kernel_rfl) ⟨(Below.refl _ _).drew,rfl⟩ ?_
   (repeat (first|(refine lexT_skip (by rfl) (by decide) ?_;simp only[Act.put,List.setIfInBounds_toArray,List.set_cons_succ,List.set_cons_zero])|(refine lexT_want (by rfl) (by decide) (by rfl) ?_;intro K hK;go_big_quiet_op;refine hK _ ?_;clear hK K)))
   refine lexT_plain (by rfl) (by decide) (.tuple #[.agg #[Value.int .i64 x.fi,Value.int .i64 x.la,Value.int .i64 x.n],.bool true]) (fun x=>does_look _ _ rfl x.h (hlk x.w x.h.below)) ?_;simp only[Act.put,List.setIfInBounds_toArray,List.set_cons_succ,List.set_cons_zero]
   (repeat (first|(refine lexT_skip (by rfl) (by decide) ?_;simp only[Act.put,List.setIfInBounds_toArray,List.set_cons_succ,List.set_cons_zero])|(refine lexT_want (by rfl) (by decide) (by rfl) ?_;intro K hK;go_big_quiet_op;refine hK _ ?_;clear hK K)))
   refine lexT_turn1 (by rfl) (by rfl) _ (new_alloc rfl alloc346) ?_;simp only[Act.put,List.setIfInBounds_toArray,List.set_cons_succ,List.set_cons_zero];refine lexT_turn2 (by rfl) (by rfl) (by decide) undef (fun W hW=>?_) ?_
   ·have hb:=NewE.blk1 hW
    have q0:=hb.cell 0 rfl;have q1:=hb.cell 1 rfl;have q2:=hb.cell 2 rfl;have f0:=hb.free 0;have f1:=hb.free 1;have f2:=hb.free 2;unfold does
    go_simp
    exact⟨⟨((hW.1.setCell (Nat.le_refl _) _).setCell (Nat.le_refl _) _).setCell (Nat.le_refl _) _,((hb.set 0 _).set 1 _).set 2 _⟩,rfl⟩
   simp only[Act.put,List.setIfInBounds_toArray,List.set_cons_succ,List.set_cons_zero]
   (repeat (first|(refine lexT_skip (by rfl) (by decide) ?_;simp only[Act.put,List.setIfInBounds_toArray,List.set_cons_succ,List.set_cons_zero])|(refine lexT_want (by rfl) (by decide) (by rfl) ?_;intro K hK;go_big_quiet_op;refine hK _ ?_;clear hK K)))
   intro w3 hw3;have hB3:Below w.heap.size w w3:=hBa.trans (hw3.1.mono hBa.size);have hb3:=NewE.blk2 hw3;have q0:w3.cell? ⟨w2.heap.size,0,none⟩=some (.int .i64 x.fi):=hb3.cell 0 rfl;go_wp2;refine bodyPost_ret (v:=.int .i64 x.fi) ?_ rfl ⟨by first|rfl|(rw[hh];rfl),hB3⟩;simp[results,Tryz.results245,go_sem]
theorem len_of (h:ChainAt B S w) (l s:Int):Calls Tryz.prog 171 #[.pointer (some ⟨B.b,0,none⟩),.agg #[.int .i64 l,.int .i64 s]] w fun e w'=>
 e=.returned (.int .i64 (hd0 (S.head (l,s))).n)∧Below w.heap.size w w':=by
 go_enter Tryz.func171,Tryz.ntmps171;have hlw:=h.lt;have hBa:Below w.heap.size w (w.alloc (Obj.cells #[.int .i64 l,.int .i64 s] 219)):=(Below.refl _ w).alloc (Nat.le_refl _) _;have h0:=h.below hBa hlw;have hX:=Blk.new w #[.int .i64 l,.int .i64 s] 219;go_wp2;generalize w.alloc (Obj.cells #[.int .i64 l,.int .i64 s] 219)=w2 at *;have hl2:=h0.lt;have c1:∀x:WX w2,x.w.cell? ⟨B.b,0,none⟩=some (.map (some B.hb)):=h0.blk.wx 0 rfl;have c2:∀x:WX w2,x.w.cell? ⟨w.heap.size,0,none⟩=some (.int .i64 l):=hX.wx 0 rfl;have c3:∀x:WX w2,x.w.cell? ⟨w.heap.size,1,none⟩=some (.int .i64 s):=hX.wx 1 rfl;refine wp_region_grown (by kernel_rfl) (by kernel_rfl) ?_
 repeat (go_big_quiet_step (fail))
 refine BigFrame.wpQuiet_want (by rfl) ?_;intro K hK;refine quiet_look _ _ rfl (v:=.agg #[.int .i64 (hd0 (S.head (l,s))).fi,.int .i64 (hd0 (S.head (l,s))).la,.int .i64 (hd0 (S.head (l,s))).n]) ?_ ?_
 ·rintro W ⟨x,rfl⟩
  exact(h0.below x.h hl2).look1 l s
 refine hK _ ?_;simp only[Act.put,List.setIfInBounds_toArray,List.set_cons_succ,List.set_cons_zero]
 have hfld:∀w,(Instr.field 346 (.agg #[.int .i64 (hd0 (S.head (l,s))).fi,.int .i64 (hd0 (S.head (l,s))).la,.int .i64 (hd0 (S.head (l,s))).n]) 2).run Tryz.prog w=.ok (.int .i64 (hd0 (S.head (l,s))).n) w:=fun w=>by kernel_rfl
 repeat (go_big_quiet_step (fail))
 refine wpQuiet_nil ?_;intro w3 hb3;go_wp2;refine bodyPost_ret (v:=.int .i64 (hd0 (S.head (l,s))).n) ?_ rfl ⟨rfl,hBa.trans (hb3.mono hBa.size)⟩;simp[results,Tryz.results171,go_sem]
end
theorem fset_fset {α β:Type} (f:α→β) (a:α) (b c:β):fset (fset f a b) a c=fset f a c:=by
 funext x
 by_cases h:x=a
 ·subst h;rw[fset_same,fset_same]
 ·rw[fset_ne _ _ h,fset_ne _ _ h,fset_ne _ _ h]
theorem links_one (f:Nat→Lk) (n i j:Nat) (hi:i<n) (hj:j<5) (v:Value) (y:Lk) (hc:y.cells=(f i).cells.set j v):(⟨linkCells f n⟩:Array Value).setIfInBounds (i*5+j) v=⟨linkCells (fset f i y) n⟩:=by
 rw[List.setIfInBounds_toArray];congr 1;rw[show i*5+j=5*i+j by omega];exact linkCells_set f n i j hi v _ (fun k hk=>fset_ne _ _ hk) hj (by rw[fset_same];exact hc)
theorem links_row (f:Nat→Lk) (n i:Nat) (hi:i<n) (x:Lk):((((((⟨linkCells f n⟩:Array Value).setIfInBounds (i*5) (.int .i64 x.l)).setIfInBounds (i*5+1) (.int .i64 x.s)).setIfInBounds (i*5+2) (.bool x.ins)).setIfInBounds (i*5+3) (.int .i64 x.ah)).setIfInBounds (i*5+4) (.int .i64 x.be))=⟨linkCells (fset f i x) n⟩:=by
 have e0:=links_one f n i 0 hi (by omega) (.int .i64 x.l) { f i with l:=x.l } rfl;rw[Nat.add_zero] at e0;rw[e0];rw[links_one _ n i 1 hi (by omega) (.int .i64 x.s) { fset f i { f i with l:=x.l } i with s:=x.s } rfl,fset_same,fset_fset];rw[links_one _ n i 2 hi (by omega) (.bool x.ins) ⟨x.l,x.s,x.ins,(f i).ah,(f i).be⟩ (by rw[fset_same];rfl),fset_fset];rw[links_one _ n i 3 hi (by omega) (.int .i64 x.ah) ⟨x.l,x.s,x.ins,x.ah,(f i).be⟩ (by rw[fset_same];rfl),fset_fset];rw[links_one _ n i 4 hi (by omega) (.int .i64 x.be) x (by rw[fset_same];rfl),fset_fset]
theorem lcell {w:World} {b n:Nat} {f:Nat→Lk} (h:Blk w b ⟨linkCells f n⟩ 340) {i:Nat} (hi:i<n) (j:Nat) (hj:j<5) {v:Value} (hv:(f i).cells[j]?=some v) {o:Nat} (ho:o=5*i+j):w.cell? ⟨b,o,none⟩=some v:=by
 subst ho;refine h.cell _ ?_;rw[List.getElem?_toArray,linkCells_at _ _ _ _ hi hj];exact hv
section
variable {B:CB} {S:CS} {w w':World}
theorem ChainAt.links (h:ChainAt B S w) (ht:Tch (fun r=>r=B.lb) w w') {f:Nat→Lk} (hl:Blk w' B.lb ⟨linkCells f B.room⟩ 340):ChainAt B { S with link:=f } w':=by
 have hl':=h.lt;have ha:=h.apart;obtain⟨n,h1⟩:=h.head;exact⟨(ht.block _ hl'.1 (by omega)).trans h.blk,⟨n,h1.tch ht (by omega)⟩,hl⟩
theorem ChainAt.heads (h:ChainAt B S w) (ht:Tch (fun r=>r=B.hb) w w') {f:Int×Int→Option Hd} {n:Nat} (hl:MapIs KP w' B.hb (fun k=>(f k).map Hd.v) n):ChainAt B { S with head:=f } w':=by
 have hl':=h.lt;have ha:=h.apart;exact⟨(ht.block _ hl'.1 (by omega)).trans h.blk,⟨n,hl⟩,(ht.block _ hl'.2.2 (by omega)).trans h.link⟩
theorem head_set (f:Int×Int→Option Hd) (k:Int×Int) (x:Option Hd):fset (fun k=>(f k).map Hd.v) k (x.map Hd.v)=fun a=>(fset f k x a).map Hd.v:=by
 funext a
 by_cases h:a=k
 ·subst h;rw[fset_same,fset_same]
 ·rw[fset_ne _ _ h,fset_ne _ _ h]
theorem push_new (h:ChainAt B S w) {i:Nat} (hi:i<B.room) (hin:(S.link i).ins=false) {l s:Int} (hh:S.head (l,s)=none):Calls Tryz.prog 181 #[.pointer (some ⟨B.b,0,none⟩),.agg #[.int .i64 l,.int .i64 s],.int .i64 i] w fun e w'=>
 e=.returned (.bool true)∧Tch B.own w w'∧ChainAt B ⟨fset S.head (l,s) (some ⟨i,i,1⟩),fset S.link i ⟨l,s,true,-1,-1⟩⟩ w':=by
 go_enter Tryz.func181,Tryz.ntmps181;have hlw:=h.lt;have hBa:Below w.heap.size w (w.alloc (Obj.cells #[.int .i64 l,.int .i64 s] 219)):=(Below.refl _ w).alloc (Nat.le_refl _) _;have h0:=h.below hBa hlw;have hX:=Blk.new w #[.int .i64 l,.int .i64 s] 219;have k1:(w.alloc (Obj.cells #[.int .i64 l,.int .i64 s] 219)).cell? ⟨B.b,1,none⟩=some (.slice (some ⟨B.lb,0,none⟩) B.room B.room):=h0.blk.cell 1 rfl;have k2:(w.alloc (Obj.cells #[.int .i64 l,.int .i64 s] 219)).cell? ⟨B.lb,i*5+2,none⟩=some (.bool false):=h0.cell hi 2 (by omega) (by rw[←hin];rfl) (by omega)
 have hi':(i:Int)<(B.room:Int):=by omega
 have hi2:¬((B.room:Int)≤(i:Int)):=by omega
 go_wp2;clear k1 k2;generalize w.alloc (Obj.cells #[.int .i64 l,.int .i64 s] 219)=w2 at *;have hl2:=h0.lt;have hlk:=fun(W:World) (hW:Below w2.heap.size w2 W)=>(h0.below hW hl2).look l s;rw[hh] at hlk
 let z:Array Value:=#[Value.int .i64 0,Value.int .i64 0,Value.int .i64 0]
 haveI:Nonempty (Thr (NewE w2 346 z z)):=⟨⟨0,w2,Below.refl _ _,rfl⟩⟩;have c1:∀x:Thr (NewE w2 346 z z),x.w.cell? ⟨B.b,0,none⟩=some (.map (some B.hb)):=NewE.cell h0.blk 0 rfl;have c2:∀x:Thr (NewE w2 346 z z),x.w.cell? ⟨w.heap.size,0,none⟩=some (.int .i64 l):=NewE.cell hX 0 rfl;have c3:∀x:Thr (NewE w2 346 z z),x.w.cell? ⟨w.heap.size,1,none⟩=some (.int .i64 s):=NewE.cell hX 1 rfl;refine wp_region_thr (NewE w2 346 z z) 9 10 (by decide) (by kernel_rfl) (by kernel_rfl) ⟨(Below.refl _ _).drew,rfl⟩ ?_
 (repeat (first|(refine lexT_skip (by rfl) (by decide) ?_;simp only[Act.put,List.setIfInBounds_toArray,List.set_cons_succ,List.set_cons_zero])|(refine lexT_want (by rfl) (by decide) (by rfl) ?_;intro K hK;go_big_quiet_op;refine hK _ ?_;clear hK K)))
 refine lexT_plain (by rfl) (by decide) (.tuple #[.agg #[Value.int .i64 0,Value.int .i64 0,Value.int .i64 0],.bool false]) (fun x=>does_look _ _ rfl x.h (hlk x.w x.h.below)) ?_;simp only[Act.put,List.setIfInBounds_toArray,List.set_cons_succ,List.set_cons_zero]
 (repeat (first|(refine lexT_skip (by rfl) (by decide) ?_;simp only[Act.put,List.setIfInBounds_toArray,List.set_cons_succ,List.set_cons_zero])|(refine lexT_want (by rfl) (by decide) (by rfl) ?_;intro K hK;go_big_quiet_op;refine hK _ ?_;clear hK K)))
 refine lexT_turn1 (by rfl) (by rfl) _ (new_alloc rfl alloc346) ?_;simp only[Act.put,List.setIfInBounds_toArray,List.set_cons_succ,List.set_cons_zero];refine lexT_turn2 (by rfl) (by rfl) (by decide) undef (fun W hW=>?_) ?_
 ·have hb:=NewE.blk1 hW
  have q0:=hb.cell 0 rfl;have q1:=hb.cell 1 rfl;have q2:=hb.cell 2 rfl;have f0:=hb.free 0;have f1:=hb.free 1;have f2:=hb.free 2;unfold does
  go_simp
  exact⟨⟨((hW.1.setCell (Nat.le_refl _) _).setCell (Nat.le_refl _) _).setCell (Nat.le_refl _) _,((hb.set 0 _).set 1 _).set 2 _⟩,rfl⟩
 simp only[Act.put,List.setIfInBounds_toArray,List.set_cons_succ,List.set_cons_zero]
 (repeat (first|(refine lexT_skip (by rfl) (by decide) ?_;simp only[Act.put,List.setIfInBounds_toArray,List.set_cons_succ,List.set_cons_zero])|(refine lexT_want (by rfl) (by decide) (by rfl) ?_;intro K hK;go_big_quiet_op;refine hK _ ?_;clear hK K)))
 intro w3 hw3;have hb3:=NewE.blk2 hw3;have hbel3:=hw3.1;have q0:=hb3.cell 0 rfl;have q1:=hb3.cell 1 rfl;have q2:=hb3.cell 2 rfl;have f0:=hb3.free 0;have f1:=hb3.free 1;have f2:=hb3.free 2;clear c1 c2 c3 hlk;go_wp2;have hn4:=((hb3.set 0 (.int .i64 i)).set 1 (.int .i64 (-1))).set 2 (.int .i64 0);have hbel4:=((hbel3.setCell (p:=⟨w2.heap.size,0,none⟩) (Nat.le_refl _) (.int .i64 i)).setCell (p:=⟨w2.heap.size,1,none⟩) (Nat.le_refl _) (.int .i64 (-1))).setCell (p:=⟨w2.heap.size,2,none⟩) (Nat.le_refl _) (.int .i64 0);generalize World.setCell (World.setCell (World.setCell w3 ⟨w2.heap.size,0,none⟩ (.int .i64 i)) ⟨w2.heap.size,1,none⟩ (.int .i64 (-1))) ⟨w2.heap.size,2,none⟩ (.int .i64 0)=w4 at *;have h4:=h0.below hbel4 hl2;have hX4:=hX.below hbel4 hX.lt;have hB4:Below w.heap.size w w4:=hBa.trans (hbel4.mono hBa.size);have hsz2:=hBa.size;have hxl:=hX.lt;generalize w2.heap.size=nb at *;clear hb3 q0 q1 q2 f0 f1 f2 hw3 hbel3;have hl4:=h4.lt;have hap4:=h4.apart
 let f1:Nat→Lk:=fset S.link i ⟨l,s,true,-1,-1⟩
 let vs:Bool→Array Value:=fun b=>if b then⟨linkCells f1 B.room⟩ else⟨linkCells S.link B.room⟩
 have hne:=one_ne (w2:=w4) (rb:=B.lb) (T:=340) (vs:=vs) h4.link;haveI:=hne.1;haveI:=hne.2;have c1:∀x:One (BlkE w4 B.lb 340 vs false),x.w.cell? ⟨B.b,1,none⟩=some (.slice (some ⟨B.lb,0,none⟩) B.room B.room):=blkE_one h4.blk (by omega) 1 rfl;have c2:∀x:One (BlkE w4 B.lb 340 vs false),x.w.cell? ⟨w.heap.size,0,none⟩=some (.int .i64 l):=blkE_one hX4 (by omega) 0 rfl;have c3:∀x:One (BlkE w4 B.lb 340 vs false),x.w.cell? ⟨w.heap.size,1,none⟩=some (.int .i64 s):=blkE_one hX4 (by omega) 1 rfl;have c4:∀x:One (BlkE w4 B.lb 340 vs false),x.w.cell? ⟨nb,1,none⟩=some (.int .i64 (-1)):=blkE_one hn4 (by omega) 1 rfl
 have hi'':(i:Int)<(B.room:Int):=by omega
 refine wp_region_two (BlkE w4 B.lb 340 vs) 10 (by decide) (by kernel_rfl) (by kernel_rfl) ⟨(Tch.refl _ _).drew,h4.link⟩ ?_
 (repeat (first|(refine lexS_skip (by rfl) (by decide) ?_;simp only[Act.put,List.setIfInBounds_toArray,List.set_cons_succ,List.set_cons_zero])|(refine lexS_ewant (by rfl) (by decide) (by kernel_rfl) (by rfl) ?_;intro K hK;go_big_quiet_op;refine hK _ ?_;clear hK K)))
 refine lexS_turn (by rfl) (by rfl) undef (fun W hW=>?_) ?_
 ·have hb:Blk W B.lb ⟨linkCells S.link B.room⟩ 340:=hW.2
  have q0:=lcell hb hi 0 (by omega) rfl (o:=i*5) (by omega);have q1:=lcell hb hi 1 (by omega) rfl (o:=i*5+1) (by omega);have q2:=lcell hb hi 2 (by omega) rfl (o:=i*5+2) (by omega);have q3:=lcell hb hi 3 (by omega) rfl (o:=i*5+3) (by omega);have q4:=lcell hb hi 4 (by omega) rfl (o:=i*5+4) (by omega);have f0:=hb.free (i*5);have f1:=hb.free (i*5+1);have f2:=hb.free (i*5+2);have f3:=hb.free (i*5+3);have f4:=hb.free (i*5+4);unfold does
  go_simp
  have hs:=((((hb.set (i*5) (.int .i64 l)).set (i*5+1) (.int .i64 s)).set (i*5+2) (.bool true)).set (i*5+3) (.int .i64 (-1))).set (i*5+4) (.int .i64 (-1));rw[links_row _ _ _ hi ⟨l,s,true,-1,-1⟩] at hs;exact⟨⟨((((hW.1.setCell _ (.inl rfl)).setCell _ (.inl rfl)).setCell _ (.inl rfl)).setCell _ (.inl rfl)).setCell _ (.inl rfl),hs⟩,rfl⟩
 simp only[Act.put,List.setIfInBounds_toArray,List.set_cons_succ,List.set_cons_zero];refine fun w5 hw5=>?_;have hl5:Blk w5 B.lb ⟨linkCells f1 B.room⟩ 340:=hw5.2;have h5:=h4.links hw5.1 hl5;have hX5:Blk w5 w.heap.size _ 219:=(hw5.1.block _ hX4.lt (by omega)).trans hX4;have hn5:Blk w5 nb _ 346:=(hw5.1.block _ hn4.lt (by omega)).trans hn4;have hF5:Tch B.own w w5:=(Tch.of_below hB4).trans' hw5.1 (fun j _ hj=>.inr hj);have q1:w5.cell? ⟨nb,1,none⟩=some (.int .i64 (-1)):=hn5.cell 1 rfl;clear c1 c2 c3 c4 hw5;go_wp2;obtain⟨m,hm⟩:=h5.head;have hlx5:=h5.lt;obtain⟨o,hrun,hmap⟩:=hm.putK under341 (l,s) (Hd.v ⟨i,i,1⟩);have hne:=mapE_ne w5 B.hb o;haveI:=hne.1;haveI:=hne.2;have c1:∀x:One (MapE w5 B.hb o false),x.w.cell? ⟨B.b,0,none⟩=some (.map (some B.hb)):=mapE_one h5.blk (by omega) 0 rfl;have c2:∀x:One (MapE w5 B.hb o false),x.w.cell? ⟨w.heap.size,0,none⟩=some (.int .i64 l):=mapE_one hX5 (by omega) 0 rfl;have c3:∀x:One (MapE w5 B.hb o false),x.w.cell? ⟨w.heap.size,1,none⟩=some (.int .i64 s):=mapE_one hX5 (by omega) 1 rfl;have c4:∀x:One (MapE w5 B.hb o false),x.w.cell? ⟨nb,0,none⟩=some (.int .i64 i):=mapE_one hn5 (by omega) 0 rfl;have c5:∀x:One (MapE w5 B.hb o false),x.w.cell? ⟨nb,2,none⟩=some (.int .i64 0):=mapE_one hn5 (by omega) 2 rfl;refine wp_region_two (MapE w5 B.hb o) 12 (by decide) (by kernel_rfl) (by kernel_rfl) ⟨(Tch.refl _ _).drew,rfl⟩ ?_
 (repeat (first|(refine lexS_skip (by rfl) (by decide) ?_;simp only[Act.put,List.setIfInBounds_toArray,List.set_cons_succ,List.set_cons_zero])|(refine lexS_ewant (by rfl) (by decide) (by kernel_rfl) (by rfl) ?_;intro K hK;go_big_quiet_op;refine hK _ ?_;clear hK K)))
 refine lexS_turn (by rfl) (by rfl) undef (mapE_upd rfl hlx5.2.1 hrun) ?_;simp only[Act.put,List.setIfInBounds_toArray,List.set_cons_succ,List.set_cons_zero];refine fun w6 hw6=>?_;have hm6:=hmap w6 hw6.2;have e2:=head_set S.head (l,s) (some ⟨i,i,1⟩);have hm7:∃n,MapIs KP w6 B.hb (fun a=>(fset S.head (l,s) (some ⟨i,i,1⟩) a).map Hd.v) n:=⟨_,by rw[←e2];exact hm6⟩;obtain⟨n6,hm7⟩:=hm7;have h6:=h5.heads hw6.1 hm7;have hF6:Tch B.own w w6:=hF5.trans' hw6.1 (fun j _ hj=>.inl hj);go_wp2;refine bodyPost_ret (v:=.bool true) ?_ rfl ⟨rfl,hF6,h6⟩;simp[results,Tryz.results181,go_sem]
end
section
variable {B:CB} {S:CS} {w w':World}
theorem push_more (h:ChainAt B S w) {i:Nat} (hi:i<B.room) (hin:(S.link i).ins=false) {l s:Int} {x:Hd} (hh:S.head (l,s)=some x) {p:Nat} (hp:x.la=p) (hpr:p<B.room) (hpi:p≠i) {nn:Nat} (hnn:x.n=nn) (hn2:nn<4294967296):Calls Tryz.prog 181 #[.pointer (some ⟨B.b,0,none⟩),.agg #[.int .i64 l,.int .i64 s],.int .i64 i] w fun e w'=>
 e=.returned (.bool true)∧Tch B.own w w'∧ChainAt B ⟨fset S.head (l,s) (some ⟨x.fi,i,x.n+1⟩),fset (fset S.link i ⟨l,s,true,x.la,-1⟩) p { S.link p with be:=i }⟩ w':=by
 go_enter Tryz.func181,Tryz.ntmps181;have hlw:=h.lt;have hBa:Below w.heap.size w (w.alloc (Obj.cells #[.int .i64 l,.int .i64 s] 219)):=(Below.refl _ w).alloc (Nat.le_refl _) _;have h0:=h.below hBa hlw;have hX:=Blk.new w #[.int .i64 l,.int .i64 s] 219;have k1:(w.alloc (Obj.cells #[.int .i64 l,.int .i64 s] 219)).cell? ⟨B.b,1,none⟩=some (.slice (some ⟨B.lb,0,none⟩) B.room B.room):=h0.blk.cell 1 rfl;have k2:(w.alloc (Obj.cells #[.int .i64 l,.int .i64 s] 219)).cell? ⟨B.lb,i*5+2,none⟩=some (.bool false):=h0.cell hi 2 (by omega) (by rw[←hin];rfl) (by omega)
 have hi':(i:Int)<(B.room:Int):=by omega
 have hi2:¬((B.room:Int)≤(i:Int)):=by omega
 go_wp2;clear k1 k2;generalize w.alloc (Obj.cells #[.int .i64 l,.int .i64 s] 219)=w2 at *;have hl2:=h0.lt;have hlk:=fun(W:World) (hW:Below w2.heap.size w2 W)=>(h0.below hW hl2).look l s;rw[hh] at hlk;obtain⟨xfi,xla,xn⟩:=x;simp only at hp hnn;subst hp hnn
 let z:Array Value:=#[Value.int .i64 0,Value.int .i64 0,Value.int .i64 0]
 let zs:Array Value:=#[Value.int .i64 xfi,Value.int .i64 p,Value.int .i64 nn]
 haveI:Nonempty (Thr (NewE w2 346 z zs)):=⟨⟨0,w2,Below.refl _ _,rfl⟩⟩;have c1:∀x:Thr (NewE w2 346 z zs),x.w.cell? ⟨B.b,0,none⟩=some (.map (some B.hb)):=NewE.cell h0.blk 0 rfl;have c2:∀x:Thr (NewE w2 346 z zs),x.w.cell? ⟨w.heap.size,0,none⟩=some (.int .i64 l):=NewE.cell hX 0 rfl;have c3:∀x:Thr (NewE w2 346 z zs),x.w.cell? ⟨w.heap.size,1,none⟩=some (.int .i64 s):=NewE.cell hX 1 rfl;refine wp_region_thr (NewE w2 346 z zs) 9 10 (by decide) (by kernel_rfl) (by kernel_rfl) ⟨(Below.refl _ _).drew,rfl⟩ ?_
 (repeat (first|(refine lexT_skip (by rfl) (by decide) ?_;simp only[Act.put,List.setIfInBounds_toArray,List.set_cons_succ,List.set_cons_zero])|(refine lexT_want (by rfl) (by decide) (by rfl) ?_;intro K hK;go_big_quiet_op;refine hK _ ?_;clear hK K)))
 refine lexT_plain (by rfl) (by decide) (.tuple #[.agg #[Value.int .i64 xfi,Value.int .i64 p,Value.int .i64 nn],.bool true]) (fun x=>does_look _ _ rfl x.h (hlk x.w x.h.below)) ?_;simp only[Act.put,List.setIfInBounds_toArray,List.set_cons_succ,List.set_cons_zero]
 (repeat (first|(refine lexT_skip (by rfl) (by decide) ?_;simp only[Act.put,List.setIfInBounds_toArray,List.set_cons_succ,List.set_cons_zero])|(refine lexT_want (by rfl) (by decide) (by rfl) ?_;intro K hK;go_big_quiet_op;refine hK _ ?_;clear hK K)))
 refine lexT_turn1 (by rfl) (by rfl) _ (new_alloc rfl alloc346) ?_;simp only[Act.put,List.setIfInBounds_toArray,List.set_cons_succ,List.set_cons_zero];refine lexT_turn2 (by rfl) (by rfl) (by decide) undef (fun W hW=>?_) ?_
 ·have hb:=NewE.blk1 hW
  have q0:=hb.cell 0 rfl;have q1:=hb.cell 1 rfl;have q2:=hb.cell 2 rfl;have f0:=hb.free 0;have f1:=hb.free 1;have f2:=hb.free 2;unfold does
  go_simp
  exact⟨⟨((hW.1.setCell (Nat.le_refl _) _).setCell (Nat.le_refl _) _).setCell (Nat.le_refl _) _,((hb.set 0 _).set 1 _).set 2 _⟩,rfl⟩
 simp only[Act.put,List.setIfInBounds_toArray,List.set_cons_succ,List.set_cons_zero]
 (repeat (first|(refine lexT_skip (by rfl) (by decide) ?_;simp only[Act.put,List.setIfInBounds_toArray,List.set_cons_succ,List.set_cons_zero])|(refine lexT_want (by rfl) (by decide) (by rfl) ?_;intro K hK;go_big_quiet_op;refine hK _ ?_;clear hK K)))
 intro w3 hw3;have hb3:=NewE.blk2 hw3;have hbel3:=hw3.1;have q0:=hb3.cell 0 rfl;have q1:=hb3.cell 1 rfl;have q2:=hb3.cell 2 rfl;have f0:=hb3.free 0;have f1:=hb3.free 1;have f2:=hb3.free 2;clear c1 c2 c3 hlk;go_wp2;have hn4:=hb3;have hbel4:=hbel3;generalize w3=w4 at *;have h4:=h0.below hbel4 hl2;have hX4:=hX.below hbel4 hX.lt;have hB4:Below w.heap.size w w4:=hBa.trans (hbel4.mono hBa.size);have hsz2:=hBa.size;have hxl:=hX.lt;generalize w2.heap.size=nb at *;clear hb3 q0 q1 q2 f0 f1 f2 hw3 hbel3
 have hpi':((p:Int)==-1)=false:=by simp
 have hl4:=h4.lt;have hap4:=h4.apart
 let f1:Nat→Lk:=fset S.link i ⟨l,s,true,p,-1⟩
 let vs:Bool→Array Value:=fun b=>if b then⟨linkCells f1 B.room⟩ else⟨linkCells S.link B.room⟩
 have hne:=one_ne (w2:=w4) (rb:=B.lb) (T:=340) (vs:=vs) h4.link;haveI:=hne.1;haveI:=hne.2;have c1:∀x:One (BlkE w4 B.lb 340 vs false),x.w.cell? ⟨B.b,1,none⟩=some (.slice (some ⟨B.lb,0,none⟩) B.room B.room):=blkE_one h4.blk (by omega) 1 rfl;have c2:∀x:One (BlkE w4 B.lb 340 vs false),x.w.cell? ⟨w.heap.size,0,none⟩=some (.int .i64 l):=blkE_one hX4 (by omega) 0 rfl;have c3:∀x:One (BlkE w4 B.lb 340 vs false),x.w.cell? ⟨w.heap.size,1,none⟩=some (.int .i64 s):=blkE_one hX4 (by omega) 1 rfl;have c4:∀x:One (BlkE w4 B.lb 340 vs false),x.w.cell? ⟨nb,1,none⟩=some (.int .i64 p):=blkE_one hn4 (by omega) 1 rfl
 have hi'':(i:Int)<(B.room:Int):=by omega
 refine wp_region_two (BlkE w4 B.lb 340 vs) 10 (by decide) (by kernel_rfl) (by kernel_rfl) ⟨(Tch.refl _ _).drew,h4.link⟩ ?_
 (repeat (first|(refine lexS_skip (by rfl) (by decide) ?_;simp only[Act.put,List.setIfInBounds_toArray,List.set_cons_succ,List.set_cons_zero])|(refine lexS_ewant (by rfl) (by decide) (by kernel_rfl) (by rfl) ?_;intro K hK;go_big_quiet_op;refine hK _ ?_;clear hK K)))
 refine lexS_turn (by rfl) (by rfl) undef (fun W hW=>?_) ?_
 ·have hb:Blk W B.lb ⟨linkCells S.link B.room⟩ 340:=hW.2
  have q0:=lcell hb hi 0 (by omega) rfl (o:=i*5) (by omega);have q1:=lcell hb hi 1 (by omega) rfl (o:=i*5+1) (by omega);have q2:=lcell hb hi 2 (by omega) rfl (o:=i*5+2) (by omega);have q3:=lcell hb hi 3 (by omega) rfl (o:=i*5+3) (by omega);have q4:=lcell hb hi 4 (by omega) rfl (o:=i*5+4) (by omega);have f0:=hb.free (i*5);have f1:=hb.free (i*5+1);have f2:=hb.free (i*5+2);have f3:=hb.free (i*5+3);have f4:=hb.free (i*5+4);unfold does
  go_simp
  have hs:=((((hb.set (i*5) (.int .i64 l)).set (i*5+1) (.int .i64 s)).set (i*5+2) (.bool true)).set (i*5+3) (.int .i64 p)).set (i*5+4) (.int .i64 (-1));rw[links_row _ _ _ hi ⟨l,s,true,p,-1⟩] at hs;exact⟨⟨((((hW.1.setCell _ (.inl rfl)).setCell _ (.inl rfl)).setCell _ (.inl rfl)).setCell _ (.inl rfl)).setCell _ (.inl rfl),hs⟩,rfl⟩
 simp only[Act.put,List.setIfInBounds_toArray,List.set_cons_succ,List.set_cons_zero];refine fun w5 hw5=>?_;have hl5:Blk w5 B.lb ⟨linkCells f1 B.room⟩ 340:=hw5.2;have h5:=h4.links hw5.1 hl5;have hX5:Blk w5 w.heap.size _ 219:=(hw5.1.block _ hX4.lt (by omega)).trans hX4;have hn5:Blk w5 nb _ 346:=(hw5.1.block _ hn4.lt (by omega)).trans hn4;have hF5:Tch B.own w w5:=(Tch.of_below hB4).trans' hw5.1 (fun j _ hj=>.inr hj);have q1:w5.cell? ⟨nb,1,none⟩=some (.int .i64 p):=hn5.cell 1 rfl
 have hne1:((p:Int) != -1)=true:=by simp[hpi',bne]
 clear c1 c2 c3 c4 hw5;go_wp2;have hlz5:=h5.lt;have hapz5:=h5.apart
 let f2:Nat→Lk:=fset f1 p { S.link p with be:=i }
 let vs2:Bool→Array Value:=fun b=>if b then⟨linkCells f2 B.room⟩ else⟨linkCells f1 B.room⟩
 have hne':=one_ne (w2:=w5) (rb:=B.lb) (T:=340) (vs:=vs2) hl5;haveI:=hne'.1;haveI:=hne'.2;have c1:∀x:One (BlkE w5 B.lb 340 vs2 false),x.w.cell? ⟨B.b,1,none⟩=some (.slice (some ⟨B.lb,0,none⟩) B.room B.room):=blkE_one h5.blk (by omega) 1 rfl;have c4:∀x:One (BlkE w5 B.lb 340 vs2 false),x.w.cell? ⟨nb,1,none⟩=some (.int .i64 p):=blkE_one hn5 (by omega) 1 rfl
 have hp'':(p:Int)<(B.room:Int):=by omega
 refine wp_region_two (BlkE w5 B.lb 340 vs2) 9 (by decide) (by kernel_rfl) (by kernel_rfl) ⟨(Tch.refl _ _).drew,hl5⟩ ?_
 (repeat (first|(refine lexS_skip (by rfl) (by decide) ?_;simp only[Act.put,List.setIfInBounds_toArray,List.set_cons_succ,List.set_cons_zero])|(refine lexS_ewant (by rfl) (by decide) (by kernel_rfl) (by rfl) ?_;intro K hK;go_big_quiet_op;refine hK _ ?_;clear hK K)))
 refine lexS_turn (by rfl) (by rfl) undef (fun W hW=>?_) ?_
 ·have hb:Blk W B.lb ⟨linkCells f1 B.room⟩ 340:=hW.2
  have q4:=lcell hb hpr 4 (by omega) rfl (o:=p*5+4) (by omega);have f4:=hb.free (p*5+4);unfold does
  go_simp
  have hs:=hb.set (p*5+4) (.int .i64 i);rw[links_one _ _ _ 4 hpr (by omega) (.int .i64 i) { S.link p with be:=i } (by show _=(fset S.link i _ p).cells.set 4 _;rw[fset_ne _ _ hpi];rfl)] at hs;exact⟨⟨hW.1.setCell _ (.inl rfl),hs⟩,rfl⟩
 simp only[Act.put,List.setIfInBounds_toArray,List.set_cons_succ,List.set_cons_zero];refine fun w7 hw7=>?_;have hl7:Blk w7 B.lb ⟨linkCells f2 B.room⟩ 340:=hw7.2;have h7:=h5.links hw7.1 hl7;have hX7:Blk w7 w.heap.size _ 219:=(hw7.1.block _ hX5.lt (by omega)).trans hX5;have hn7:Blk w7 nb _ 346:=(hw7.1.block _ hn5.lt (by omega)).trans hn5;have hF7:Tch B.own w w7:=hF5.trans' hw7.1 (fun j _ hj=>.inr hj);clear h5 hX5 hn5 hF5 hl5 c1 c4 hw7 q1;go_wp2;obtain⟨m,hm⟩:=h7.head;have hlx5:=h7.lt;obtain⟨o,hrun,hmap⟩:=hm.putK under341 (l,s) (Hd.v ⟨xfi,i,nn+1⟩);have hne:=mapE_ne w7 B.hb o;haveI:=hne.1;haveI:=hne.2;have c1:∀x:One (MapE w7 B.hb o false),x.w.cell? ⟨B.b,0,none⟩=some (.map (some B.hb)):=mapE_one h7.blk (by omega) 0 rfl;have c2:∀x:One (MapE w7 B.hb o false),x.w.cell? ⟨w.heap.size,0,none⟩=some (.int .i64 l):=mapE_one hX7 (by omega) 0 rfl;have c3:∀x:One (MapE w7 B.hb o false),x.w.cell? ⟨w.heap.size,1,none⟩=some (.int .i64 s):=mapE_one hX7 (by omega) 1 rfl;have c4:∀x:One (MapE w7 B.hb o false),x.w.cell? ⟨nb,0,none⟩=some (.int .i64 xfi):=mapE_one hn7 (by omega) 0 rfl;have c5:∀x:One (MapE w7 B.hb o false),x.w.cell? ⟨nb,2,none⟩=some (.int .i64 nn):=mapE_one hn7 (by omega) 2 rfl;refine wp_region_two (MapE w7 B.hb o) 12 (by decide) (by kernel_rfl) (by kernel_rfl) ⟨(Tch.refl _ _).drew,rfl⟩ ?_
 (repeat (first|(refine lexS_skip (by rfl) (by decide) ?_;simp only[Act.put,List.setIfInBounds_toArray,List.set_cons_succ,List.set_cons_zero])|(refine lexS_ewant (by rfl) (by decide) (by kernel_rfl) (by rfl) ?_;intro K hK;go_big_quiet_op;refine hK _ ?_;clear hK K)))
 refine lexS_turn (by rfl) (by rfl) undef (mapE_upd rfl hlx5.2.1 hrun) ?_;simp only[Act.put,List.setIfInBounds_toArray,List.set_cons_succ,List.set_cons_zero];refine fun w6 hw6=>?_;have hm6:=hmap w6 hw6.2;have e2:=head_set S.head (l,s) (some ⟨xfi,i,nn+1⟩);have hm7:∃n,MapIs KP w6 B.hb (fun a=>(fset S.head (l,s) (some ⟨xfi,i,nn+1⟩) a).map Hd.v) n:=⟨_,by rw[←e2];exact hm6⟩;obtain⟨n6,hm7⟩:=hm7;have h6:=h7.heads hw6.1 hm7;have hF6:Tch B.own w w6:=hF7.trans' hw6.1 (fun j _ hj=>.inl hj);go_wp2;refine bodyPost_ret (v:=.bool true) ?_ rfl ⟨rfl,hF6,h6⟩;simp[results,Tryz.results181,go_sem]
end
end Go.Proofs.YtkndlfdpmpdihaaGreatDoor
