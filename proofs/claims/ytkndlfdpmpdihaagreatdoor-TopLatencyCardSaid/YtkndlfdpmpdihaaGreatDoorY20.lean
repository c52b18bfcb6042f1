/- A range over a map whatever its keys, as it stands: the steps of the walk. A range over a map whatever its keys: what is left behind a step; a list that is sorted by its numbers is one. The sort of the bus's regions: plain facts. The sort of the bus's regions: its contract. How what is due is ordere Conditions: those that each statement shows. -/
import Derived.Test.YtkndlfdpmpdihaaGreatDoorProg
import Derived.Maps.RangeWalk
import Derived.WalkKit
import Derived.ProofKit
import Derived.Lib.Hide
import Derived.Test.YtkndlfdpmpdihaaGreatDoorY05
import Derived.Shelf.GgSortFunc.RowK
import Derived.Shelf.GgSortFunc.InsertionK
import Derived.Test.YtkndlfdpmpdihaaGreatDoorY19
import Derived.StillTailTactics
import Derived.Shelf.SlSortCmp.WholeK
import Derived.Ground.SlsfProg
import Derived.Ground.NamesProg
import Derived.Test.YtkndlfdpmpdihaaGreatDoorY11
namespace Go.Proofs.YtkndlfdpmpdihaaGreatDoor
open Go.RowKit Go.ChangeMaps
set_option linter.unusedVariables false
set_option linter.unusedSimpArgs false
section
variable {P:Program} {ops:Array Oper} {Q:Exit→Act→World→Prop} {rest:List Oper} {o:Oper} {a:Act} {w:World}
theorem wpList_range_raw (hg:o.guard=none) (m:Operand) (t:TypeId) (hop:o.op=Op.range t m) (k e:TypeId) (ht:P.underlying t=some (.map k e)) (b:Nat) (hm:a.eval m=.map (some b)) (es:Array MapEntry) (c:Nat) (hb:w.heap[b]?=some (.map es c))
 (h:wpList P ops Q rest (a.put o.dst (.pointer (some ⟨w.heap.size,0,none⟩))) (w.alloc (.mapIter (some b) c #[] c))):wpList P ops Q (o::rest) a w:=by
 refine wpList_plain hg fun K' hK'=>?_;unfold Oper.wp
 have hr:(Instr.range t (.map (some b))).run P w=.ok (.pointer (some ⟨w.heap.size,0,none⟩)) (w.alloc (.mapIter (some b) c #[] c)):=by
  simp only[Instr.range,underlying,program,Sem.run_bind,Sem.run,Result.andThen_ok,ht,getObj,newObj,hb,Sem.run_pure];rfl
 simp[execOp,hop,hm,hr,Result.andThen];exact hK' _ _ h
theorem wpList_next_raw (hg:o.guard=none) (it:Operand) (hop:o.op=Op.next it false) (r bm since c0:Nat) (seen:Array Nat) (es:Array MapEntry) (clock:Nat) (hit:a.eval it=.pointer (some ⟨r,0,none⟩))
 (hr:w.heap[r]?=some (.mapIter (some bm) since seen c0)) (hb:w.heap[bm]?=some (.map es clock)) (hold:∀x∈es.toList,x.born<since) (hsc:since≤c0)
 (hDone:(leftOf es seen).size=0→wpList P ops Q rest (a.put o.dst (.tuple #[.bool false])) w)
 (hMore:∀e∈(leftOf es seen).toList,∀w1:World,Hid (w1=w∨w1=w.drew)→wpList P ops Q rest (a.put o.dst (.tuple #[.bool true,e.key,e.val])) (setBlock w1 r (.mapIter (some bm) since (seen.push e.born) clock))) :
 wpList P ops Q (o::rest) a w:=by
 refine wpList_plain hg fun K' hK'=>?_;unfold Oper.wp;rcases run_next_at (P:=P) w o.type r bm since c0 seen es clock hr hb hold hsc with⟨h0,hrun⟩|⟨e,he,w1,hw,hrun⟩
 ·simp[execOp,hop,hit,hrun,Result.andThen]
  exact hK' _ _ (hDone h0)
 ·simp[execOp,hop,hit,hrun,Result.andThen]
  exact hK' _ _ (hMore e he w1 (Lib.hid hw))
end
theorem left_push (es:Array MapEntry) (seen:Array Nat) (b:Nat):(leftOf es (seen.push b)).toList=(leftOf es seen).toList.filter (fun x=>!(x.born==b)):=by
 unfold leftOf;rw[Array.toList_filter,Array.toList_filter,List.filter_filter];congr 1
 funext x
 cases h:(x.born==b)<;>simp_all [Array.contains_push]
theorem perm_out:∀(l:List MapEntry) (e:MapEntry),e∈l→(l.map (·.born)).Nodup→l.Perm (e::l.filter (fun x=>!(x.born==e.born)))
 |x::l,e,h,hn=>by
   rw[List.map_cons,List.nodup_cons] at hn
   by_cases hx:x.born=e.born
   ·have hxe:e=x:=by
     rcases List.mem_cons.1 h with rfl|hm
     ·rfl
     ·exact absurd (by rw[hx];exact List.mem_map_of_mem hm) hn.1
    subst hxe
    have hf:l.filter (fun y=>!(y.born==e.born))=l:=by
     rw[List.filter_eq_self];intro y hy;simp only[Bool.not_eq_true',beq_eq_false_iff_ne];intro hyx;exact hn.1 (by rw[←hyx];exact List.mem_map_of_mem hy)
    rw[List.filter_cons];simp only[beq_self_eq_true,Bool.not_true,Bool.false_eq_true,if_false];rw[hf]
   ·rcases List.mem_cons.1 h with rfl|hm
    ·exact absurd rfl hx
    ·have ih:=perm_out l e hm hn.2
     rw[List.filter_cons]
     have hb:(x.born==e.born)=false:=by simpa using hx
     simp only[hb,Bool.not_false,if_true];exact(List.Perm.cons x ih).trans (List.Perm.swap e x _)
theorem left_nodup (es:Array MapEntry) (seen:Array Nat) (hn:(es.toList.map (·.born)).Nodup):((leftOf es seen).toList.map (·.born)).Nodup:=by
 unfold leftOf;rw[Array.toList_filter];exact List.Nodup.sublist (List.Sublist.map _ List.filter_sublist) hn
theorem left_sub (es:Array MapEntry) (seen:Array Nat) (e:MapEntry) (h:e∈(leftOf es seen).toList):e∈es.toList:=by
 unfold leftOf at h;rw[Array.toList_filter] at h;exact(List.mem_filter.1 h).1
theorem left_none (es:Array MapEntry):(leftOf es #[]).toList=es.toList:=by
 unfold leftOf;rw[Array.toList_filter];simp
theorem left_step {α:Type} (es:Array MapEntry) (seen:Array Nat) (kk:MapEntry→α) (pre:List α) (e:MapEntry) (hn:(es.toList.map (·.born)).Nodup) (he:e∈(leftOf es seen).toList) (hp:(pre++(leftOf es seen).toList.map kk).Perm (es.toList.map kk)) :
 ((pre++[kk e])++(leftOf es (seen.push e.born)).toList.map kk).Perm (es.toList.map kk)∧(leftOf es (seen.push e.born)).size+1=(leftOf es seen).size:=by
 have h1:=perm_out _ e he (left_nodup es seen hn);rw[←left_push] at h1;constructor
 ·have h2:=(h1.map kk).append_left pre
  rw[List.map_cons] at h2;rw[List.append_assoc];exact h2.symm.trans hp
 ·have:=h1.length_eq
  simp only[List.length_cons,Array.length_toList] at this;omega
end Go.Proofs.YtkndlfdpmpdihaaGreatDoor
namespace Go.Proofs.YtkndlfdpmpdihaaGreatDoor
open Go.RowKit Go.Sort
set_option linter.unusedVariables false
set_option linter.unusedSimpArgs false
def regC (pre:List (Int×Int)):List Value:=(pre.map fun x=>[U x.1,U x.2]).flatten
theorem regC_append (a b:List (Int×Int)):regC (a++b)=regC a++regC b:=by simp[regC]
def encRg (x:Int×Int):List Value:=[U x.1,U x.2]
theorem sorted_unique:∀(L d:List (Int×Int)),d.Perm L→L.Pairwise (fun a b=>a.1<b.1)→d.Pairwise (fun a b=>¬b.1<a.1)→d=L
 | [],d,hp,_,_=>hp.eq_nil
 |a::L,[],hp,_,_=>absurd hp.symm.eq_nil (by simp)
 |a::L,b::t,hp,hL,hd=>by
   rw[List.pairwise_cons] at hL hd
   by_cases e:b=a
   ·subst e
    rw[sorted_unique L t (List.Perm.cons_inv hp) hL.2 hd.2]
   ·have h1:b∈a::L:=hp.subset (by simp)
    have h2:a∈b::t:=hp.symm.subset (by simp);rw[List.mem_cons] at h1 h2;have h1:=h1.resolve_left e;have h2:=h2.resolve_left (fun x=>e x.symm);exact absurd (hL.1 b h1) (hd.1 a h2)
theorem regC_length (l:List (Int×Int)):(regC l).length=l.length*2:=by
 induction l with
 |nil=>rfl
 |cons a l ih=>simp[regC] at ih ⊢;omega
theorem regC_get:∀(l:List (Int×Int)) (j:Nat),j<l.length*2→(regC l)[j]?=some (encRg l[j/2]!)[j%2]!
 | [],j,h=>by simp at h
 |a::l,0,h=>by simp[regC,encRg]
 |a::l,1,h=>by simp[regC,encRg]
 |a::l,j+2,h=>by
   have ih:=regC_get l j (by simp at h;omega)
   have h1:(j+2)/2=j/2+1:=by omega
   have h2:(j+2)%2=j%2:=by omega
   rw[h1,h2];simpa[regC] using ih
theorem flat_regC (d:Array (Int×Int)):(flatK encRg 2 d).toList=regC d.toList:=by
 refine List.ext_getElem? fun j=>?_
 by_cases h:j<d.size*2
 ·rw[regC_get _ _ (by simpa using h),Array.getElem?_toList,Array.getElem?_eq_getElem (by simpa using h)]
  have:=get_flatK encRg 2 d j h;rw[getElem!_pos _ j (by simpa using h)] at this
  have hq:j/2<d.size:=by omega
  have h2:d.toList[j/2]! = d[j/2]! := by rw[getElem!_pos d.toList (j/2) (by simpa using hq),getElem!_pos d (j/2) hq];simp
  rw[this,h2]
 ·rw[List.getElem?_eq_none (by simp;omega),List.getElem?_eq_none (by rw[regC_length];simpa using Nat.le_of_not_lt h)]
theorem holds_row {w:World} {g:Nat} {cur:Array Value} {e:TypeId} {l:List (Int×Int)} (hg:w.heap[g]?=some (.cells cur e (0,0))) (hc:cur.toList.take (l.length*2)=regC l) :
 HoldsK encRg 2 w g 0 l.toArray:=by
 intro j hj
 have hj':j<l.length*2:=by simpa using hj
 have h1:cur[j]?=some (flatK encRg 2 l.toArray)[j]! := by
  have:=regC_get l j hj';rw[←hc,List.getElem?_take,if_pos hj',Array.getElem?_toList] at this;rw[this,get_flatK _ _ _ _ (by simpa using hj')];simp
 constructor
 ·simp[World.cell?,hg,h1]
 ·simp[World.frozen?,hg]
theorem row_sorted {w:World} {g m:Nat} {cur:Array Value} {e:TypeId} {d:Array (Int×Int)} {os:Array Obj} (hg:w.heap[g]?=some (.cells cur e (0,0))) (hs:d.size*2≤cur.size) :
 ∃cur',(sortWorldK encRg 2 w g 0 m d os).heap[g]?=some (.cells cur' e (0,0))∧cur'.size=cur.size∧cur'.toList.take (d.size*2)=regC d.toList:=by
 have hl:=(Array.getElem?_eq_some_iff.1 hg).1;refine⟨putCells id 0 (flatK encRg 2 d) cur,?_,by simp[putCells],?_⟩
 ·show ((w.heap.modify g (onCells _))++os)[g]?=_
  rw[Array.getElem?_append_left (by simpa using hl),Array.getElem?_modify,if_pos rfl,hg];rfl
 ·rw[←flat_regC]
  refine List.ext_getElem? fun j=>?_
  by_cases h:j<d.size*2
  ·rw[List.getElem?_take,if_pos h,Array.getElem?_toList,Array.getElem?_toList,Array.getElem?_eq_getElem (by simp[putCells];omega),Array.getElem?_eq_getElem (by simpa using h)]
   have:=getElem!_pos (flatK encRg 2 d) j (by simpa using h);simp[putCells,h,this]
  ·rw[List.getElem?_take,if_neg h,List.getElem?_eq_none (by simpa using Nat.le_of_not_lt h)]
theorem sortWorld_other {w:World} {g m j:Nat} {d:Array (Int×Int)} {os:Array Obj} (hj:j≠g) (hjs:j<w.heap.size):(sortWorldK encRg 2 w g 0 m d os).heap[j]?=w.heap[j]?:=by
 show ((w.heap.modify g (onCells _))++os)[j]?=_;rw[Array.getElem?_append_left (by simpa using hjs),Array.getElem?_modify,if_neg (fun x=>hj x.symm)]
theorem sortWorld_grown {w:World} {g m:Nat} {d:Array (Int×Int)} {os:Array Obj}:w.grownBy (sortWorldK encRg 2 w g 0 m d os) (some g):=by
 refine⟨rfl,rfl,rfl,?_,fun k hk hne=>sortWorld_other (fun x=>hne (by rw[x])) hk⟩;show _≤((w.heap.modify g (onCells _))++os).size;simp
end Go.Proofs.YtkndlfdpmpdihaaGreatDoor
namespace Go.Proofs.YtkndlfdpmpdihaaGreatDoor
open Go.RowKit Go.Sort Go.Shelf Go.Lib
set_option linter.unusedVariables false
set_option linter.unusedSimpArgs false
theorem cmp197 (x y:Int) (W:World):Calls Tryz.prog 197 #[U x,U y] W fun e w'=>e=.returned (.int .i64 (Lib.compareInt x y))∧w'=W:=by
 go_enter Tryz.func197,Tryz.ntmps197;go_wp2
 all_goals (go_ret;refine⟨?_,rfl⟩;unfold Lib.compareInt;(repeat' split)<;>first|rfl|(exfalso;omega))
set_option maxHeartbeats 1000000 in
theorem clo196 (x y:Int×Int) (W:World):Calls Tryz.prog 196 #[.agg #[U x.1,U x.2],.agg #[U y.1,U y.2]] W fun e w'=>e=.returned (.int .i64 (Lib.compareInt x.1 y.1))∧∃q os',w'=grow (W.drewN q) os':=by
 have hcon:=fun W'=>cmp197 x.1 y.1 W';generalize Lib.compareInt x.1 y.1=r at hcon ⊢;go_enter Tryz.func196,Tryz.ntmps196
 go_wp2_with (go_at_call 197;refine(hcon _).mono ?_;rintro e w' ⟨rfl,rfl⟩)
 go_ret
 exact⟨rfl,0,_,by rw[alloc_eq_grow,alloc_eq_grow,grow_grow];rfl⟩
end Go.Proofs.YtkndlfdpmpdihaaGreatDoor
namespace Go.Proofs.YtkndlfdpmpdihaaGreatDoor
open Go.RowKit Go.Ev Go.Mv Go.Sort Go.Shelf Go.Lib
set_option linter.unusedVariables false
set_option linter.unusedSimpArgs false
set_option maxRecDepth 100000
theorem cmp117 (x y:Int) (W:World):Calls Tryz.prog 117 #[.int .u64 x,.int .u64 y] W fun e w'=>e=.returned (.int .i64 (Lib.compareInt x y))∧w'=W:=by
 go_enter Tryz.func117,Tryz.ntmps117;go_wp2
 all_goals (go_ret;refine⟨?_,rfl⟩;unfold Lib.compareInt;(repeat' split)<;>first|rfl|(exfalso;omega))
def or2 (x y:Int):Int:=if x≠0 then x else y
set_option maxHeartbeats 4000000 in
theorem or116 (W:World) (g c:Nat) (x y:Int) (h0:W.cell? ⟨g,0,none⟩=some (.int .i64 x)) (h1:W.cell? ⟨g,1,none⟩=some (.int .i64 y)):Calls Tryz.prog 116 #[.slice (some ⟨g,0,none⟩) 2 c] W fun e w'=>e=.returned (.int .i64 (or2 x y))∧w'=W:=by
 obtain⟨z,hz⟩:∃z,z=or2 x y:=⟨_,rfl⟩;rw[←hz];unfold or2 at hz
 by_cases hx:x=0
 ·subst hx
  by_cases hy:y=0
  ·subst hy
   have hz0:z=0:=by simpa using hz
   subst hz0;clear hz;go_enter Tryz.func116,Tryz.ntmps116;go_wp2;refine wp_loop_rounds 3 ?_;rw[rounds_succ];go_wp2;rw[rounds_succ];go_wp2;rw[rounds_succ];go_wp2
   go_ret
   exact⟨rfl,rfl⟩
  ·have hz0:z=y:=by simpa using hz
   subst hz0;clear hz;go_enter Tryz.func116,Tryz.ntmps116;go_wp2;refine wp_loop_rounds 3 ?_;rw[rounds_succ];go_wp2;rw[rounds_succ];go_wp2
   go_ret
   exact⟨rfl,rfl⟩
 ·have hz0:z=x:=by simpa[hx] using hz
  subst hz0;clear hz;go_enter Tryz.func116,Tryz.ntmps116;go_wp2;refine wp_loop_rounds 3 ?_;rw[rounds_succ];go_wp2
  go_ret
  exact⟨rfl,rfl⟩
def cfF (p:PS) (x y:Nat):Int:=or2 (Lib.compareInt (p.tm x).d (p.tm y).d) (Lib.compareInt (p.tm x).o (p.tm y).o)
set_option maxHeartbeats 8000000 in
theorem clo115 (p:PS) (x y:Nat) (W:World):Calls Tryz.prog 115 #[.agg (foundC p x).toArray,.agg (foundC p y).toArray] W fun e w'=>e=.returned (.int .i64 (cfF p x y))∧∃q os',w'=grow (W.drewN q) os':=by
 unfold cfF foundC;generalize hN p x=a0;generalize hN p y=b0;generalize (p.tm x).d=a1;generalize (p.tm x).p=a2;generalize (p.tm x).o=a3;generalize (p.tm y).d=b1;generalize (p.tm y).p=b2;generalize (p.tm y).o=b3;have hc1:=fun W'=>cmp117 (a1:Int) (b1:Int) W';have hc2:=fun W'=>cmp117 (a3:Int) (b3:Int) W';generalize Lib.compareInt (a1:Int) b1=r1 at hc1 ⊢;generalize Lib.compareInt (a3:Int) b3=r2 at hc2 ⊢;have hor:=fun W' g h0 h1=>or116 W' g 2 r1 r2 h0 h1;generalize or2 r1 r2=r at hor ⊢;go_enter Tryz.func115,Tryz.ntmps115;go_wp2;obtain⟨n,hn⟩:∃n,n=W.heap.size:=⟨_,rfl⟩;have hX1:=Blk.new W #[.int .u64 a0,.int .u64 a1,.int .u64 a2,.int .u64 a3] 230;have hX2:=Blk.new (W.alloc (.cells #[.int .u64 a0,.int .u64 a1,.int .u64 a2,.int .u64 a3] 230)) #[.int .u64 b0,.int .u64 b1,.int .u64 b2,.int .u64 b3] 230;have hX3:Blk ((W.alloc (.cells #[.int .u64 a0,.int .u64 a1,.int .u64 a2,.int .u64 a3] 230)).alloc (.cells #[.int .u64 b0,.int .u64 b1,.int .u64 b2,.int .u64 b3] 230)) W.heap.size #[.int .u64 a0,.int .u64 a1,.int .u64 a2,.int .u64 a3] 230:=hX1.below ((Below.refl _ _).alloc (Nat.le_refl _) _) hX1.lt
 have hz:(W.alloc (.cells #[.int .u64 a0,.int .u64 a1,.int .u64 a2,.int .u64 a3] 230)).heap.size=W.heap.size+1:=by simp
 have e1:((W.alloc (.cells #[.int .u64 a0,.int .u64 a1,.int .u64 a2,.int .u64 a3] 230)).alloc (.cells #[.int .u64 b0,.int .u64 b1,.int .u64 b2,.int .u64 b3] 230)).cell? ⟨W.heap.size,1,none⟩=some (.int .u64 a1):=hX3.cell 1 rfl;have e3:((W.alloc (.cells #[.int .u64 a0,.int .u64 a1,.int .u64 a2,.int .u64 a3] 230)).alloc (.cells #[.int .u64 b0,.int .u64 b1,.int .u64 b2,.int .u64 b3] 230)).cell? ⟨W.heap.size,3,none⟩=some (.int .u64 a3):=hX3.cell 3 rfl
 have f1:((W.alloc (.cells #[.int .u64 a0,.int .u64 a1,.int .u64 a2,.int .u64 a3] 230)).alloc (.cells #[.int .u64 b0,.int .u64 b1,.int .u64 b2,.int .u64 b3] 230)).cell? ⟨W.heap.size+1,1,none⟩=some (.int .u64 b1):=by have h:=hX2.cell 1 rfl;rw[hz] at h;exact h
 have f3:((W.alloc (.cells #[.int .u64 a0,.int .u64 a1,.int .u64 a2,.int .u64 a3] 230)).alloc (.cells #[.int .u64 b0,.int .u64 b1,.int .u64 b2,.int .u64 b3] 230)).cell? ⟨W.heap.size+1,3,none⟩=some (.int .u64 b3):=by have h:=hX2.cell 3 rfl;rw[hz] at h;exact h
 have hg:∃q os',(((W.alloc (.cells #[.int .u64 a0,.int .u64 a1,.int .u64 a2,.int .u64 a3] 230)).alloc (.cells #[.int .u64 b0,.int .u64 b1,.int .u64 b2,.int .u64 b3] 230)).drew.alloc (.cells #[.int .i64 r1,.int .i64 r2] 3))=grow (W.drewN q) os':=⟨1,_,by rw[alloc_eq_grow,alloc_eq_grow,alloc_eq_grow,drew_grow,grow_grow,drew_grow,grow_grow];rfl⟩;clear hX1 hX2 hX3 hz;generalize hw2:(W.alloc (.cells #[.int .u64 a0,.int .u64 a1,.int .u64 a2,.int .u64 a3] 230)).alloc (.cells #[.int .u64 b0,.int .u64 b1,.int .u64 b2,.int .u64 b3] 230)=w2 at *;have hl:=Blk.new w2.drew #[.int .i64 r1,.int .i64 r2] 3;have l0:(w2.drew.alloc (.cells #[.int .i64 r1,.int .i64 r2] 3)).cell? ⟨w2.drew.heap.size,0,none⟩=some (.int .i64 r1):=hl.cell 0 rfl;have l1:(w2.drew.alloc (.cells #[.int .i64 r1,.int .i64 r2] 3)).cell? ⟨w2.drew.heap.size,1,none⟩=some (.int .i64 r2):=hl.cell 1 rfl;have hcor:=hor (w2.drew.alloc (.cells #[.int .i64 r1,.int .i64 r2] 3)) w2.drew.heap.size l0 l1;clear hor hl
 go_still_tail 14,(by kernel_rfl)
 still_call (hc1 _)
 repeat still_step
 still_call (hc2 _)
 refine wpStill_nil ?_;change wpList _ _ _ _ _ w2.drew;generalize w2.drew=w3 at *
 go_wp2_with (go_at_call 116;refine hcor.mono ?_;rintro e w' ⟨rfl,rfl⟩)
 go_ret
 exact⟨rfl,hg⟩
theorem ltF (p:PS) (x y:Nat):ltOf (cfF p) x y=decide ((p.tm x).d<(p.tm y).d∨((p.tm x).d=(p.tm y).d∧(p.tm x).o<(p.tm y).o)):=by
 unfold ltOf cfF or2 Lib.compareInt;generalize (p.tm x).d=a;generalize (p.tm y).d=b;generalize (p.tm x).o=c;generalize (p.tm y).o=d;rcases Nat.lt_trichotomy a b with h|h|h
 ·have h1:(a:Int)<b:=by omega
  simp[h,h1]
 ·subst h
  rcases Nat.lt_trichotomy c d with h|h|h
  ·have h1:(c:Int)<d:=by omega
   simp[h,h1]
  ·subst h
   simp
  ·have h1:¬(c:Int)<d:=by omega
   have h2:¬c<d:=by omega
   have h3:(d:Int)<c:=by omega
   simp[h1,h2,h3]
 ·have h1:¬(a:Int)<b:=by omega
  have h2:¬a<b:=by omega
  have h3:(b:Int)<a:=by omega
  have h4:¬a=b:=by omega
  simp[h1,h2,h3,h4]
theorem swoF (p:PS):SWO (ltOf (cfF p)):=by
 refine⟨fun x=>?_,fun x y z h1 h2=>?_,fun x y z h1 h2=>?_⟩<;>simp only[ltF,decide_eq_true_eq,decide_eq_false_iff_not] at*<;> omega
theorem foundCells_length (p:PS) (l:List Nat):(foundCells p l).length=l.length*4:=by
 induction l with
 |nil=>rfl
 |cons a l ih=>
   have:foundCells p (a::l)=foundC p a++foundCells p l:=rfl;rw[this,List.length_append,ih,List.length_cons];show 4+l.length*4=_;omega
theorem foundCells_get (p:PS):∀(l:List Nat) (j:Nat),j<l.length*4→(foundCells p l)[j]?=some (foundC p l[j/4]!)[j%4]!
 | [],j,h=>by simp at h
 |a::l,0,h=>by rfl
 |a::l,1,h=>by rfl
 |a::l,2,h=>by rfl
 |a::l,3,h=>by rfl
 |a::l,j+4,h=>by
   have ih:=foundCells_get p l j (by simp at h;omega)
   have h1:(j+4)/4=j/4+1:=by omega
   have h2:(j+4)%4=j%4:=by omega
   have h3:foundCells p (a::l)=foundC p a++foundCells p l:=rfl;rw[h1,h2,h3,List.getElem?_append_right (by show 4≤_;omega)];show (foundCells p l)[j+4-4]?=_;rw[Nat.add_sub_cancel,ih];simp
theorem flat_found (p:PS) (d:Array Nat):(flatK (foundC p) 4 d).toList=foundCells p d.toList:=by
 refine List.ext_getElem? fun j=>?_
 by_cases h:j<d.size*4
 ·rw[foundCells_get _ _ _ (by simpa using h),Array.getElem?_toList,Array.getElem?_eq_getElem (by simpa using h)]
  have:=get_flatK (foundC p) 4 d j h;rw[getElem!_pos _ j (by simpa using h)] at this
  have hq:j/4<d.size:=by omega
  have h2:d.toList[j/4]! = d[j/4]! := by rw[getElem!_pos d.toList (j/4) (by simpa using hq),getElem!_pos d (j/4) hq];simp
  rw[this,h2]
 ·rw[List.getElem?_eq_none (by simp;omega),List.getElem?_eq_none (by rw[foundCells_length];simpa using Nat.le_of_not_lt h)]
theorem holds_found {p:PS} {w:World} {g:Nat} {cur:Array Value} {e:TypeId} {l:List Nat} (hg:w.heap[g]?=some (.cells cur e (0,0))) (hc:cur.toList.take (l.length*4)=foundCells p l) :
 HoldsK (foundC p) 4 w g 0 l.toArray:=by
 intro j hj
 have hj':j<l.length*4:=by simpa using hj
 have h1:cur[j]?=some (flatK (foundC p) 4 l.toArray)[j]! := by
  have:=foundCells_get p l j hj';rw[←hc,List.getElem?_take,if_pos hj',Array.getElem?_toList] at this;rw[this,get_flatK _ _ _ _ (by simpa using hj')];simp
 constructor
 ·simp[World.cell?,hg,h1]
 ·simp[World.frozen?,hg]
theorem found_sorted {p:PS} {w:World} {g m:Nat} {cur:Array Value} {e:TypeId} {d:Array Nat} {os:Array Obj} (hg:w.heap[g]?=some (.cells cur e (0,0))) (hs:d.size*4≤cur.size) :
 ∃cur',(sortWorldK (foundC p) 4 w g 0 m d os).heap[g]?=some (.cells cur' e (0,0))∧cur'.size=cur.size∧cur'.toList.take (d.size*4)=foundCells p d.toList:=by
 have hl:=(Array.getElem?_eq_some_iff.1 hg).1;refine⟨putCells id 0 (flatK (foundC p) 4 d) cur,?_,by simp[putCells],?_⟩
 ·show ((w.heap.modify g (onCells _))++os)[g]?=_
  rw[Array.getElem?_append_left (by simpa using hl),Array.getElem?_modify,if_pos rfl,hg];rfl
 ·rw[←flat_found]
  refine List.ext_getElem? fun j=>?_
  by_cases h:j<d.size*4
  ·rw[List.getElem?_take,if_pos h,Array.getElem?_toList,Array.getElem?_toList,Array.getElem?_eq_getElem (by simp[putCells];omega),Array.getElem?_eq_getElem (by simpa using h)]
   have:=getElem!_pos (flatK (foundC p) 4 d) j (by simpa using h);simp[putCells,h,this]
  ·rw[List.getElem?_take,if_neg h,List.getElem?_eq_none (by simpa using Nat.le_of_not_lt h)]
theorem foundWorld_other {p:PS} {w:World} {g m j:Nat} {d:Array Nat} {os:Array Obj} (hj:j≠g) (hjs:j<w.heap.size):(sortWorldK (foundC p) 4 w g 0 m d os).heap[j]?=w.heap[j]?:=by
 show ((w.heap.modify g (onCells _))++os)[j]?=_;rw[Array.getElem?_append_left (by simpa using hjs),Array.getElem?_modify,if_neg (fun x=>hj x.symm)]
theorem foundWorld_grown {p:PS} {w:World} {g m:Nat} {d:Array Nat} {os:Array Obj}:w.grownBy (sortWorldK (foundC p) 4 w g 0 m d os) (some g):=by
 refine⟨rfl,rfl,rfl,?_,fun k hk hne=>foundWorld_other (fun x=>hne (by rw[x])) hk⟩;show _≤((w.heap.modify g (onCells _))++os).size;simp
end Go.Proofs.YtkndlfdpmpdihaaGreatDoor
namespace Go.Proofs
open Go.Shelf
def Tryz.sortFd_ren:Go.Shelf.Ren:=⟨fun | 6=>114 | 15=>184 | 14=>183 | 28=>257 | 29=>258 | 20=>249 | 21=>250 | 22=>251 | 23=>252 | 24=>253 | 25=>254 | 26=>255 | 27=>256 | 46=>305 | 47=>306 | 48=>307 | 49=>308 | 50=>309 | 57=>352|n=>n,fun | 22=>224 | 24=>230 | 25=>234 | 3=>3 | 39=>259 | 0=>0 | 53=>22 | 55=>37 | 4=>4 | 46=>393 | 45=>392 | 50=>397 | 5=>5 | 9=>9 | 66=>437 | 70=>361 | 76=>480 | 77=>335|n=>n,fun|n=>n⟩
theorem Tryz.sortFd:Go.Proofs.SlLaysF0.n6 Tryz.prog Tryz.sortFd_ren:={
 mixed:=by kernel_rfl
 f6:=⟨Tryz.f114.name,by decide,Tryz.func114.trans (congrArg some (by kernel_rfl))⟩
 f14:=⟨Tryz.f183.name,by decide,Tryz.func183.trans (congrArg some (by kernel_rfl))⟩
 f15:=Tryz.func184.trans (congrArg some (by kernel_rfl))
 f20:=⟨Tryz.f249.name,by decide,Tryz.func249.trans (congrArg some (by kernel_rfl))⟩
 f21:=⟨Tryz.f250.name,by decide,Tryz.func250.trans (congrArg some (by kernel_rfl))⟩
 f22:=⟨Tryz.f251.name,by decide,Tryz.func251.trans (congrArg some (by kernel_rfl))⟩
 f23:=⟨Tryz.f252.name,by decide,Tryz.func252.trans (congrArg some (by kernel_rfl))⟩
 f24:=⟨Tryz.f253.name,by decide,Tryz.func253.trans (congrArg some (by kernel_rfl))⟩
 f25:=⟨Tryz.f254.name,by decide,Tryz.func254.trans (congrArg some (by kernel_rfl))⟩
 f26:=⟨Tryz.f255.name,by decide,Tryz.func255.trans (congrArg some (by kernel_rfl))⟩
 f27:=⟨Tryz.f256.name,by decide,Tryz.func256.trans (congrArg some (by kernel_rfl))⟩
 f28:=Tryz.func257.trans (congrArg some (by kernel_rfl))
 f29:=Tryz.func258.trans (congrArg some (by kernel_rfl))
 f46:=⟨Tryz.f305.name,by decide,Tryz.func305.trans (congrArg some (by kernel_rfl))⟩
 f47:=Tryz.func306.trans (congrArg some (by kernel_rfl))
 f48:=Tryz.func307.trans (congrArg some (by kernel_rfl))
 f49:=⟨Tryz.f308.name,by decide,Tryz.func308.trans (congrArg some (by kernel_rfl))⟩
 f50:=⟨Tryz.f309.name,by decide,Tryz.func309.trans (congrArg some (by kernel_rfl))⟩
 f57:=⟨Tryz.f352.name,by decide,Tryz.func352.trans (congrArg some (by kernel_rfl))⟩
 t0:=Tryz.underlying0
 a0:=Tryz.isAgg0
 z0:=Tryz.sizeOf0
 v0:=Tryz.zeroValue0
 t3:=Tryz.underlying3
 a3:=Tryz.isAgg3
 z3:=Tryz.sizeOf3
 v3:=Tryz.zeroValue3
 t4:=Tryz.underlying4
 a4:=Tryz.isAgg4
 z4:=Tryz.sizeOf4
 v4:=Tryz.zeroValue4
 t5:=Tryz.underlying5
 a5:=Tryz.isAgg5
 z5:=Tryz.sizeOf5
 v5:=Tryz.zeroValue5
 t9:=Tryz.underlying9
 a9:=Tryz.isAgg9
 z9:=Tryz.sizeOf9
 v9:=Tryz.zeroValue9
 t22:=Tryz.underlying224
 a22:=Tryz.isAgg224
 z22:=Tryz.sizeOf224
 v22:=Tryz.zeroValue224
 t25:=Tryz.underlying234
 a25:=Tryz.isAgg234
 z25:=Tryz.sizeOf234
 v25:=Tryz.zeroValue234
 t39:=Tryz.underlying259
 a39:=Tryz.isAgg259
 z39:=Tryz.sizeOf259
 v39:=Tryz.zeroValue259
 t45:=Tryz.underlying392
 a45:=Tryz.isAgg392
 z45:=Tryz.sizeOf392
 v45:=Tryz.zeroValue392
 t46:=Tryz.underlying393
 a46:=Tryz.isAgg393
 z46:=Tryz.sizeOf393
 v46:=Tryz.zeroValue393
 t50:=Tryz.underlying397
 a50:=Tryz.isAgg397
 z50:=Tryz.sizeOf397
 v50:=Tryz.zeroValue397
 t53:=Tryz.underlying22
 a53:=Tryz.isAgg22
 z53:=Tryz.sizeOf22
 v53:=Tryz.zeroValue22
 t55:=Tryz.underlying37
 a55:=Tryz.isAgg37
 z55:=Tryz.sizeOf37
 v55:=Tryz.zeroValue37
 t66:=Tryz.underlying437
 a66:=Tryz.isAgg437
 z66:=Tryz.sizeOf437
 v66:=Tryz.zeroValue437
 t70:=Tryz.underlying361
 a70:=Tryz.isAgg361
 z70:=Tryz.sizeOf361
 v70:=Tryz.zeroValue361
 t76:=Tryz.underlying480
 a76:=Tryz.isAgg480
 z76:=Tryz.sizeOf480
 v76:=Tryz.zeroValue480
 t77:=Tryz.underlying335
 a77:=Tryz.isAgg335
 z77:=Tryz.sizeOf335
 v77:=Tryz.zeroValue335 }
end Go.Proofs
namespace Go.Proofs.YtkndlfdpmpdihaaGreatDoor
open Go.RowKit Go.Ev Go.Mv Go.Sort Go.Shelf Go.Lib
set_option linter.unusedVariables false
set_option linter.unusedSimpArgs false
set_option maxRecDepth 100000
set_option maxHeartbeats 1000000 in
theorem none249 (fv:Value) (w:World):Calls Tryz.prog 249 #[.slice none 0 0,.int .i64 0,.int .i64 0,fv] w fun e w'=>e=.returned (.tuple #[])∧w'=w:=by
 go_enter Tryz.func249,Tryz.ntmps249;go_wp2;refine wp_loop_rounds 1 ?_;rw[rounds_succ];go_wp2
 go_end0
 exact⟨rfl,rfl⟩
set_option maxHeartbeats 1000000 in
theorem none183 (lim:Int) (fv:Value) (w:World):Calls Tryz.prog 183 #[.slice none 0 0,.int .i64 0,.int .i64 0,.int .i64 lim,fv] w fun e w'=>e=.returned (.tuple #[])∧w'=w:=by
 have hi:=fun W=>none249 fv W;go_enter Tryz.func183,Tryz.ntmps183;go_wp2;refine wp_loop_rounds 1 ?_;rw[rounds_succ]
 go_wp2_with (go_at_call 249;refine(hi _).mono ?_;rintro e w' ⟨rfl,rfl⟩)
 (try simp only[Exit.inBlock,Exit.then]);refine bodyPost_ret (results_none rfl _ _ _) rfl ?_
 exact⟨rfl,rfl⟩
set_option maxHeartbeats 1000000 in
theorem none114 (fv:Value) (w:World):Calls Tryz.prog 114 #[.slice none 0 0,fv] w fun e w'=>e=.returned (.tuple #[])∧w'=w:=by
 have hp:=fun lim W=>none183 lim fv W
 have hl:∀W,Calls Tryz.prog 184 #[.int .u64 0] W fun e w'=>e=.returned (.int .i64 (Lib.bitLen 0:Nat))∧w'=W:=fun W=>by
  have h:=Any.bits_Len Tryz.bitsLen 0 W (by omega) (by omega);exact h
 go_enter Tryz.func114,Tryz.ntmps114
 go_wp2_with (first|(go_at_call 184;refine(hl _).mono ?_;rintro e w' ⟨rfl,rfl⟩)|(go_at_call 183;refine(hp _ _).mono ?_;rintro e w' ⟨rfl,rfl⟩))
 go_end0
 exact⟨rfl,rfl⟩
set_option maxHeartbeats 1000000 in
theorem sort114 {p:PS} {w:World} {base:Nat} {v:Value} {D:List Nat} (hO:w.ownsRow base 230 4 v D.length (foundCells p D)) (hD:D.length≤64) :
 Calls Tryz.prog 114 #[v,.func (.func 115) #[] #[]] w fun e w'=>e=.returned (.tuple #[])∧∃D',D'.Perm D∧D'.Pairwise (fun x y=>ltOf (cfF p) y x=false)∧w'.ownsRow base 230 4 v D'.length (foundCells p D')∧w.grownBy w' v.ownBlock:=by
 obtain⟨h0,⟨rfl,hn⟩|⟨g,cap,cur,rfl,hb,hg,hcap,hmax,hcs,hct⟩⟩:=hO
 ·have e0:D=[]:=List.eq_nil_of_length_eq_zero hn
  subst e0;refine(none114 (.func (.func 115) #[] #[]) w).mono ?_;rintro e w' ⟨rfl,rfl⟩;exact⟨rfl,[],List.Perm.refl _,List.Pairwise.nil,World.ownsRow_nil _ _ _ _,⟨rfl,rfl,rfl,Nat.le_refl _,fun k hk _=>rfl⟩⟩
 ·have hgl:=(Array.getElem?_eq_some_iff.1 hg).1
  have eg:∀args w,(callFunc 115 args).run Tryz.prog w=.ok (.enter 115 args) w:=enters_of Tryz.func115 (by kernel_rfl) rfl
  have hcon:=AnyQ.slices_SortFunc Tryz.sortFd 4 (fun w=>by kernel_rfl) (fun w=>by kernel_rfl) (foundC p) (fun _=>rfl) (fun x v hv=>by simp[foundC] at hv;rcases hv with rfl|rfl|rfl|rfl<;>rfl) (cfF p) (swoF p) 115 #[] g 0 cap D.toArray w eg (fun _ _ _ _ x y=>clo115 p x y _) (holds_found hg hct) hgl (by simp;omega)
  refine Calls.mono hcon ?_;rintro e w' ⟨rfl,d',n,os,hP,hS,rfl⟩;obtain⟨hp1,_,hp2⟩:=hP
  have hds:d'.size=D.length:=by simpa using hp1
  have hperm:d'.toList.Perm D:=by
   have e3:(d'.extract 0 D.toArray.size).toList=d'.toList:=by
    rw[Array.toList_extract,List.extract_eq_take_drop];rw[List.drop_zero];exact List.take_of_length_le (by simp[hds])
   have e4:(D.toArray.extract 0 D.toArray.size).toList=D:=by simp
   rw[e3,e4] at hp2;exact hp2
  refine⟨rfl,d'.toList,hperm,?_,?_,foundWorld_grown⟩
  ·rw[List.pairwise_iff_getElem]
   intro i j hi hj hij
   have hi':i<d'.size:=by simpa using hi
   have hj':j<d'.size:=by simpa using hj
   have:=hS i j (Nat.zero_le _) hij (by simpa[←hds] using hj');rw[getElem!_pos d' j hj',getElem!_pos d' i hi'] at this;simpa using this
  ·obtain⟨cur',c1,c2,c3⟩:=found_sorted (p:=p) (m:=n) (os:=os) (d:=d') hg (by omega)
   have hdl:d'.toList.length=D.length:=by simpa using hds
   refine⟨foundCells_length p _,.inr ⟨g,cap,cur',by rw[hdl],hb,c1,by omega,hmax,by omega,?_⟩⟩;rw[←c3,hdl,hds]
end Go.Proofs.YtkndlfdpmpdihaaGreatDoor
namespace Go.Proofs.YtkndlfdpmpdihaaGreatDoor
open Go.RowKit Go.Ev Go.Mv
set_option linter.unusedVariables false
set_option linter.unusedSimpArgs false
set_option maxRecDepth 100000
noncomputable def dropL (p:PS) (l:List Nat):PS:=l.foldl PS.drop p
theorem dropL_snoc (p:PS) (l:List Nat) (a:Nat):dropL p (l++[a])=(dropL p l).drop a:=by
 unfold dropL;rw[List.foldl_append];rfl
theorem dropL_out {p:PS}:∀ {l:List Nat} {x:Nat},x∉l→(dropL p l).ent x=p.ent x∧(dropL p l).gen x=p.gen x:=by
 intro l
 induction l generalizing p with
 |nil=>intro x _;exact⟨rfl,rfl⟩
 |cons a l ih=>
   intro x hx;have h1:x≠a:=fun e=>hx (by rw[e];simp);have h2:x∉l:=fun e=>hx (by simp[e]);obtain⟨e1,e2⟩:=ih (p:=p.drop a) h2;exact⟨e1.trans (fset_ne _ _ h1),e2.trans (fset_ne _ _ h1)⟩
theorem dropL_in {p:PS}:∀ {l:List Nat} {x:Nat},x∈l→(dropL p l).ent x=none:=by
 intro l
 induction l generalizing p with
 |nil=>intro x hx;cases hx
 |cons a l ih=>
   intro x hx
   by_cases h2:x∈l
   ·exact ih (p:=p.drop a) h2
   ·have h1:x=a:=by
     rw[List.mem_cons] at hx;exact hx.resolve_right h2
    subst h1;exact(dropL_out (p:=p.drop x) h2).1.trans (fset_same _ _ _)
theorem dropL_word (p:PS) (l:List Nat):(dropL p l).word≤p.word:=by
 induction l generalizing p with
 |nil=>exact Nat.le_refl _
 |cons a l ih=>exact Nat.le_trans (ih (p.drop a)) Nat.and_le_left
def dueC (p:PS) (a:Nat):List Value:=[.int .u64 ((hN p a:Nat):Int),.int .u64 ((p.tm a).d:Int),.int .u64 ((p.tm a).p:Int)]
def dueCells (p:PS) (l:List Nat):List Value:=l.flatMap (dueC p)
theorem dueCells_app (p:PS) (l l':List Nat):dueCells p (l++l')=dueCells p l++dueCells p l':=by
 unfold dueCells;rw[List.flatMap_append]
theorem three_new (w:World) (t:TypeId) (a b c:Value):∀j u,[a,b,c][j]?=some u→(w.alloc (.cells #[a,b,c] t)).cell? ((⟨w.heap.size,0,none⟩:Addr).add j)=some u:=by
 intro j u hj;have hX:=Blk.new w #[a,b,c] t
 match j,hj with
 | 0,hj=>simp at hj;subst hj;exact hX.cell 0 rfl
 | 1,hj=>simp at hj;subst hj;exact hX.cell 1 rfl
 | 2,hj=>simp at hj;subst hj;exact hX.cell 2 rfl
theorem three_ok (a b c:Int):∀u∈[Value.int .u64 a,Value.int .u64 b,Value.int .u64 c],u.oneCell'=true:=by
 intro u hu;simp at hu
 rcases hu with rfl|rfl|rfl<;>rfl
theorem under137:Tryz.prog.underlying 137=some (.slice 140):=by kernel_rfl
theorem info140:(Tryz.prog.info? 140).map (fun i=>(i.zero,i.size,i.bytes))=some (some (.agg #[.int .u64 0,.int .u64 0,.int .u64 0]),3,24):=by kernel_rfl
theorem row_found {w:World} {base:Nat} {v:Value} {p:PS} {D:List Nat} (h:w.ownsRow base 230 4 v D.length (foundCells p D)):∃(q:Option Addr) (c:Nat),v=.slice q D.length c∧∀(i a:Nat),D[i]?=some a→∃(g:Nat) (cur:Array Value),q=some ⟨g,0,none⟩∧base≤g∧w.heap[g]?=some (.cells cur 230 (0,0))∧cur[i*4]?=some (.int .u64 (hN p a:Nat))∧cur[i*4+1]?=some (.int .u64 (p.tm a).d)∧cur[i*4+2]?=some (.int .u64 (p.tm a).p)∧cur[i*4+3]?=some (.int .u64 (p.tm a).o):=by
 have hcells:∀(D:List Nat) (i a:Nat),D[i]?=some a→(foundCells p D)[i*4]?=some (.int .u64 (hN p a:Nat))∧(foundCells p D)[i*4+1]?=some (.int .u64 (p.tm a).d)∧(foundCells p D)[i*4+2]?=some (.int .u64 (p.tm a).p)∧(foundCells p D)[i*4+3]?=some (.int .u64 (p.tm a).o):=by
  intro D
  induction D with
  |nil=>intro i a hj;cases hj
  |cons x l ih=>
    intro i a hj
    cases i with
    |zero=>cases hj;exact⟨rfl,rfl,rfl,rfl⟩
    |succ i=>
      have hq:=ih i a hj;rw[show (i+1)*4=i*4+4 from by omega];exact hq
 have hxl:=h.1;rcases h.2 with⟨rfl,h0⟩|⟨g,cap,cur,rfl,hb,hgb,_,_,hcs,htk⟩
 ·exact⟨none,0,by rw[h0],fun i a hj=>by have:=(List.getElem?_eq_some_iff.1 hj).1;omega⟩
 ·refine⟨_,_,rfl,fun i a hj=>?_⟩
  obtain⟨p1,p2,p3,p4⟩:=hcells D i a hj
  have hcu:∀(m:Nat) (u:Value),(foundCells p D)[m]?=some u→cur[m]?=some u:=fun m u hm=>by
   have hml:=(List.getElem?_eq_some_iff.1 hm).1;rw[hxl] at hml;rw[←htk,List.getElem?_take_of_lt hml] at hm;simpa using hm
  exact⟨g,cur,rfl,hb,hgb,hcu _ _ p1,hcu _ _ p2,hcu _ _ p3,hcu _ _ p4⟩
section
variable {B:WB} {S:WS} {l:Int×Int→List Nat} {p:PS} {o tt i a:Nat} {D:List Nat} {M:Nat→Prop}
theorem LiveAt.other {t:Tm} (h:LiveAt S.p a t) {x:Nat} (hx:a≠x):LiveAt (S.p.drop x) a t:=
 ⟨(fset_ne _ _ hx).trans h.ent,h.lt,by show fset S.p.gen x _ a<_;rw[fset_ne _ _ hx];exact h.gen⟩
theorem WMid.drop (h:WMid B S l tt M) (ha:M a):WMid B { S with p:=S.p.drop a } l tt (fun x=>M x∧x≠a):=by
 have hne:∀ {k x},x∈l k→x≠a:=fun{k x} hx e=>(h.out a ha).1 k (e ▸ hx);refine⟨⟨h.ok.ch,fun k x hx=>?_,h.ok.m,h.ok.room⟩,fun k x hx=>?_,fun x t hx=>?_,fun x hx=>?_,h.bits⟩
 ·obtain⟨t,hL,hd⟩:=h.ok.live k x hx
  exact⟨t,hL.other (hne hx),hd⟩
 ·obtain⟨t,ht,hp⟩:=h.pl k x hx
  exact⟨t,(fset_ne _ _ (hne hx)).trans ht,hp⟩
 ·have hxa:x≠a:=by
   rintro rfl;have:(S.p.drop x).ent x=none:=fset_same _ _ _;rw[this] at hx;cases hx
  have hx':S.p.ent x=some t:=(fset_ne _ _ hxa).symm.trans hx;exact(h.all x t hx').imp (fun e=>⟨e,hxa⟩) id
 ·obtain⟨h1,h2,t,hL,hd⟩:=h.out x hx.1
  exact⟨h1,h2,t,hL.other hx.2,hd⟩
structure Fired (B:WB) (p:PS) (o tt:Nat) (D:List Nat) (i:Nat) (S:WS) (l:Int×Int→List Nat):Prop where
 mid:WMid B S l tt (fun x=>x∈D.drop i)
 p:S.p=dropL p (D.take i)
 base:S.base=tt
 order:S.order=o
theorem Fired.zero (h:WMid B S l tt (fun x=>x∈D)) (hp:S.p=p) (hb:S.base=tt) (ho:S.order=o):Fired B p o tt D 0 S l:=⟨h,hp,hb,ho⟩
theorem Fired.not_in (hn:D.Nodup) (ha:D[i]?=some a):a∉D.take i∧a∉D.drop (i+1):=by
 have hA:D=D.take i++a::D.drop (i+1):=by rw[←drop_at ha,List.take_append_drop]
 rw[hA,List.nodup_append] at hn;refine⟨fun hm=>hn.2.2 a hm a (by simp) rfl,?_⟩;have:=hn.2.1;rw[List.nodup_cons] at this;exact this.1
theorem Fired.live (h:Fired B p o tt D i S l) (hn:D.Nodup) (ha:D[i]?=some a):LiveAt S.p a (p.tm a)∧hN S.p a=hN p a∧a<B.c.room:=by
 obtain⟨_,hr,t,hL,hd⟩:=h.mid.out a (by rw[drop_at ha];simp);obtain⟨e1,e2⟩:=dropL_out (p:=p) (Fired.not_in hn ha).1;rw[←h.p] at e1 e2;have ht:p.ent a=some t:=e1.symm.trans hL.ent;rw[PS.tm_eq ht];refine⟨hL,?_,hr⟩;unfold hN;rw[e2]
theorem Fired.step (h:Fired B p o tt D i S l) (hn:D.Nodup) (ha:D[i]?=some a):Fired B p o tt D (i+1) { S with p:=S.p.drop a } l:=by
 refine⟨(h.mid.drop (a:=a) (by rw[drop_at ha];simp)).congr (fun _=>rfl) (fun x=>?_),?_,h.base,h.order⟩
 ·rw[drop_at ha]
  have hnd:=(Fired.not_in hn ha).2;rw[List.mem_cons];exact⟨fun e=>⟨.inr e,fun e2=>hnd (e2 ▸ e)⟩,fun e=>e.1.resolve_left e.2⟩
 ·show S.p.drop a=_
  rw[h.p,take_at_ ha,dropL_snoc]
theorem Fired.last (h:Fired B p o tt D D.length S l):WMid B S l tt (fun _=>False)∧S.p=dropL p D:=
 ⟨h.mid.congr (fun _=>rfl) (fun x=>by simp),by rw[h.p,List.take_length]⟩
end
def Collected (B:WB) (S:WS) (n0 tt now:Nat) (w w':World) (v:Value):Prop:=
 ∃D S' l',w'.ownsRow n0 140 3 v D.length (dueCells S.p D)∧Tch (fun r=>B.own r∨n0≤r) w w'∧WheelAt B S' w'∧WMid B S' l' tt (fun _=>False)∧S'.p=dropL S.p D∧S'.base=tt∧S'.order=S.order∧D.Nodup∧D.Pairwise (fun x y=>ltOf (cfF S.p) y x=false)∧∀a,a∈D↔∃t,S.p.ent a=some t∧t.d≤now
end Go.Proofs.YtkndlfdpmpdihaaGreatDoor
