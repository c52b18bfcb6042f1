/- Whether a place is touched, reckoned. Whether a place is touched, reckoned: slots; Touched. Rows beside one another; the chains turned, new blocks beside. The handles that were taken off: those that are due are held, the others laid back. DERIVED: THE SHELF's CONTRACTS AT THIS DUMP, IN PLAIN WORDS ( Conditions: those that each statement shows. -/
import Derived.Test.YtkndlfdpmpdihaaGreatDoorY18
import Derived.Test.YtkndlfdpmpdihaaGreatDoorY14
import Derived.Test.YtkndlfdpmpdihaaGreatDoorProg
import Derived.Shelf.SlSortCmp.SmallK
import Derived.Shelf.Small.Bits
import Derived.Ground.SlsfProg
import Derived.Ground.NamesProg
namespace Go.Proofs.YtkndlfdpmpdihaaGreatDoor
open Go.RowKit Go.Ev Go.Mv
set_option linter.unusedVariables false
set_option linter.unusedSimpArgs false
set_option maxRecDepth 100000
theorem eq_late {l s:Nat} (w:World):(Op.equalIn 10000 219 (.agg #[.int .i64 l,.int .i64 s]) (.agg #[.int .i64 (-1),.int .i64 0])).run Tryz.prog w=.ok false w:=by kernel_rfl
theorem eq_far {l s:Nat} (hl:l<8) (w:World):(Op.equalIn 10000 219 (.agg #[.int .i64 l,.int .i64 s]) (.agg #[.int .i64 8,.int .i64 0])).run Tryz.prog w=.ok false w:=by
 match l,hl with
 | 0,_=>show _=_;kernel_rfl
 | 1,_=>show _=_;kernel_rfl
 | 2,_=>show _=_;kernel_rfl
 | 3,_=>show _=_;kernel_rfl
 | 4,_=>show _=_;kernel_rfl
 | 5,_=>show _=_;kernel_rfl
 | 6,_=>show _=_;kernel_rfl
 | 7,_=>show _=_;kernel_rfl
theorem eq_ll (w:World):(Op.equalIn 10000 219 (.agg #[.int .i64 (-1),.int .i64 0]) (.agg #[.int .i64 (-1),.int .i64 0])).run Tryz.prog w=.ok true w:=by kernel_rfl
theorem eq_lf (w:World):(Op.equalIn 10000 219 (.agg #[.int .i64 (-1),.int .i64 0]) (.agg #[.int .i64 8,.int .i64 0])).run Tryz.prog w=.ok false w:=by kernel_rfl
theorem eq_fl (w:World):(Op.equalIn 10000 219 (.agg #[.int .i64 8,.int .i64 0]) (.agg #[.int .i64 (-1),.int .i64 0])).run Tryz.prog w=.ok false w:=by kernel_rfl
theorem eq_ff (w:World):(Op.equalIn 10000 219 (.agg #[.int .i64 8,.int .i64 0]) (.agg #[.int .i64 8,.int .i64 0])).run Tryz.prog w=.ok true w:=by kernel_rfl
theorem right_late (w:World):Calls Tryz.prog 240 #[.agg #[.int .i64 (-1),.int .i64 0]] w fun e w'=>e=.returned (.bool true)∧Below w.heap.size w w':=right_core eq_ll eq_lf (q:=false) (by decide) (fun h=>by cases h) w
theorem right_far (w:World):Calls Tryz.prog 240 #[.agg #[.int .i64 8,.int .i64 0]] w fun e w'=>e=.returned (.bool true)∧Below w.heap.size w w':=right_core eq_fl eq_ff (q:=false) (by decide) (fun h=>by cases h) w
theorem right_slot {l s:Nat} (hl:l<8) (h1:1≤s) (hs:s<64) (w:World):Calls Tryz.prog 240 #[.agg #[.int .i64 l,.int .i64 s]] w fun e w'=>e=.returned (.bool true)∧Below w.heap.size w w':=
 right_core eq_late (eq_far hl) (q:=true) (by simp;omega) (fun h=>by simp;omega) w
theorem digit_any (n l:Nat) (hn:n<18446744073709551616) (hl:l<8) (w:World):Calls Tryz.prog 241 #[.int .u64 n,.int .i64 l] w fun e w'=>e=.returned (.int .i64 (n/64^l%64:Nat))∧Below w.heap.size w w':=by
 match l,hl with
 | 0,_=>have:=digit_0 n hn w;simpa using this
 | 1,_=>exact digit_1 n hn w
 | 2,_=>exact digit_2 n hn w
 | 3,_=>exact digit_3 n hn w
 | 4,_=>exact digit_4 n hn w
 | 5,_=>exact digit_5 n hn w
 | 6,_=>exact digit_6 n hn w
 | 7,_=>exact digit_7 n hn w
theorem mask_any (m:Nat) (hm:m<64) (w:World):Calls Tryz.prog 243 #[.int .i64 m] w fun e w'=>e=.returned (.int .u64 (2^m-1:Nat))∧w'=w:=mask_at m hm w
theorem span_late (b:Nat) (w:World):Calls Tryz.prog 175 #[.int .u64 b,.agg #[.int .i64 (-1),.int .i64 0]] w fun e w'=>(∃z:Value,e=.returned (.tuple #[.int .u64 0,z,.bool true]))∧Below w.heap.size w w':=by
 have hX:=Blk.new w #[.int .i64 (-1),.int .i64 0] 219;have hB:Below w.heap.size w (w.alloc (.cells #[.int .i64 (-1),.int .i64 0] 219)):=(Below.refl _ w).alloc (Nat.le_refl _) _;have c0:(w.alloc (.cells #[.int .i64 (-1),.int .i64 0] 219)).cell? ⟨w.heap.size,0,none⟩=some (.int .i64 (-1)):=hX.cell 0 rfl;have c1:(w.alloc (.cells #[.int .i64 (-1),.int .i64 0] 219)).cell? ⟨w.heap.size,1,none⟩=some (.int .i64 0):=hX.cell 1 rfl;go_enter Tryz.func175,Tryz.ntmps175
 go_wp2_with (go_at_call 240;fail)
 refine(right_late _).mono ?_;rintro e w1 ⟨rfl,hb1⟩;have hX1:=hX.below hb1 hX.lt;have hB1:=hB.trans (hb1.mono hB.size);clear c0 c1;have k0:∀x:WX w1,x.w.cell? ⟨w.heap.size,0,none⟩=some (.int .i64 (-1)):=hX1.wx 0 rfl;have k1:∀x:WX w1,x.w.cell? ⟨w.heap.size,1,none⟩=some (.int .i64 0):=hX1.wx 1 rfl;have e1:=eq_ll;go_wp2;refine wp_region_grown (by kernel_rfl) (by kernel_rfl) ?_
 repeat (go_big_quiet_step (first|(go_at_call 172;exact WX.of (late_at _))))
 refine wpQuiet_nil ?_;intro w2 hb2;have hB2:=hB1.trans (hb2.mono hB1.size);clear k0 k1;go_wp2;refine bodyPost_ret (v:=.tuple #[.int .u64 0,.int .u64 b,.bool true]) ?_ rfl ⟨⟨_,rfl⟩,hB2⟩;simp[results,Tryz.results175,go_sem]
theorem span_far {b q:Nat} (hq:b/281474976710656=q) (hb:q<65535) (w:World):Calls Tryz.prog 175 #[.int .u64 b,.agg #[.int .i64 8,.int .i64 0]] w fun e w'=>(∃z:Value,e=.returned (.tuple #[.int .u64 ((q+1)*281474976710656:Nat),z,.bool true]))∧Below w.heap.size w w':=by
 have hX:=Blk.new w #[.int .i64 8,.int .i64 0] 219;have hB:Below w.heap.size w (w.alloc (.cells #[.int .i64 8,.int .i64 0] 219)):=(Below.refl _ w).alloc (Nat.le_refl _) _;have c0:(w.alloc (.cells #[.int .i64 8,.int .i64 0] 219)).cell? ⟨w.heap.size,0,none⟩=some (.int .i64 8):=hX.cell 0 rfl;have c1:(w.alloc (.cells #[.int .i64 8,.int .i64 0] 219)).cell? ⟨w.heap.size,1,none⟩=some (.int .i64 0):=hX.cell 1 rfl
 have g1:(b:Int)/281474976710656=(q:Int):=by rw[←hq];rfl
 have g2:IntKind.u64.wrap ((q:Int)+1)=((q+1:Nat):Int):=IntWalk.u64_in _ ⟨by omega,by omega⟩;obtain⟨F,hF⟩:∃F,F=(q+1)*281474976710656:=⟨_,rfl⟩
 have g3:IntKind.u64.wrap (((q:Int)+1)*281474976710656)=(F:Int):=by rw[IntWalk.u64_in _ ⟨by omega,by omega⟩,hF];omega
 have g4:((F:Int)==0)=false:=by simp;omega
 rw[←hF];clear hF hq;go_enter Tryz.func175,Tryz.ntmps175
 go_wp2_with (go_at_call 240;fail)
 refine(right_far _).mono ?_;rintro e w1 ⟨rfl,hb1⟩;have hX1:=hX.below hb1 hX.lt;have hB1:=hB.trans (hb1.mono hB.size);clear c0 c1;have k0:∀x:WX w1,x.w.cell? ⟨w.heap.size,0,none⟩=some (.int .i64 8):=hX1.wx 0 rfl;have k1:∀x:WX w1,x.w.cell? ⟨w.heap.size,1,none⟩=some (.int .i64 0):=hX1.wx 1 rfl;have e1:=eq_fl;have e2:=eq_ff;go_wp2;refine wp_region_grown (by kernel_rfl) (by kernel_rfl) ?_
 repeat (go_big_quiet_step (first|(go_at_call 172;exact WX.of (late_at _))))
 refine wpQuiet_nil ?_;intro w2 hb2;have hX2:=hX1.below hb2 hX1.lt;have hB2:=hB1.trans (hb2.mono hB1.size);clear k0 k1;have k0:∀x:WX w2,x.w.cell? ⟨w.heap.size,0,none⟩=some (.int .i64 8):=hX2.wx 0 rfl;have k1:∀x:WX w2,x.w.cell? ⟨w.heap.size,1,none⟩=some (.int .i64 0):=hX2.wx 1 rfl;go_wp2;refine wp_region_grown (by kernel_rfl) (by kernel_rfl) ?_
 repeat (go_big_quiet_step (first|(go_at_call 174;exact WX.of (far_at _))))
 refine wpQuiet_nil ?_;intro w3 hb3;have hB3:=hB2.trans (hb3.mono hB2.size);clear k0 k1;go_wp2;refine bodyPost_ret (v:=.tuple #[.int .u64 F,.int .u64 18446744073709551615,.bool true]) ?_ rfl ⟨⟨_,rfl⟩,hB3⟩;simp[results,Tryz.results175,go_sem]
theorem span_slot {b l s:Nat} (hb:b<18446744073709551616) (hl:l<8) (hs:s<64) (hd:b/64^l%64<s) (w:World):Calls Tryz.prog 175 #[.int .u64 b,.agg #[.int .i64 l,.int .i64 s]] w fun e w'=>(∃z:Value,e=.returned (.tuple #[.int .u64 (b/64^(l+1)*64^(l+1)+s*64^l:Nat),z,.bool true]))∧Below w.heap.size w w':=by
 have hX:=Blk.new w #[.int .i64 l,.int .i64 s] 219;have hB:Below w.heap.size w (w.alloc (.cells #[.int .i64 l,.int .i64 s] 219)):=(Below.refl _ w).alloc (Nat.le_refl _) _;have c0:(w.alloc (.cells #[.int .i64 l,.int .i64 s] 219)).cell? ⟨w.heap.size,0,none⟩=some (.int .i64 l):=hX.cell 0 rfl;have c1:(w.alloc (.cells #[.int .i64 l,.int .i64 s] 219)).cell? ⟨w.heap.size,1,none⟩=some (.int .i64 s):=hX.cell 1 rfl;have hdg:=digit_any b l hb hl;have hwt:=with_at b l s hb hl hs;obtain⟨m,hm⟩:∃m,m=6*l:=⟨_,rfl⟩;have hmk:=mask_any m (by omega);generalize b/64^(l+1)*64^(l+1)+s*64^l=F at *;generalize b/64^l%64=dg at *;generalize 2^m-1=mk at *
 have g1:(6:Int)*(l:Int)=(m:Int):=by omega
 have g2:IntKind.i64.wrap (m:Int)=(m:Int):=IntWalk.i64_in _ ⟨by omega,by omega⟩
 have g3:decide ((s:Int)≤(dg:Int))=false:=by simp;omega
 have g4:decide (s≤dg)=false:=by simp;omega
 have e1:=fun w=>eq_late (l:=l) (s:=s) w;have e2:=fun w=>eq_far (l:=l) (s:=s) hl w;have hrt:=right_slot hl (show 1≤s by omega) hs;clear hm hd;go_enter Tryz.func175,Tryz.ntmps175
 go_wp2_with (go_at_call 240;fail)
 refine(hrt _).mono ?_;rintro e w1 ⟨rfl,hb1⟩;have hX1:=hX.below hb1 hX.lt;have hB1:=hB.trans (hb1.mono hB.size);clear c0 c1;have k0:∀x:WX w1,x.w.cell? ⟨w.heap.size,0,none⟩=some (.int .i64 l):=hX1.wx 0 rfl;have k1:∀x:WX w1,x.w.cell? ⟨w.heap.size,1,none⟩=some (.int .i64 s):=hX1.wx 1 rfl;go_wp2;refine wp_region_grown (by kernel_rfl) (by kernel_rfl) ?_
 repeat (go_big_quiet_step (first|(go_at_call 172;exact WX.of (late_at _))))
 refine wpQuiet_nil ?_;intro w2 hb2;have hX2:=hX1.below hb2 hX1.lt;have hB2:=hB1.trans (hb2.mono hB1.size);clear k0 k1;have k0:∀x:WX w2,x.w.cell? ⟨w.heap.size,0,none⟩=some (.int .i64 l):=hX2.wx 0 rfl;have k1:∀x:WX w2,x.w.cell? ⟨w.heap.size,1,none⟩=some (.int .i64 s):=hX2.wx 1 rfl;go_wp2;refine wp_region_grown (by kernel_rfl) (by kernel_rfl) ?_
 repeat (go_big_quiet_step (first|(go_at_call 174;exact WX.of (far_at _))))
 refine wpQuiet_nil ?_;intro w3 hb3;have hX3:=hX2.below hb3 hX2.lt;have hB3:=hB2.trans (hb3.mono hB2.size);clear k0 k1;have k0:∀x:WX w3,x.w.cell? ⟨w.heap.size,0,none⟩=some (.int .i64 l):=hX3.wx 0 rfl;have k1:∀x:WX w3,x.w.cell? ⟨w.heap.size,1,none⟩=some (.int .i64 s):=hX3.wx 1 rfl;go_wp2;refine wp_region_grown (by kernel_rfl) (by kernel_rfl) ?_
 repeat (go_big_quiet_step (first|(go_at_call 241;exact WX.of (hdg _))))
 refine wpQuiet_nil ?_;intro w4 hb4;have hX4:=hX3.below hb4 hX3.lt;have hB4:=hB3.trans (hb4.mono hB3.size);clear k0 k1;have c0:w4.cell? ⟨w.heap.size,0,none⟩=some (.int .i64 l):=hX4.cell 0 rfl;have c1:w4.cell? ⟨w.heap.size,1,none⟩=some (.int .i64 s):=hX4.cell 1 rfl
 go_wp2_with (go_at_call 242;fail)
 refine(hwt _).mono ?_;rintro e w5 ⟨rfl,hb5⟩;have hX5:=hX4.below hb5 hX4.lt;have hB5:=hB4.trans (hb5.mono hB4.size);clear c0 c1;have c0:w5.cell? ⟨w.heap.size,0,none⟩=some (.int .i64 l):=hX5.cell 0 rfl
 go_wp2_with (go_at_call 243;refine(hmk _).mono ?_;rintro e w6 ⟨rfl,rfl⟩)
 refine bodyPost_ret (v:=.tuple #[.int .u64 F,.int .u64 (bits BinOp.or .u64 (F:Int) (mk:Int)),.bool true]) ?_ rfl ⟨⟨_,rfl⟩,hB5⟩;simp[results,Tryz.results175,go_sem]
theorem span_any {b f:Nat} {k:Int×Int} (h:Sp b k f) (hb:b<18446462598732840960) (w:World):Calls Tryz.prog 175 #[.int .u64 b,.agg #[.int .i64 k.1,.int .i64 k.2]] w fun e w'=>(∃z:Value,e=.returned (.tuple #[.int .u64 f,z,.bool true]))∧Below w.heap.size w w':=by
 cases h with
 |late=>exact span_late b w
 |far=>exact span_far rfl (by omega) w
 |slot l s hl hs hd=>exact span_slot (by omega) hl hs hd w
theorem touched_any {b f tt:Nat} {k:Int×Int} (h:Sp b k f) (hb:b<18446462598732840960) (w:World):Calls Tryz.prog 108 #[.int .u64 b,.int .u64 tt,.agg #[.int .i64 k.1,.int .i64 k.2]] w fun e w'=>e=.returned (.bool (decide (f≤tt)))∧Below w.heap.size w w':=by
 have hX:=Blk.new w #[.int .i64 k.1,.int .i64 k.2] 219;have hB:Below w.heap.size w (w.alloc (.cells #[.int .i64 k.1,.int .i64 k.2] 219)):=(Below.refl _ w).alloc (Nat.le_refl _) _;have hsp:=span_any h hb;clear h;obtain⟨k1,k2⟩:=k;have c0:(w.alloc (.cells #[.int .i64 k1,.int .i64 k2] 219)).cell? ⟨w.heap.size,0,none⟩=some (.int .i64 k1):=hX.cell 0 rfl;have c1:(w.alloc (.cells #[.int .i64 k1,.int .i64 k2] 219)).cell? ⟨w.heap.size,1,none⟩=some (.int .i64 k2):=hX.cell 1 rfl
 have hde:decide ((f:Int)≤(tt:Int))=decide (f≤tt):=by
  congr 1;apply propext;omega
 obtain⟨q,hq⟩:∃q,q=decide (f≤tt):=⟨_,rfl⟩;rw[←hq] at hde ⊢;have hde2:decide (f≤tt)=q:=hq.symm;clear hq;go_enter Tryz.func108,Tryz.ntmps108
 go_wp2_with (go_at_call 175;fail)
 refine(hsp _).mono ?_;rintro e w1 ⟨⟨z,rfl⟩,hb1⟩;go_wp2;refine bodyPost_ret (v:=.bool q) ?_ rfl ⟨rfl,hB.trans (hb1.mono hB.size)⟩;simp[results,Tryz.results108,go_sem]
def hCells (p:PS) (l:List Nat):List Value:=l.map fun a=>.int .u64 ((hN p a:Nat):Int)
theorem hCells_app (p:PS) (l l':List Nat):hCells p (l++l')=hCells p l++hCells p l':=by
 unfold hCells;rw[List.map_append]
theorem rows_keep {X:Nat→Prop} {w w':World} {base:Nat} {e:TypeId} {size n:Nat} {v:Value} {xs:List Value} (h:w.ownsRow base e size v n xs) (ht:Tch X w w') (hx:∀k,X k→base≤k→w.heap.size≤k):w'.ownsRow base e size v n xs:=by
 refine⟨h.1,?_⟩;rcases h.2 with h1|⟨g,cap,cur,h1,h2,h3,h4⟩
 ·exact .inl h1
 ·have hl:=(Array.getElem?_eq_some_iff.1 h3).1
  exact .inr ⟨g,cap,cur,h1,h2,(ht.block _ hl (fun e=>by have:=hx g e h2;omega)).trans h3,h4⟩
def Kept (E:TypeId) (n0:Nat) (w w':World):Prop:=∀(g:Nat) (cur:Array Value) (T:TypeId),T≠E→n0≤g→w.heap[g]?=some (.cells cur T (0,0))→w'.heap[g]?=some (.cells cur T (0,0))
theorem Kept.refl (E:TypeId) (n0:Nat) (w:World):Kept E n0 w w:=fun _ _ _ _ _ h=>h
theorem Kept.trans {E:TypeId} {n0:Nat} {w w1 w2:World} (h:Kept E n0 w w1) (h':Kept E n0 w1 w2):Kept E n0 w w2:=fun g cur T a b c=>h' g cur T a b (h g cur T a b c)
theorem Kept.tch {E:TypeId} {X:Nat→Prop} {n0:Nat} {w w':World} (ht:Tch X w w') (hx:∀k,X k→n0≤k→w.heap.size≤k):Kept E n0 w w':=fun g cur T _ b c=>by
 have hl:=(Array.getElem?_eq_some_iff.1 c).1;exact(ht.block _ hl (fun e=>by have:=hx g e b;omega)).trans c
theorem Kept.grown {E:TypeId} {n0 base n size:Nat} {w w':World} {v:Value} {xs:List Value} (h:w.ownsRow base E size v n xs) (hg:w.grownBy w' v.ownBlock):Kept E n0 w w':=fun g cur T hT _ c=>by
 refine(hg.block g (Array.getElem?_eq_some_iff.1 c).1 (fun e=>?_)).trans c;rcases h.2 with⟨rfl,_⟩|⟨g2,cap,cur2,rfl,_,hgb,_⟩
 ·cases e
 ·have:g=g2:=by simpa[Value.ownBlock] using e
  subst this;rw[c] at hgb;cases hgb;exact hT rfl
theorem Kept.blk {E:TypeId} {n0:Nat} {w w':World} (h:Kept E n0 w w') {x:Nat} {vs:Array Value} {T:TypeId} (hT:T≠E) (hx:n0≤x) (hb:Blk w x vs T):Blk w' x vs T:=h x vs T hT hx hb
theorem row_cell {w:World} {base n:Nat} {e:TypeId} {v:Value} {xs:List Value} (h:w.ownsRow base e 1 v n xs):∃(p:Option Addr) (c:Nat),v=.slice p n c∧∀(m:Nat) (u:Value),xs[m]?=some u→∃(g:Nat) (cur:Array Value),p=some ⟨g,0,none⟩∧base≤g∧w.heap[g]?=some (.cells cur e (0,0))∧cur[m]?=some u:=by
 have hxl:=h.1;rcases h.2 with⟨rfl,h0⟩|⟨g,cap,cur,rfl,hb,hgb,_,_,hcs,htk⟩
 ·exact⟨none,0,by rw[h0],fun m u hm=>by have:=(List.getElem?_eq_some_iff.1 hm).1;omega⟩
 ·refine⟨_,_,rfl,fun m u hm=>⟨g,cur,rfl,hb,hgb,?_⟩⟩
  have hml:=(List.getElem?_eq_some_iff.1 hm).1;rw[hxl] at hml;rw[←htk,List.getElem?_take_of_lt hml] at hm;simpa using hm
theorem row_le {w:World} {base size n:Nat} {e:TypeId} {v:Value} {xs:List Value} (h:w.ownsRow base e size v n xs):n<9223372036854775808:=by
 rcases h.2 with⟨_,h0⟩|⟨_,cap,_,_,_,_,h1,h2,_⟩
 ·omega
 ·unfold maxLen at h2
  omega
theorem row_pair {w:World} {base:Nat} {e:TypeId} {v:Value} {K:List (Int×Int)} (h:w.ownsRow base e 2 v K.length (keyCells K)):∃(p:Option Addr) (c:Nat),v=.slice p K.length c∧∀(j:Nat) (k:Int×Int),K[j]?=some k→∃(g:Nat) (cur:Array Value),p=some ⟨g,0,none⟩∧base≤g∧w.heap[g]?=some (.cells cur e (0,0))∧cur[j*2]?=some (.int .i64 k.1)∧cur[j*2+1]?=some (.int .i64 k.2):=by
 have hcells:∀(K:List (Int×Int)) (j:Nat) (k:Int×Int),K[j]?=some k→(keyCells K)[j*2]?=some (.int .i64 k.1)∧(keyCells K)[j*2+1]?=some (.int .i64 k.2):=by
  intro K
  induction K with
  |nil=>intro j k hj;cases hj
  |cons x l ih=>
    intro j k hj
    cases j with
    |zero=>cases hj;exact⟨rfl,rfl⟩
    |succ j=>
      obtain⟨p1,p2⟩:=ih j k hj
      have hx:keyCells (x::l)=[.int .i64 x.1,.int .i64 x.2]++keyCells l:=by unfold keyCells;simp
      rw[hx,show (j+1)*2=j*2+2 from by omega];exact⟨p1,p2⟩
 have hxl:=h.1;rcases h.2 with⟨rfl,h0⟩|⟨g,cap,cur,rfl,hb,hgb,_,_,hcs,htk⟩
 ·exact⟨none,0,by rw[h0],fun j k hj=>by have:=(List.getElem?_eq_some_iff.1 hj).1;omega⟩
 ·refine⟨_,_,rfl,fun j k hj=>?_⟩
  obtain⟨p1,p2⟩:=hcells K j k hj
  have hcu:∀(m:Nat) (u:Value),(keyCells K)[m]?=some u→cur[m]?=some u:=fun m u hm=>by
   have hml:=(List.getElem?_eq_some_iff.1 hm).1;rw[hxl] at hml;rw[←htk,List.getElem?_take_of_lt hml] at hm;simpa using hm
  exact⟨g,cur,rfl,hb,hgb,hcu _ _ p1,hcu _ _ p2⟩
theorem WheelAt.chainT2 {B:WB} {S:WS} {w w':World} (h:WheelAt B S w) {C:CS} {n:Nat} (hn:w.heap.size≤n) (ht:Tch (fun r=>B.c.own r∨n≤r) w w') (hp:ChainAt B.c C w'):WheelAt B { S with c:=C } w':=by
 obtain⟨⟨a1,a2,a3,a4,a5,a6,a7⟩,⟨b1,b2,b3⟩,⟨c1,c2,c3⟩,⟨d1,d2,d3⟩,e1,e2,e3⟩:=h.apart;obtain⟨l0,⟨l1,l2,l3,l4⟩,l5,l6,l7⟩:=h.lt;have k1:w'.heap[B.b]?=w.heap[B.b]?:=ht.block _ l0 (by rintro ((e|e)|e);exact a6 e;exact a7 e;omega);refine⟨k1.trans h.blk,h.pool.tch ht ?_ ?_ ?_ ?_,hp,h.ne1,h.ne2⟩
 ·rintro ((e|e)|e);exact b2 e;exact b3 e;omega
 ·rintro ((e|e)|e);exact c2 e;exact c3 e;omega
 ·rintro ((e|e)|e);exact d2 e;exact d3 e;omega
 ·rintro ((e|e)|e);exact e2 e;exact e3 e;omega
section
variable {B:WB} {S:WS} {ls:Int×Int→List Nat}
theorem keyLt.ne {k k':Int×Int} (h:keyLt k k'):k≠k':=by
 rintro rfl;unfold keyLt at h;omega
theorem flat_nodup (h:ChainOk S.c ls B.c.room):∀ {K:List (Int×Int)},K.Pairwise keyLt→(K.flatMap ls).Nodup
 | [],_=>List.nodup_nil
 |k::K,hp=>by
   rw[List.flatMap_cons,List.nodup_append];rw[List.pairwise_cons] at hp;refine⟨h.nodup k,flat_nodup h hp.2,fun a ha b hb e=>?_⟩;subst e;obtain⟨k',hk',hb'⟩:=List.mem_flatMap.1 hb;exact(hp.1 k' hk').ne (h.disj k k' a ha hb')
theorem flat_len (h:ChainOk S.c ls B.c.room) (hr:B.c.room≤64) {K:List (Int×Int)} (hp:K.Pairwise keyLt):(K.flatMap ls).length≤64:=
 Nat.le_trans (nodup_le (flat_nodup h hp) (fun a ha=>by obtain⟨k,_,hk⟩:=List.mem_flatMap.1 ha;exact h.lt k a hk)) hr
theorem Taken.stop {K:List (Int×Int)} {j:Nat} {S':WS} {tt:Nat} (h:Taken B S ls K j S') (hb:S.base≤tt) (hr:∀k',(if k'∈K.take j then[] else ls k')≠[]→∃f',Sp S.base k' f'∧tt<f') :
 ∃l1,WMid B { S' with base:=tt } l1 tt (fun x=>x∈(K.take j).flatMap ls)∧∀a t,S.p.ent a=some t→t.d≤tt→a∈(K.take j).flatMap ls:=by
 have hM:∀x,(∃k∈K.take j,x∈ls k)↔x∈(K.take j).flatMap ls:=fun x=>by rw[List.mem_flatMap]
 have h1:=(h.mid.base hb hr).congr (fun k=>rfl) (fun x=>(hM x).symm);refine⟨_,⟨⟨h1.ok.ch,h1.ok.live,h1.ok.m,h1.ok.room⟩,h1.pl,h1.all,h1.out,h1.bits⟩,fun a t ha hd=>?_⟩;rcases h.mid.all a t (by rw[h.p];exact ha) with h2|h2
 ·exact(hM a).1 h2
 ·obtain⟨f,hf,hlt⟩:=hr _ (by intro e;rw[e] at h2;cases h2)
  obtain⟨t',ht',hp⟩:=h.mid.pl _ a h2;rw[h.p,ha] at ht';cases ht';obtain⟨f2,hf2,hle⟩:=hp.span;have e:=hf.uniq hf2;subst e;omega
end
def PS.tm (p:PS) (a:Nat):Tm:=(p.ent a).getD ⟨0,0,0⟩
theorem PS.tm_eq {p:PS} {a:Nat} {t:Tm} (h:p.ent a=some t):p.tm a=t:=by
 unfold PS.tm;rw[h];rfl
def PS.due (p:PS) (now:Nat) (a:Nat):Bool:=decide ((p.tm a).d≤now)
def foundC (p:PS) (a:Nat):List Value:=[.int .u64 ((hN p a:Nat):Int),.int .u64 ((p.tm a).d:Int),.int .u64 ((p.tm a).p:Int),.int .u64 ((p.tm a).o:Int)]
def foundCells (p:PS) (l:List Nat):List Value:=l.flatMap (foundC p)
theorem foundCells_app (p:PS) (l l':List Nat):foundCells p (l++l')=foundCells p l++foundCells p l':=by
 unfold foundCells;rw[List.flatMap_append]
structure Held (B:WB) (p:PS) (o tt now:Nat) (A:List Nat) (i:Nat) (S:WS) (l:Int×Int→List Nat):Prop where
 mid:WMid B S l tt (fun x=>(x∈A.take i∧p.due now x=true)∨x∈A.drop i)
 p:S.p=p
 base:S.base=tt
 order:S.order=o
section
variable {B:WB} {S:WS} {l:Int×Int→List Nat} {p:PS} {o tt now i a:Nat} {A:List Nat}
theorem Held.zero (h:WMid B S l tt (fun x=>x∈A)) (hp:S.p=p) (hb:S.base=tt) (ho:S.order=o):Held B p o tt now A 0 S l:=
 ⟨h.congr (fun _=>rfl) (fun x=>by simp),hp,hb,ho⟩
theorem drop_at (ha:A[i]?=some a):A.drop i=a::A.drop (i+1):=by
 obtain⟨h1,h2⟩:=List.getElem?_eq_some_iff.1 ha;rw[List.drop_eq_getElem_cons h1,h2]
theorem take_at_ (ha:A[i]?=some a):A.take (i+1)=A.take i++[a]:=by
 rw[List.take_add_one,ha,Option.toList_some]
theorem Held.keep (h:Held B p o tt now A i S l) (ha:A[i]?=some a) (hd:p.due now a=true):Held B p o tt now A (i+1) S l:=
 ⟨h.mid.congr (fun _=>rfl) (fun x=>by
  rw[drop_at ha,take_at_ ha];simp only[List.mem_append,List.mem_cons,List.not_mem_nil,or_false];constructor
  ·rintro (⟨h1|rfl,h2⟩|h1)
   ·exact .inl ⟨h1,h2⟩
   ·exact .inr (.inl rfl)
   ·exact .inr (.inr h1)
  ·rintro (⟨h1,h2⟩|rfl|h1)
   ·exact .inl ⟨.inl h1,h2⟩
   ·exact .inl ⟨.inr rfl,hd⟩
   ·exact .inr h1),h.p,h.base,h.order⟩
theorem Held.live (h:Held B p o tt now A i S l) (ha:A[i]?=some a):LiveAt p a (p.tm a)∧(p.tm a).d<18446744073709551616:=by
 obtain⟨_,_,t,hL,hd⟩:=h.mid.out a (.inr (by rw[drop_at ha];simp));rw[h.p] at hL;rw[PS.tm_eq hL.ent];exact⟨hL,hd⟩
theorem Held.push (h:Held B p o tt now A i S l) (hn:A.Nodup) (ha:A[i]?=some a) (hd:p.due now a=false) :
 PushOk S.c B.c.room (placeOf S.base (p.tm a).d) a∧Held B p o tt now A (i+1) { S with c:=S.c.push (placeOf S.base (p.tm a).d) a,m:=occSet S.m (placeOf S.base (p.tm a).d) } (fset l (placeOf tt (p.tm a).d) (l (placeOf tt (p.tm a).d)++[a])):=by
 have hL:=(h.live ha).1;obtain⟨h1,h2⟩:=h.mid.push h.base (a:=a) (.inr (by rw[drop_at ha];simp)) (t:=p.tm a) (by rw[h.p];exact hL.ent)
 have hnd:a∉A.take i∧a∉A.drop (i+1):=by
  have hA:A=A.take i++a::A.drop (i+1):=by rw[←drop_at ha,List.take_append_drop]
  rw[hA,List.nodup_append] at hn;refine⟨fun hm=>hn.2.2 a hm a (by simp) rfl,?_⟩;have:=hn.2.1;rw[List.nodup_cons] at this;exact this.1
 refine⟨h1,h2.congr (fun _=>rfl) (fun x=>?_),h.p,h.base,h.order⟩;rw[drop_at ha,take_at_ ha];simp only[List.mem_append,List.mem_cons,List.not_mem_nil,or_false];constructor
 ·rintro (⟨q1|q1,q2⟩|q1)
  ·exact⟨.inl ⟨q1,q2⟩,fun e=>hnd.1 (e ▸ q1)⟩
  ·rw[q1,hd] at q2;cases q2
  ·exact⟨.inr (.inr q1),fun e=>hnd.2 (e ▸ q1)⟩
 ·rintro ⟨⟨h1,h2⟩|rfl|h1,h3⟩
  ·exact .inl ⟨.inl h1,h2⟩
  ·exact absurd rfl h3
  ·exact .inr h1
theorem Held.last (h:Held B p o tt now A A.length S l):WMid B S l tt (fun x=>x∈A.filter (p.due now)):=
 h.mid.congr (fun _=>rfl) (fun x=>by simp)
theorem under224:Tryz.prog.underlying 224=some (.slice 230):=by kernel_rfl
theorem four_new (w:World) (t:TypeId) (a b c d:Value):∀j u,[a,b,c,d][j]?=some u→(w.alloc (.cells #[a,b,c,d] t)).cell? ((⟨w.heap.size,0,none⟩:Addr).add j)=some u:=by
 intro j u hj;have hX:=Blk.new w #[a,b,c,d] t
 match j,hj with
 | 0,hj=>simp at hj;subst hj;exact hX.cell 0 rfl
 | 1,hj=>simp at hj;subst hj;exact hX.cell 1 rfl
 | 2,hj=>simp at hj;subst hj;exact hX.cell 2 rfl
 | 3,hj=>simp at hj;subst hj;exact hX.cell 3 rfl
theorem four_ok (a b c d:Int):∀u∈[Value.int .u64 a,Value.int .u64 b,Value.int .u64 c,Value.int .u64 d],u.oneCell'=true:=by
 intro u hu;simp at hu
 rcases hu with rfl|rfl|rfl|rfl<;>rfl
theorem info230:(Tryz.prog.info? 230).map (fun i=>(i.zero,i.size,i.bytes))=some (some (.agg #[.int .u64 0,.int .u64 0,.int .u64 0,.int .u64 0]),4,32):=by kernel_rfl
theorem filter_snoc_true (ha:A[i]?=some a) (hd:p.due now a=true):(A.take (i+1)).filter (p.due now)=(A.take i).filter (p.due now)++[a]:=by
 rw[take_at_ ha,List.filter_append];simp[hd]
theorem filter_snoc_false (ha:A[i]?=some a) (hd:p.due now a=false):(A.take (i+1)).filter (p.due now)=(A.take i).filter (p.due now):=by
 rw[take_at_ ha,List.filter_append];simp[hd]
end
end Go.Proofs.YtkndlfdpmpdihaaGreatDoor
namespace Go.Proofs
open Go.Shelf
def Tryz.sortRg_ren:Go.Shelf.Ren:=⟨fun | 6=>195 | 15=>184 | 14=>263 | 28=>257 | 29=>258 | 20=>311 | 21=>312 | 22=>313 | 23=>314 | 24=>315 | 25=>316 | 26=>317 | 27=>318 | 46=>354 | 47=>306 | 48=>307 | 49=>355 | 50=>356 | 57=>384|n=>n,fun | 22=>255 | 24=>177 | 25=>349 | 3=>3 | 39=>259 | 0=>0 | 53=>22 | 55=>37 | 4=>4 | 46=>393 | 45=>392 | 50=>397 | 5=>5 | 9=>9 | 66=>437 | 70=>361 | 76=>480 | 77=>335|n=>n,fun|n=>n⟩
theorem Tryz.sortRg:Go.Proofs.SlLaysF0.n6 Tryz.prog Tryz.sortRg_ren:={
 mixed:=by kernel_rfl
 f6:=⟨Tryz.f195.name,by decide,Tryz.func195.trans (congrArg some (by kernel_rfl))⟩
 f14:=⟨Tryz.f263.name,by decide,Tryz.func263.trans (congrArg some (by kernel_rfl))⟩
 f15:=Tryz.func184.trans (congrArg some (by kernel_rfl))
 f20:=⟨Tryz.f311.name,by decide,Tryz.func311.trans (congrArg some (by kernel_rfl))⟩
 f21:=⟨Tryz.f312.name,by decide,Tryz.func312.trans (congrArg some (by kernel_rfl))⟩
 f22:=⟨Tryz.f313.name,by decide,Tryz.func313.trans (congrArg some (by kernel_rfl))⟩
 f23:=⟨Tryz.f314.name,by decide,Tryz.func314.trans (congrArg some (by kernel_rfl))⟩
 f24:=⟨Tryz.f315.name,by decide,Tryz.func315.trans (congrArg some (by kernel_rfl))⟩
 f25:=⟨Tryz.f316.name,by decide,Tryz.func316.trans (congrArg some (by kernel_rfl))⟩
 f26:=⟨Tryz.f317.name,by decide,Tryz.func317.trans (congrArg some (by kernel_rfl))⟩
 f27:=⟨Tryz.f318.name,by decide,Tryz.func318.trans (congrArg some (by kernel_rfl))⟩
 f28:=Tryz.func257.trans (congrArg some (by kernel_rfl))
 f29:=Tryz.func258.trans (congrArg some (by kernel_rfl))
 f46:=⟨Tryz.f354.name,by decide,Tryz.func354.trans (congrArg some (by kernel_rfl))⟩
 f47:=Tryz.func306.trans (congrArg some (by kernel_rfl))
 f48:=Tryz.func307.trans (congrArg some (by kernel_rfl))
 f49:=⟨Tryz.f355.name,by decide,Tryz.func355.trans (congrArg some (by kernel_rfl))⟩
 f50:=⟨Tryz.f356.name,by decide,Tryz.func356.trans (congrArg some (by kernel_rfl))⟩
 f57:=⟨Tryz.f384.name,by decide,Tryz.func384.trans (congrArg some (by kernel_rfl))⟩
 t0:=Tryz.underlying0
 a0:=Tryz.isAgg0
 z0:=Tryz.sizeOf0
 v0:=Tryz.zeroValue0
 t3:=Tryz.underlying3
 a3:=Tryz.isAgg3
 z3:=Tryz.sizeOf3
 v3:=Tryz.zeroValue3
 t4:=Tryz.underlying4
 a4:=Tryz.isAgg4
 z4:=Tryz.sizeOf4
 v4:=Tryz.zeroValue4
 t5:=Tryz.underlying5
 a5:=Tryz.isAgg5
 z5:=Tryz.sizeOf5
 v5:=Tryz.zeroValue5
 t9:=Tryz.underlying9
 a9:=Tryz.isAgg9
 z9:=Tryz.sizeOf9
 v9:=Tryz.zeroValue9
 t22:=Tryz.underlying255
 a22:=Tryz.isAgg255
 z22:=Tryz.sizeOf255
 v22:=Tryz.zeroValue255
 t25:=Tryz.underlying349
 a25:=Tryz.isAgg349
 z25:=Tryz.sizeOf349
 v25:=Tryz.zeroValue349
 t39:=Tryz.underlying259
 a39:=Tryz.isAgg259
 z39:=Tryz.sizeOf259
 v39:=Tryz.zeroValue259
 t45:=Tryz.underlying392
 a45:=Tryz.isAgg392
 z45:=Tryz.sizeOf392
 v45:=Tryz.zeroValue392
 t46:=Tryz.underlying393
 a46:=Tryz.isAgg393
 z46:=Tryz.sizeOf393
 v46:=Tryz.zeroValue393
 t50:=Tryz.underlying397
 a50:=Tryz.isAgg397
 z50:=Tryz.sizeOf397
 v50:=Tryz.zeroValue397
 t53:=Tryz.underlying22
 a53:=Tryz.isAgg22
 z53:=Tryz.sizeOf22
 v53:=Tryz.zeroValue22
 t55:=Tryz.underlying37
 a55:=Tryz.isAgg37
 z55:=Tryz.sizeOf37
 v55:=Tryz.zeroValue37
 t66:=Tryz.underlying437
 a66:=Tryz.isAgg437
 z66:=Tryz.sizeOf437
 v66:=Tryz.zeroValue437
 t70:=Tryz.underlying361
 a70:=Tryz.isAgg361
 z70:=Tryz.sizeOf361
 v70:=Tryz.zeroValue361
 t76:=Tryz.underlying480
 a76:=Tryz.isAgg480
 z76:=Tryz.sizeOf480
 v76:=Tryz.zeroValue480
 t77:=Tryz.underlying335
 a77:=Tryz.isAgg335
 z77:=Tryz.sizeOf335
 v77:=Tryz.zeroValue335 }
def Tryz.bitsLen64_ren:Go.Shelf.Ren:=⟨fun | 129=>258|n=>n,fun | 53=>37 | 3=>3 | 4=>4 | 46=>259 | 5=>5 | 9=>9|n=>n,fun|n=>n⟩
theorem Tryz.bitsLen64:Go.Proofs.Lays.n129 Tryz.prog Tryz.bitsLen64_ren:={
 mixed:=by kernel_rfl
 f129:=Tryz.func258.trans (congrArg some (by kernel_rfl))
 t3:=Tryz.underlying3
 a3:=Tryz.isAgg3
 z3:=Tryz.sizeOf3
 v3:=Tryz.zeroValue3
 t4:=Tryz.underlying4
 a4:=Tryz.isAgg4
 z4:=Tryz.sizeOf4
 v4:=Tryz.zeroValue4
 t5:=Tryz.underlying5
 a5:=Tryz.isAgg5
 z5:=Tryz.sizeOf5
 v5:=Tryz.zeroValue5
 t9:=Tryz.underlying9
 a9:=Tryz.isAgg9
 z9:=Tryz.sizeOf9
 v9:=Tryz.zeroValue9
 t46:=Tryz.underlying259
 a46:=Tryz.isAgg259
 z46:=Tryz.sizeOf259
 v46:=Tryz.zeroValue259
 t53:=Tryz.underlying37
 a53:=Tryz.isAgg37
 z53:=Tryz.sizeOf37
 v53:=Tryz.zeroValue37 }
def Tryz.bitsLen_ren:Go.Shelf.Ren:=⟨fun | 125=>184 | 128=>257 | 129=>258|n=>n,fun | 46=>259 | 3=>3 | 51=>22 | 53=>37 | 4=>4 | 5=>5 | 9=>9|n=>n,fun|n=>n⟩
theorem Tryz.bitsLen:Go.Proofs.Lays.n125 Tryz.prog Tryz.bitsLen_ren:={
 mixed:=by kernel_rfl
 f125:=Tryz.func184.trans (congrArg some (by kernel_rfl))
 f128:=Tryz.func257.trans (congrArg some (by kernel_rfl))
 f129:=Tryz.func258.trans (congrArg some (by kernel_rfl))
 t3:=Tryz.underlying3
 a3:=Tryz.isAgg3
 z3:=Tryz.sizeOf3
 v3:=Tryz.zeroValue3
 t4:=Tryz.underlying4
 a4:=Tryz.isAgg4
 z4:=Tryz.sizeOf4
 v4:=Tryz.zeroValue4
 t5:=Tryz.underlying5
 a5:=Tryz.isAgg5
 z5:=Tryz.sizeOf5
 v5:=Tryz.zeroValue5
 t9:=Tryz.underlying9
 a9:=Tryz.isAgg9
 z9:=Tryz.sizeOf9
 v9:=Tryz.zeroValue9
 t46:=Tryz.underlying259
 a46:=Tryz.isAgg259
 z46:=Tryz.sizeOf259
 v46:=Tryz.zeroValue259
 t51:=Tryz.underlying22
 a51:=Tryz.isAgg22
 z51:=Tryz.sizeOf22
 v51:=Tryz.zeroValue22
 t53:=Tryz.underlying37
 a53:=Tryz.isAgg37
 z53:=Tryz.sizeOf37
 v53:=Tryz.zeroValue37 }
end Go.Proofs
