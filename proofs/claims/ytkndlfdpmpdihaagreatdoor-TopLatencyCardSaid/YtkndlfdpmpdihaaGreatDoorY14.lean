/- The wheel: a timer is at its place. The wheel: a timer has a deadline; a timer comes. The wheel: a place has lost a timer; a timer goes; how many there are. The wheel: a timer is cancelled; how many there are. The least of a row of numbers (slices.Min); the least deadline of a place. The least deadl Conditions: those that each statement shows. -/
import Derived.Test.YtkndlfdpmpdihaaGreatDoorY13
import Derived.Lib.MinMax
import Derived.Lib.Slices
import Derived.Lib.Walk
import Derived.OwnWalk
import Derived.Deep.LoopGhost
import Derived.Deep.CutRange
import Derived.Deep.DeepCutAuto
namespace Go.Proofs.YtkndlfdpmpdihaaGreatDoor
open Go.RowKit Go.Ev Go.Mv
set_option linter.unusedVariables false
set_option linter.unusedSimpArgs false
set_option maxRecDepth 100000
def CallE (T:World→Prop) (w2:World):Bool→World→Prop
 |false,w=>Below w2.heap.size w2 w
 |true,w=>T w
theorem callE_one {T:World→Prop} {w2:World} {k:Nat} {T':TypeId} {cs:Array Value} (hk:Blk w2 k cs T') (j:Nat) {v:Value} (hv:cs[j]?=some v):∀x:One (CallE T w2 false),x.w.cell? ⟨k,j,none⟩=some v:=fun x=>(hk.below x.h hk.lt).cell j hv
theorem callE_ne (T:World→Prop) (w2:World):Nonempty (One (CallE T w2 false))∧Nonempty (Two (CallE T w2)):=⟨⟨⟨w2,Below.refl _ _⟩⟩,⟨⟨false,w2,Below.refl _ _⟩⟩⟩
theorem wheelV_m (B:WB) (S:WS) (m:Nat→Nat):((((((((wheelV B S).setIfInBounds 2 (.int .u64 (m 0))).setIfInBounds 3 (.int .u64 (m 1))).setIfInBounds 4 (.int .u64 (m 2))).setIfInBounds 5 (.int .u64 (m 3))).setIfInBounds 6 (.int .u64 (m 4))).setIfInBounds 7 (.int .u64 (m 5))).setIfInBounds 8 (.int .u64 (m 6))).setIfInBounds 9 (.int .u64 (m 7))=wheelV B { S with m:=m }:=by
 simp only[wheelV,List.setIfInBounds_toArray,List.set_cons_succ,List.set_cons_zero]
theorem placeOf_key (b d:Nat):((placeOf b d).1<0∨8≤(placeOf b d).1)∨slotK (placeOf b d):=by
 unfold placeOf;split
 ·exact .inl (.inl (by decide))
 ·split
  ·exact .inl (.inr (by decide))
  ·rename_i h1 h2
   have:=topN_le b d;refine .inr ⟨topN b d,digN d (topN b d),rfl,by omega,?_⟩;unfold digN
   split<;>omega
section
variable {B:WB} {S:WS} {w w':World}
set_option maxHeartbeats 4000000 in
theorem push_at (h:WheelAt B S w) {a:Nat} {t:Tm} (hL:LiveAt S.p a t) (hd:t.d<18446744073709551616) (hb:S.base<18446744073709551616) (hm:∀i,S.m i<18446744073709551616) (hpk:PushOk S.c B.c.room (placeOf S.base t.d) a):Calls Tryz.prog 113 #[.pointer (some ⟨B.b,0,none⟩),.int .u64 (hN S.p a:Nat)] w fun e w'=>
 e=.returned (.tuple #[])∧Tch B.own w w'∧WheelAt B { S with c:=S.c.push (placeOf S.base t.d) a,m:=occSet S.m (placeOf S.base t.d) } w':=by
 have hlw:=h.lt;have hof:=of_at S.base t.d hb hd;have hko:((placeOf S.base t.d).1<0∨8≤(placeOf S.base t.d).1)∨slotK (placeOf S.base t.d):=placeOf_key S.base t.d;obtain⟨⟨l,s⟩,hpl⟩:∃k,k=placeOf S.base t.d:=⟨_,rfl⟩;rw[←hpl] at hof hko hpk ⊢;clear hpl;simp only at hof hko;have hgt:=get_live h.pool hL;have c0:w.cell? ⟨B.b,0,none⟩=some (.pointer (some ⟨B.p.b,0,none⟩)):=h.blk.cell 0 rfl;go_enter Tryz.func113,Tryz.ntmps113
 go_wp2_with (go_at_call 112;fail)
 refine hgt.mono ?_;rintro e w1 ⟨rfl,hb1⟩;go_wp2;have hB1:Below w.heap.size w (w1.alloc (.cells #[.int .u64 t.d,.int .u64 t.p,.int .u64 t.o] 226)):=hb1.alloc hb1.size _;have hE:=Blk.new w1 #[.int .u64 t.d,.int .u64 t.p,.int .u64 t.o] 226;have hsz1:=hb1.size;have h1:=h.below hB1 hlw;clear c0 hgt;generalize w1.alloc (.cells #[.int .u64 t.d,.int .u64 t.p,.int .u64 t.o] 226)=w2 at *;generalize w1.heap.size=eb at *;have hS:∀W,Below w2.heap.size w2 W→W.cell? ⟨B.b,10,none⟩=some (.int .u64 S.base)∧W.cell? ⟨eb,0,none⟩=some (.int .u64 t.d):=fun W hW=>⟨h1.blk.wx 10 rfl ⟨W,hW⟩,hE.wx 0 rfl ⟨W,hW⟩⟩;have hH:=hS _ (Below.refl _ _);have c1:=hH.1;have c2:=hH.2
 go_region_held3 (fun W=>W.cell? ⟨B.b,10,none⟩=some (.int .u64 S.base)∧W.cell? ⟨eb,0,none⟩=some (.int .u64 t.d)) (exact hS _ (by first|exact(Below.refl _ w2).drew|exact((Below.refl _ w2).drew).alloc (Nat.le_refl _) _|exact hbl|exact hbl.alloc hbl.size _|exact((hbl.setCell (Nat.le_refl _) _).setCell (Nat.le_refl _) _))) (first|(go_at_call 180;refine(hof _).mono ?_;rintro e w3 ⟨rfl,hb3⟩;first|(have hNk:Blk w3 w2.heap.size #[.int .i64 0,.int .i64 0] 219:=(Blk.new w2.drew #[.int .i64 0,.int .i64 0] 219).below hb3 (Blk.new w2.drew #[.int .i64 0,.int .i64 0] 219).lt;have q0:w3.cell? ⟨w2.heap.size,0,none⟩=some (.int .i64 0):=hNk.cell 0 rfl;have q1:w3.cell? ⟨w2.heap.size,1,none⟩=some (.int .i64 0):=hNk.cell 1 rfl;have f0:=hNk.free 0;have f1:=hNk.free 1;have hbl:Below w2.heap.size w2 w3:=(((Below.refl _ w2).drew).alloc (Nat.le_refl _) _).trans (hb3.mono (by simp)))|(have hbl:Below w2.heap.size w2 w3:=((Below.refl _ w2).drew).trans hb3)))
 all_goals go_wp2
 ·have hK:=Blk.new w3 #[.int .i64 l,.int .i64 s] 219
  have hBW:=hbl.alloc hbl.size (.cells #[.int .i64 l,.int .i64 s] 219);have hnb:w2.heap.size≤w3.heap.size:=hbl.size;generalize w3.alloc (.cells #[.int .i64 l,.int .i64 s] 219)=w4 at *;generalize w3.heap.size=nb at *;have hK':Blk w4 nb #[.int .i64 l,.int .i64 s] 219:=hK;clear hK;have hl1:=h1.lt;have h4:=h1.below hBW hl1;have hl4:=h4.lt;have hB4:Below w.heap.size w w4:=hB1.trans (hBW.mono hB1.size);clear hS hH c1 c2 hE
  let T2:World→Prop:=fun W=>Tch B.c.own w4 W∧ChainAt B.c (S.c.push (l,s) a) W
  have hne:=callE_ne T2 w4;haveI:=hne.1;haveI:=hne.2;have d1:∀x:One (CallE T2 w4 false),x.w.cell? ⟨B.b,1,none⟩=some (.pointer (some ⟨B.c.b,0,none⟩)):=callE_one h4.blk 1 rfl;have d2:∀x:One (CallE T2 w4 false),x.w.cell? ⟨B.b,0,none⟩=some (.pointer (some ⟨B.p.b,0,none⟩)):=callE_one h4.blk 0 rfl;have d3:∀x:One (CallE T2 w4 false),x.w.cell? ⟨nb,0,none⟩=some (.int .i64 l):=callE_one hK' 0 rfl;have d4:∀x:One (CallE T2 w4 false),x.w.cell? ⟨nb,1,none⟩=some (.int .i64 s):=callE_one hK' 1 rfl;refine wp_region_two (CallE T2 w4) 12 (by decide) (by kernel_rfl) (by kernel_rfl) (Below.refl _ _).drew ?_
  (repeat (first|(refine lexS_skip (by rfl) (by decide) ?_;simp only[Act.put,List.setIfInBounds_toArray,List.set_cons_succ,List.set_cons_zero])|(refine lexS_ewant (by rfl) (by decide) (by kernel_rfl) (by rfl) ?_;intro K hK;go_big_quiet_op;refine hK _ ?_;clear hK K)))
  refine lexS_ecall (f:=131) (args:=#[.pointer (some ⟨B.p.b,0,none⟩),.int .u64 (hN S.p a:Nat)]) (v:=.int .i64 a) (by rfl) (by decide) (by kernel_rfl) (fun w=>by kernel_rfl) (fun x=>((place_live (h4.below x.h hl4).pool hL).mono fun e w' hx=>⟨hx.1,Below.trans x.h (hx.2.mono x.h.size)⟩)) ?_;simp only[Act.put,List.setIfInBounds_toArray,List.set_cons_succ,List.set_cons_zero];refine lexS_callT (f:=181) (args:=#[.pointer (some ⟨B.c.b,0,none⟩),.agg #[.int .i64 l,.int .i64 s],.int .i64 a]) (v:=.bool true) (by rfl) (by rfl) (fun w=>by kernel_rfl) (fun W hW=>((push_any (h4.below hW hl4).chain hpk).mono fun e w' hx=>⟨hx.1,(Tch.of_below hW).trans hx.2.1,hx.2.2⟩)) ?_;simp only[Act.put,List.setIfInBounds_toArray,List.set_cons_succ,List.set_cons_zero];refine fun w5 hw5=>?_;have h5:=h4.chainT hw5.1 hw5.2
  have hK5:Blk w5 nb #[.int .i64 l,.int .i64 s] 219:=(hw5.1.block _ hK'.lt (by rintro (e|e)<;>omega)).trans hK'
  have hF5:Tch B.own w w5:=(Tch.of_below hB4).trans' hw5.1 (fun j _ hj=>.inr (.inr hj));clear d1 d2 d3 d4 hne hw5;go_wp2;have hl5:=h5.lt
  let S6:WS:={ S with c:=S.c.push (l,s) a,m:=occSet S.m (l,s) }
  let vs:Bool→Array Value:=fun b=>if b then wheelV B { S with m:=occSet S.m (l,s) } else wheelV B S
  have hb5:Blk w5 B.b (vs false) 215:=h5.blk;have hne:=one_ne (w2:=w5) (rb:=B.b) (T:=215) (vs:=vs) hb5;haveI:=hne.1;haveI:=hne.2;have d0:∀x:One (BlkE w5 B.b 215 vs false),x.w.cell? ⟨B.b,2,none⟩=some (.int .u64 (S.m 0)):=blkE_own 2 rfl;have d1:∀x:One (BlkE w5 B.b 215 vs false),x.w.cell? ⟨B.b,3,none⟩=some (.int .u64 (S.m 1)):=blkE_own 3 rfl;have d2:∀x:One (BlkE w5 B.b 215 vs false),x.w.cell? ⟨B.b,4,none⟩=some (.int .u64 (S.m 2)):=blkE_own 4 rfl;have d3:∀x:One (BlkE w5 B.b 215 vs false),x.w.cell? ⟨B.b,5,none⟩=some (.int .u64 (S.m 3)):=blkE_own 5 rfl;have d4:∀x:One (BlkE w5 B.b 215 vs false),x.w.cell? ⟨B.b,6,none⟩=some (.int .u64 (S.m 4)):=blkE_own 6 rfl;have d5:∀x:One (BlkE w5 B.b 215 vs false),x.w.cell? ⟨B.b,7,none⟩=some (.int .u64 (S.m 5)):=blkE_own 7 rfl;have d6:∀x:One (BlkE w5 B.b 215 vs false),x.w.cell? ⟨B.b,8,none⟩=some (.int .u64 (S.m 6)):=blkE_own 8 rfl;have d7:∀x:One (BlkE w5 B.b 215 vs false),x.w.cell? ⟨B.b,9,none⟩=some (.int .u64 (S.m 7)):=blkE_own 9 rfl;have k0:∀x:One (BlkE w5 B.b 215 vs false),x.w.cell? ⟨nb,0,none⟩=some (.int .i64 l):=blkE_one hK5 (by omega) 0 rfl;have k1:∀x:One (BlkE w5 B.b 215 vs false),x.w.cell? ⟨nb,1,none⟩=some (.int .i64 s):=blkE_one hK5 (by omega) 1 rfl;refine wp_region_two (BlkE w5 B.b 215 vs) 12 (by decide) (by kernel_rfl) (by kernel_rfl) ⟨(Tch.refl _ _).drew,hb5⟩ ?_
  (repeat (first|(refine lexS_skip (by rfl) (by decide) ?_;simp only[Act.put,List.setIfInBounds_toArray,List.set_cons_succ,List.set_cons_zero])|(refine lexS_ewant (by rfl) (by decide) (by kernel_rfl) (by rfl) ?_;intro K hK;go_big_quiet_op;refine hK _ ?_;clear hK K)))
  refine lexS_ecall (f:=182) (args:=#[.agg (arr8 S.m),.int .i64 l,.int .i64 s]) (v:=.agg (arr8 (occSet S.m (l,s)))) (by rfl) (by decide) (by kernel_rfl) (fun w=>by kernel_rfl) (fun x=>((oset_at hm hko x.w).mono fun e w' hx=>⟨hx.1,x.h.keep hx.2⟩)) ?_;simp only[Act.put,List.setIfInBounds_toArray,List.set_cons_succ,List.set_cons_zero]
  (repeat (first|(refine lexS_skip (by rfl) (by decide) ?_;simp only[Act.put,List.setIfInBounds_toArray,List.set_cons_succ,List.set_cons_zero])|(refine lexS_ewant (by rfl) (by decide) (by kernel_rfl) (by rfl) ?_;intro K hK;go_big_quiet_op;refine hK _ ?_;clear hK K)))
  unfold arr8;refine lexS_turn (by rfl) (by rfl) undef (fun W hW=>?_) ?_
  ·have hb:Blk W B.b (wheelV B S) 215:=hW.2
   have q2:=hb.cell 2 rfl;have q3:=hb.cell 3 rfl;have q4:=hb.cell 4 rfl;have q5:=hb.cell 5 rfl;have q6:=hb.cell 6 rfl;have q7:=hb.cell 7 rfl;have q8:=hb.cell 8 rfl;have q9:=hb.cell 9 rfl;have f2:=hb.free 2;have f3:=hb.free 3;have f4:=hb.free 4;have f5:=hb.free 5;have f6:=hb.free 6;have f7:=hb.free 7;have f8:=hb.free 8;have f9:=hb.free 9;unfold does
   go_simp
   have hs:=(((((((hb.set 2 (.int .u64 ((occSet S.m (l,s)) 0))).set 3 (.int .u64 ((occSet S.m (l,s)) 1))).set 4 (.int .u64 ((occSet S.m (l,s)) 2))).set 5 (.int .u64 ((occSet S.m (l,s)) 3))).set 6 (.int .u64 ((occSet S.m (l,s)) 4))).set 7 (.int .u64 ((occSet S.m (l,s)) 5))).set 8 (.int .u64 ((occSet S.m (l,s)) 6))).set 9 (.int .u64 ((occSet S.m (l,s)) 7));rw[wheelV_m B S (occSet S.m (l,s))] at hs;exact⟨⟨(((((((hW.1.setCell _ (.inl rfl)).setCell _ (.inl rfl)).setCell _ (.inl rfl)).setCell _ (.inl rfl)).setCell _ (.inl rfl)).setCell _ (.inl rfl)).setCell _ (.inl rfl)).setCell _ (.inl rfl),hs⟩,rfl⟩
  simp only[Act.put,List.setIfInBounds_toArray,List.set_cons_succ,List.set_cons_zero];refine fun w6 hw6=>?_;have hb6:Blk w6 B.b (wheelV B S6) 215:=hw6.2;have h6:WheelAt B S6 w6:=h5.selfT (m:=occSet S.m (l,s)) (base:=S.base) (order:=S.order) hw6.1 hb6;go_wp2
  go_end0
  exact⟨rfl,hF5.trans' hw6.1 (fun j _ hj=>.inl hj),h6⟩
 ·have hK:=(hNk.set 0 (.int .i64 l)).set 1 (.int .i64 s)
  have hBW:=(hbl.setCell (p:=⟨w2.heap.size,0,none⟩) (Nat.le_refl _) (.int .i64 l)).setCell (p:=⟨w2.heap.size,1,none⟩) (Nat.le_refl _) (.int .i64 s);generalize World.setCell (World.setCell w3 ⟨w2.heap.size,0,none⟩ (.int .i64 l)) ⟨w2.heap.size,1,none⟩ (.int .i64 s)=w4 at *;obtain⟨nb,hnbe⟩:∃nb,nb=w2.heap.size:=⟨_,rfl⟩
  have hnb:w2.heap.size≤nb:=by omega
  rw[←hnbe] at hK ⊢;clear hnbe;have hK':Blk w4 nb #[.int .i64 l,.int .i64 s] 219:=hK;clear hK;have hl1:=h1.lt;have h4:=h1.below hBW hl1;have hl4:=h4.lt;have hB4:Below w.heap.size w w4:=hB1.trans (hBW.mono hB1.size);clear hS hH c1 c2 hE
  let T2:World→Prop:=fun W=>Tch B.c.own w4 W∧ChainAt B.c (S.c.push (l,s) a) W
  have hne:=callE_ne T2 w4;haveI:=hne.1;haveI:=hne.2;have d1:∀x:One (CallE T2 w4 false),x.w.cell? ⟨B.b,1,none⟩=some (.pointer (some ⟨B.c.b,0,none⟩)):=callE_one h4.blk 1 rfl;have d2:∀x:One (CallE T2 w4 false),x.w.cell? ⟨B.b,0,none⟩=some (.pointer (some ⟨B.p.b,0,none⟩)):=callE_one h4.blk 0 rfl;have d3:∀x:One (CallE T2 w4 false),x.w.cell? ⟨nb,0,none⟩=some (.int .i64 l):=callE_one hK' 0 rfl;have d4:∀x:One (CallE T2 w4 false),x.w.cell? ⟨nb,1,none⟩=some (.int .i64 s):=callE_one hK' 1 rfl;refine wp_region_two (CallE T2 w4) 12 (by decide) (by kernel_rfl) (by kernel_rfl) (Below.refl _ _).drew ?_
  (repeat (first|(refine lexS_skip (by rfl) (by decide) ?_;simp only[Act.put,List.setIfInBounds_toArray,List.set_cons_succ,List.set_cons_zero])|(refine lexS_ewant (by rfl) (by decide) (by kernel_rfl) (by rfl) ?_;intro K hK;go_big_quiet_op;refine hK _ ?_;clear hK K)))
  refine lexS_ecall (f:=131) (args:=#[.pointer (some ⟨B.p.b,0,none⟩),.int .u64 (hN S.p a:Nat)]) (v:=.int .i64 a) (by rfl) (by decide) (by kernel_rfl) (fun w=>by kernel_rfl) (fun x=>((place_live (h4.below x.h hl4).pool hL).mono fun e w' hx=>⟨hx.1,Below.trans x.h (hx.2.mono x.h.size)⟩)) ?_;simp only[Act.put,List.setIfInBounds_toArray,List.set_cons_succ,List.set_cons_zero];refine lexS_callT (f:=181) (args:=#[.pointer (some ⟨B.c.b,0,none⟩),.agg #[.int .i64 l,.int .i64 s],.int .i64 a]) (v:=.bool true) (by rfl) (by rfl) (fun w=>by kernel_rfl) (fun W hW=>((push_any (h4.below hW hl4).chain hpk).mono fun e w' hx=>⟨hx.1,(Tch.of_below hW).trans hx.2.1,hx.2.2⟩)) ?_;simp only[Act.put,List.setIfInBounds_toArray,List.set_cons_succ,List.set_cons_zero];refine fun w5 hw5=>?_;have h5:=h4.chainT hw5.1 hw5.2
  have hK5:Blk w5 nb #[.int .i64 l,.int .i64 s] 219:=(hw5.1.block _ hK'.lt (by rintro (e|e)<;>omega)).trans hK'
  have hF5:Tch B.own w w5:=(Tch.of_below hB4).trans' hw5.1 (fun j _ hj=>.inr (.inr hj));clear d1 d2 d3 d4 hne hw5;go_wp2;have hl5:=h5.lt
  let S6:WS:={ S with c:=S.c.push (l,s) a,m:=occSet S.m (l,s) }
  let vs:Bool→Array Value:=fun b=>if b then wheelV B { S with m:=occSet S.m (l,s) } else wheelV B S
  have hb5:Blk w5 B.b (vs false) 215:=h5.blk;have hne:=one_ne (w2:=w5) (rb:=B.b) (T:=215) (vs:=vs) hb5;haveI:=hne.1;haveI:=hne.2;have d0:∀x:One (BlkE w5 B.b 215 vs false),x.w.cell? ⟨B.b,2,none⟩=some (.int .u64 (S.m 0)):=blkE_own 2 rfl;have d1:∀x:One (BlkE w5 B.b 215 vs false),x.w.cell? ⟨B.b,3,none⟩=some (.int .u64 (S.m 1)):=blkE_own 3 rfl;have d2:∀x:One (BlkE w5 B.b 215 vs false),x.w.cell? ⟨B.b,4,none⟩=some (.int .u64 (S.m 2)):=blkE_own 4 rfl;have d3:∀x:One (BlkE w5 B.b 215 vs false),x.w.cell? ⟨B.b,5,none⟩=some (.int .u64 (S.m 3)):=blkE_own 5 rfl;have d4:∀x:One (BlkE w5 B.b 215 vs false),x.w.cell? ⟨B.b,6,none⟩=some (.int .u64 (S.m 4)):=blkE_own 6 rfl;have d5:∀x:One (BlkE w5 B.b 215 vs false),x.w.cell? ⟨B.b,7,none⟩=some (.int .u64 (S.m 5)):=blkE_own 7 rfl;have d6:∀x:One (BlkE w5 B.b 215 vs false),x.w.cell? ⟨B.b,8,none⟩=some (.int .u64 (S.m 6)):=blkE_own 8 rfl;have d7:∀x:One (BlkE w5 B.b 215 vs false),x.w.cell? ⟨B.b,9,none⟩=some (.int .u64 (S.m 7)):=blkE_own 9 rfl;have k0:∀x:One (BlkE w5 B.b 215 vs false),x.w.cell? ⟨nb,0,none⟩=some (.int .i64 l):=blkE_one hK5 (by omega) 0 rfl;have k1:∀x:One (BlkE w5 B.b 215 vs false),x.w.cell? ⟨nb,1,none⟩=some (.int .i64 s):=blkE_one hK5 (by omega) 1 rfl;refine wp_region_two (BlkE w5 B.b 215 vs) 12 (by decide) (by kernel_rfl) (by kernel_rfl) ⟨(Tch.refl _ _).drew,hb5⟩ ?_
  (repeat (first|(refine lexS_skip (by rfl) (by decide) ?_;simp only[Act.put,List.setIfInBounds_toArray,List.set_cons_succ,List.set_cons_zero])|(refine lexS_ewant (by rfl) (by decide) (by kernel_rfl) (by rfl) ?_;intro K hK;go_big_quiet_op;refine hK _ ?_;clear hK K)))
  refine lexS_ecall (f:=182) (args:=#[.agg (arr8 S.m),.int .i64 l,.int .i64 s]) (v:=.agg (arr8 (occSet S.m (l,s)))) (by rfl) (by decide) (by kernel_rfl) (fun w=>by kernel_rfl) (fun x=>((oset_at hm hko x.w).mono fun e w' hx=>⟨hx.1,x.h.keep hx.2⟩)) ?_;simp only[Act.put,List.setIfInBounds_toArray,List.set_cons_succ,List.set_cons_zero]
  (repeat (first|(refine lexS_skip (by rfl) (by decide) ?_;simp only[Act.put,List.setIfInBounds_toArray,List.set_cons_succ,List.set_cons_zero])|(refine lexS_ewant (by rfl) (by decide) (by kernel_rfl) (by rfl) ?_;intro K hK;go_big_quiet_op;refine hK _ ?_;clear hK K)))
  unfold arr8;refine lexS_turn (by rfl) (by rfl) undef (fun W hW=>?_) ?_
  ·have hb:Blk W B.b (wheelV B S) 215:=hW.2
   have q2:=hb.cell 2 rfl;have q3:=hb.cell 3 rfl;have q4:=hb.cell 4 rfl;have q5:=hb.cell 5 rfl;have q6:=hb.cell 6 rfl;have q7:=hb.cell 7 rfl;have q8:=hb.cell 8 rfl;have q9:=hb.cell 9 rfl;have f2:=hb.free 2;have f3:=hb.free 3;have f4:=hb.free 4;have f5:=hb.free 5;have f6:=hb.free 6;have f7:=hb.free 7;have f8:=hb.free 8;have f9:=hb.free 9;unfold does
   go_simp
   have hs:=(((((((hb.set 2 (.int .u64 ((occSet S.m (l,s)) 0))).set 3 (.int .u64 ((occSet S.m (l,s)) 1))).set 4 (.int .u64 ((occSet S.m (l,s)) 2))).set 5 (.int .u64 ((occSet S.m (l,s)) 3))).set 6 (.int .u64 ((occSet S.m (l,s)) 4))).set 7 (.int .u64 ((occSet S.m (l,s)) 5))).set 8 (.int .u64 ((occSet S.m (l,s)) 6))).set 9 (.int .u64 ((occSet S.m (l,s)) 7));rw[wheelV_m B S (occSet S.m (l,s))] at hs;exact⟨⟨(((((((hW.1.setCell _ (.inl rfl)).setCell _ (.inl rfl)).setCell _ (.inl rfl)).setCell _ (.inl rfl)).setCell _ (.inl rfl)).setCell _ (.inl rfl)).setCell _ (.inl rfl)).setCell _ (.inl rfl),hs⟩,rfl⟩
  simp only[Act.put,List.setIfInBounds_toArray,List.set_cons_succ,List.set_cons_zero];refine fun w6 hw6=>?_;have hb6:Blk w6 B.b (wheelV B S6) 215:=hw6.2;have h6:WheelAt B S6 w6:=h5.selfT (m:=occSet S.m (l,s)) (base:=S.base) (order:=S.order) hw6.1 hb6;go_wp2
  go_end0
  exact⟨rfl,hF5.trans' hw6.1 (fun j _ hj=>.inl hj),h6⟩
end
section
variable {B:WB} {S:WS} {w w':World}
noncomputable def WS.give (S:WS) (a d p:Nat):WS:=
 { p:={ S.p with ent:=fset S.p.ent a (some ⟨d,p,S.order⟩) },c:=S.c.push (placeOf S.base d) a,m:=occSet S.m (placeOf S.base d),base:=S.base,order:=S.order+1 }
theorem wheelV_order (B:WB) (S:WS) (n:Nat):(wheelV B S).setIfInBounds 11 (.int .u64 n)=wheelV B { S with order:=n }:=by
 simp only[wheelV,List.setIfInBounds_toArray,List.set_cons_succ,List.set_cons_zero]
theorem give_at (h:WheelAt B S w) {a:Nat} {t:Tm} (hL:LiveAt S.p a t) {d p:Nat} (hd:d<18446744073709551616) (hb:S.base<18446744073709551616) (ho:S.order<4294967296) (hm:∀i,S.m i<18446744073709551616) (hpk:PushOk S.c B.c.room (placeOf S.base d) a) :
 Calls Tryz.prog 119 #[.pointer (some ⟨B.b,0,none⟩),.int .u64 (hN S.p a:Nat),.int .u64 d,.int .u64 p] w fun e w'=>
 e=.returned (.tuple #[])∧Tch B.own w w'∧WheelAt B (S.give a d p) w':=by
 have hlw:=h.lt;go_enter Tryz.func119,Tryz.ntmps119;go_wp2
 let T2:World→Prop:=fun W=>Tch (fun k=>k=B.p.re) w W∧PoolAt B.p { S.p with ent:=fset S.p.ent a (some ⟨d,p,S.order⟩) } W
 have hne:=callE_ne T2 w;haveI:=hne.1;haveI:=hne.2;have d1:∀x:One (CallE T2 w false),x.w.cell? ⟨B.b,0,none⟩=some (.pointer (some ⟨B.p.b,0,none⟩)):=callE_one h.blk 0 rfl;have d2:∀x:One (CallE T2 w false),x.w.cell? ⟨B.b,11,none⟩=some (.int .u64 S.order):=callE_one h.blk 11 rfl;refine wp_region_two (CallE T2 w) 13 (by decide) (by kernel_rfl) (by kernel_rfl) (Below.refl _ _).drew ?_
 (repeat (first|(refine lexS_skip (by rfl) (by decide) ?_;simp only[Act.put,List.setIfInBounds_toArray,List.set_cons_succ,List.set_cons_zero])|(refine lexS_ewant (by rfl) (by decide) (by kernel_rfl) (by rfl) ?_;intro K hK;go_big_quiet_op;refine hK _ ?_;clear hK K)))
 refine lexS_callT (f:=187) (args:=#[.pointer (some ⟨B.p.b,0,none⟩),.int .u64 (hN S.p a:Nat),.agg #[.int .u64 d,.int .u64 p,.int .u64 S.order]]) (v:=.bool true) (by rfl) (by rfl) (fun w=>by kernel_rfl) (fun W hW=>((set_live (h.below hW hlw).pool hL ⟨d,p,S.order⟩).mono fun e w' hx=>⟨hx.1,(Tch.of_below hW).trans hx.2.1,hx.2.2⟩)) ?_;simp only[Act.put,List.setIfInBounds_toArray,List.set_cons_succ,List.set_cons_zero];refine fun w1 hw1=>?_;have ht1:Tch B.p.own w w1:=hw1.1.mono fun j hj=>.inl hj;have h1:=h.poolT ht1 hw1.2;have hF1:Tch B.own w w1:=ht1.mono fun j hj=>.inr (.inl hj);have hL1:LiveAt { S.p with ent:=fset S.p.ent a (some ⟨d,p,S.order⟩) } a ⟨d,p,S.order⟩:=⟨fset_same _ _ _,hL.lt,hL.gen⟩;have e1:w1.cell? ⟨B.b,11,none⟩=some (.int .u64 S.order):=h1.blk.cell 11 rfl;have f1:=h1.blk.free 11;clear d1 d2 hne hw1;have h2b:=h1.blk.set 11 (.int .u64 (S.order+1:Nat));rw[wheelV_order] at h2b;have ht2:=(Tch.refl (fun r=>r=B.b) w1).setCell (a:=⟨B.b,11,none⟩) (.int .u64 (S.order+1:Nat)) (.inl rfl);have h2:=h1.selfT (m:=S.m) (base:=S.base) (order:=S.order+1) ht2 h2b;have hF2:Tch B.own w (w1.setCell ⟨B.b,11,none⟩ (.int .u64 (S.order+1:Nat))):=hF1.trans' ht2 (fun j _ hj=>.inl hj);have hpu:=push_at h2 (a:=a) (t:=⟨d,p,S.order⟩) hL1 hd hb hm hpk;rw[show ((S.order+1:Nat):Int)=(S.order:Int)+1 by omega] at hpu hF2
 go_wp2_with (go_at_call 113;refine hpu.mono ?_;rintro e w3 ⟨rfl,ht3,h3⟩)
 go_end0
 exact⟨rfl,hF2.trans ht3,h3⟩
noncomputable def WS.add (S:WS) (a d p:Nat):WS:=
 { p:=⟨fset S.p.ent a (some ⟨d,p,S.order⟩),S.p.gen,S.p.n+1,markW S.p.word a true⟩,c:=S.c.push (placeOf S.base d) a,m:=occSet S.m (placeOf S.base d),base:=S.base,order:=S.order+1 }
theorem add_at (h:WheelAt B S w) (hT:TabW w) (hT2:¬B.own 2) {a nw:Nat} (hw:S.p.word+nw=18446744073709551615) (hf:firstN nw 0=(a:Int)) (ha:a<64) (hr:a<B.p.room) (hn:S.p.ent a=none) (hg:S.p.gen a<4294967295)
 {d p:Nat} (hd:d<18446744073709551616) (hb:S.base<18446744073709551616) (ho:S.order<4294967296) (hm:∀i,S.m i<18446744073709551616) (hpk:PushOk S.c B.c.room (placeOf S.base d) a) :
 Calls Tryz.prog 103 #[.pointer (some ⟨B.b,0,none⟩),.int .u64 d,.int .u64 p] w fun e w'=>
 e=.returned (.tuple #[.int .u64 (hN S.p a:Nat),.int .i64 0])∧Tch B.own w w'∧WheelAt B (S.add a d p) w':=by
 have hlw:=h.lt;have hpt:=put_at h.pool hT (fun r hr e=>hT2 (by subst e;exact .inr (.inl hr))) hw hf ha hr hn hg;have c0:w.cell? ⟨B.b,0,none⟩=some (.pointer (some ⟨B.p.b,0,none⟩)):=h.blk.cell 0 rfl;clear hf;go_enter Tryz.func103,Tryz.ntmps103
 go_wp2_with (go_at_call 169;fail)
 refine hpt.mono ?_;rintro e w1 ⟨rfl,ht1,hp1⟩;have h1:=h.poolT ht1 hp1;have hF1:Tch B.own w w1:=ht1.mono fun j hj=>.inr (.inl hj);have hL1:LiveAt ⟨fset S.p.ent a (some ⟨0,0,0⟩),S.p.gen,S.p.n+1,markW S.p.word a true⟩ a ⟨0,0,0⟩:=⟨fset_same _ _ _,by omega,hg⟩;have hgi:=give_at h1 hL1 hd hb ho hm hpk (p:=p)
 go_wp2_with (go_at_call 119;fail)
 refine hgi.mono ?_;rintro e w2 ⟨rfl,ht2,h2⟩;go_wp2;refine bodyPost_ret (v:=.tuple #[.int .u64 (hN S.p a:Nat),.int .i64 0]) ?_ rfl ⟨rfl,hF1.trans ht2,?_⟩
 ·simp[results,Tryz.results103,go_sem]
 ·have e:WS.give { S with p:=⟨fset S.p.ent a (some ⟨0,0,0⟩),S.p.gen,S.p.n+1,markW S.p.word a true⟩ } a d p=S.add a d p:=by
   unfold WS.give WS.add;simp only[fset_fset]
  rw[←e];exact h2
end
section
variable {B:WB} {S:WS} {w w':World}
noncomputable def leftM (S:WS) (k:Int×Int):Nat→Nat:=if (hd0 (S.c.head k)).n=0 then occDrop S.m k else S.m
set_option maxHeartbeats 4000000 in
theorem left_at (h:WheelAt B S w) (hm:∀i,S.m i<18446744073709551616) {l s:Int} (hko:(l<0∨8≤l)∨slotK (l,s)):Calls Tryz.prog 111 #[.pointer (some ⟨B.b,0,none⟩),.agg #[.int .i64 l,.int .i64 s]] w fun e w'=>
 e=.returned (.tuple #[])∧Tch B.own w w'∧WheelAt B { S with m:=leftM S (l,s) } w':=by
 have hlw:=h.lt;go_enter Tryz.func111,Tryz.ntmps111;have hBa:Below w.heap.size w (w.alloc (Obj.cells #[.int .i64 l,.int .i64 s] 219)):=(Below.refl _ w).alloc (Nat.le_refl _) _;have h0:=h.below hBa hlw;have hX:=Blk.new w #[.int .i64 l,.int .i64 s] 219;go_wp2;generalize w.alloc (Obj.cells #[.int .i64 l,.int .i64 s] 219)=w2 at *;have hl2:=h0.lt;have c1:∀x:WX w2,x.w.cell? ⟨B.b,1,none⟩=some (.pointer (some ⟨B.c.b,0,none⟩)):=h0.blk.wx 1 rfl;have c2:∀x:WX w2,x.w.cell? ⟨w.heap.size,0,none⟩=some (.int .i64 l):=hX.wx 0 rfl;have c3:∀x:WX w2,x.w.cell? ⟨w.heap.size,1,none⟩=some (.int .i64 s):=hX.wx 1 rfl;refine wp_region_grown (by kernel_rfl) (by kernel_rfl) ?_
 repeat (go_big_quiet_step (first|(go_at_call 171;exact WX.of (len_of (h0.below (by first|assumption|exact WX.h _) hl2).chain l s))))
 refine wpQuiet_nil ?_;intro w5 hb5;have h5:=h0.below hb5 hl2;have hK5:=hX.below hb5 hX.lt;have hB5:Below w.heap.size w w5:=hBa.trans (hb5.mono hBa.size);have hF5:Tch B.own w w5:=Tch.of_below hB5;obtain⟨nb,hnbe⟩:∃nb,nb=w.heap.size:=⟨_,rfl⟩
 have hnb:w.heap.size≤nb:=by omega
 rw[←hnbe] at hK5 ⊢
 have hnlt:B.b≠nb:=by have:=hlw.1;omega
 clear hnbe c1 c2 c3
 by_cases hn:(hd0 (S.c.head (l,s))).n=0
 ·go_wp2
  let S6:WS:={ S with m:=occDrop S.m (l,s) }
  let vs:Bool→Array Value:=fun b=>if b then wheelV B { S with m:=occDrop S.m (l,s) } else wheelV B S
  have hb5:Blk w5 B.b (vs false) 215:=h5.blk;have hne:=one_ne (w2:=w5) (rb:=B.b) (T:=215) (vs:=vs) hb5;haveI:=hne.1;haveI:=hne.2;have d0:∀x:One (BlkE w5 B.b 215 vs false),x.w.cell? ⟨B.b,2,none⟩=some (.int .u64 (S.m 0)):=blkE_own 2 rfl;have d1:∀x:One (BlkE w5 B.b 215 vs false),x.w.cell? ⟨B.b,3,none⟩=some (.int .u64 (S.m 1)):=blkE_own 3 rfl;have d2:∀x:One (BlkE w5 B.b 215 vs false),x.w.cell? ⟨B.b,4,none⟩=some (.int .u64 (S.m 2)):=blkE_own 4 rfl;have d3:∀x:One (BlkE w5 B.b 215 vs false),x.w.cell? ⟨B.b,5,none⟩=some (.int .u64 (S.m 3)):=blkE_own 5 rfl;have d4:∀x:One (BlkE w5 B.b 215 vs false),x.w.cell? ⟨B.b,6,none⟩=some (.int .u64 (S.m 4)):=blkE_own 6 rfl;have d5:∀x:One (BlkE w5 B.b 215 vs false),x.w.cell? ⟨B.b,7,none⟩=some (.int .u64 (S.m 5)):=blkE_own 7 rfl;have d6:∀x:One (BlkE w5 B.b 215 vs false),x.w.cell? ⟨B.b,8,none⟩=some (.int .u64 (S.m 6)):=blkE_own 8 rfl;have d7:∀x:One (BlkE w5 B.b 215 vs false),x.w.cell? ⟨B.b,9,none⟩=some (.int .u64 (S.m 7)):=blkE_own 9 rfl;have k0:∀x:One (BlkE w5 B.b 215 vs false),x.w.cell? ⟨nb,0,none⟩=some (.int .i64 l):=blkE_one hK5 (by omega) 0 rfl;have k1:∀x:One (BlkE w5 B.b 215 vs false),x.w.cell? ⟨nb,1,none⟩=some (.int .i64 s):=blkE_one hK5 (by omega) 1 rfl;refine wp_region_two (BlkE w5 B.b 215 vs) 12 (by decide) (by kernel_rfl) (by kernel_rfl) ⟨(Tch.refl _ _).drew,hb5⟩ ?_
  (repeat (first|(refine lexS_skip (by rfl) (by decide) ?_;simp only[Act.put,List.setIfInBounds_toArray,List.set_cons_succ,List.set_cons_zero])|(refine lexS_ewant (by rfl) (by decide) (by kernel_rfl) (by rfl) ?_;intro K hK;go_big_quiet_op;refine hK _ ?_;clear hK K)))
  refine lexS_ecall (f:=178) (args:=#[.agg (arr8 S.m),.int .i64 l,.int .i64 s]) (v:=.agg (arr8 (occDrop S.m (l,s)))) (by rfl) (by decide) (by kernel_rfl) (fun w=>by kernel_rfl) (fun x=>((odrop_at hm hko x.w).mono fun e w' hx=>⟨hx.1,x.h.keep hx.2⟩)) ?_;simp only[Act.put,List.setIfInBounds_toArray,List.set_cons_succ,List.set_cons_zero]
  (repeat (first|(refine lexS_skip (by rfl) (by decide) ?_;simp only[Act.put,List.setIfInBounds_toArray,List.set_cons_succ,List.set_cons_zero])|(refine lexS_ewant (by rfl) (by decide) (by kernel_rfl) (by rfl) ?_;intro K hK;go_big_quiet_op;refine hK _ ?_;clear hK K)))
  unfold arr8;refine lexS_turn (by rfl) (by rfl) undef (fun W hW=>?_) ?_
  ·have hb:Blk W B.b (wheelV B S) 215:=hW.2
   have q2:=hb.cell 2 rfl;have q3:=hb.cell 3 rfl;have q4:=hb.cell 4 rfl;have q5:=hb.cell 5 rfl;have q6:=hb.cell 6 rfl;have q7:=hb.cell 7 rfl;have q8:=hb.cell 8 rfl;have q9:=hb.cell 9 rfl;have f2:=hb.free 2;have f3:=hb.free 3;have f4:=hb.free 4;have f5:=hb.free 5;have f6:=hb.free 6;have f7:=hb.free 7;have f8:=hb.free 8;have f9:=hb.free 9;unfold does
   go_simp
   have hs:=(((((((hb.set 2 (.int .u64 ((occDrop S.m (l,s)) 0))).set 3 (.int .u64 ((occDrop S.m (l,s)) 1))).set 4 (.int .u64 ((occDrop S.m (l,s)) 2))).set 5 (.int .u64 ((occDrop S.m (l,s)) 3))).set 6 (.int .u64 ((occDrop S.m (l,s)) 4))).set 7 (.int .u64 ((occDrop S.m (l,s)) 5))).set 8 (.int .u64 ((occDrop S.m (l,s)) 6))).set 9 (.int .u64 ((occDrop S.m (l,s)) 7));rw[wheelV_m B S (occDrop S.m (l,s))] at hs;exact⟨⟨(((((((hW.1.setCell _ (.inl rfl)).setCell _ (.inl rfl)).setCell _ (.inl rfl)).setCell _ (.inl rfl)).setCell _ (.inl rfl)).setCell _ (.inl rfl)).setCell _ (.inl rfl)).setCell _ (.inl rfl),hs⟩,rfl⟩
  simp only[Act.put,List.setIfInBounds_toArray,List.set_cons_succ,List.set_cons_zero];refine fun w6 hw6=>?_;have hb6:Blk w6 B.b (wheelV B S6) 215:=hw6.2;have h6:WheelAt B S6 w6:=h5.selfT (m:=occDrop S.m (l,s)) (base:=S.base) (order:=S.order) hw6.1 hb6;go_wp2
  go_end0
  exact⟨rfl,hF5.trans' hw6.1 (fun j _ hj=>.inl hj),by unfold leftM;rw[if_pos hn];exact h6⟩
 ·skip
  have hn':((hd0 (S.c.head (l,s))).n==0)=false:=by simp;exact hn
  go_wp2
  go_end0
  exact⟨rfl,hF5,by unfold leftM;rw[if_neg hn];exact h5⟩
end
section
variable {B:WB} {S:WS} {w w':World}
theorem wlive_at (h:WheelAt B S w):Calls Tryz.prog 72 #[.pointer (some ⟨B.b,0,none⟩)] w fun e w'=>e=.returned (.int .i64 (S.p.n:Int))∧Below w.heap.size w w':=by
 have c0:w.cell? ⟨B.b,0,none⟩=some (.pointer (some ⟨B.p.b,0,none⟩)):=h.blk.cell 0 rfl;go_enter Tryz.func72,Tryz.ntmps72
 go_wp2_with (go_at_call 128;refine(live_at h.pool).mono ?_;rintro e w1 ⟨rfl,hb1⟩)
 refine bodyPost_ret (v:=.int .i64 (S.p.n:Int)) ?_ rfl ⟨rfl,hb1⟩;simp[results,Tryz.results72,go_sem]
noncomputable def WS.popped (S:WS) (a:Nat):WS:={ S with p:=S.p.drop a,c:=S.c.pop a }
end
theorem min_u64 (b n c:Nat) (zs:List Int) (w:World) (hn:0<n) (hz:n≤zs.length) (hbig:n≤9223372036854775807) (hc:∀j,j<zs.length→w.cell? ⟨b,j,none⟩=some (.int .u64 (zs.getD j 0))) :
 Calls Tryz.prog 259 #[.slice (some ⟨b,0,none⟩) n c] w fun e w'=>e=.returned (.int .u64 (Lib.minOf (zs.take n)))∧w'=w:=by
 have h0:w.cell? ⟨b,0,none⟩=some (.int .u64 (zs.getD 0 0)):=by simpa using hc 0 (by omega)
 go_enter Tryz.func259,Tryz.ntmps259;go_wp2
 go_loopg [3,4] n (fun g m i wr=>∃k:Nat,0<k∧k≤n∧n-k≤g∧i=.int .i64 k∧m=.int .u64 (Lib.minOf (zs.take k))∧wr=w)
 case atStart=>exact⟨1,Nat.one_pos,hn,by omega,rfl,by rw[Lib.minOf_one];simp[List.getD],rfl⟩
 case round=>
  obtain⟨k,hk0,hk,hg,rfl,rfl,rfl⟩:=hrel
  by_cases hlt:k<n
  ·have ck:wr.cell? ⟨b,k,none⟩=some (.int .u64 (zs.getD k 0)):=hc k (by omega)
   have S:Aside (Lib.minOf (zs.take (k+1))=min (Lib.minOf (zs.take k)) (zs.getD k 0)):=Lib.minOf_step zs k hk0 (by omega);clear hc h0;go_wp2
   go_roundg (n-(k+1))
   case measure=>omega
   case rel=>exact⟨k+1,Nat.succ_pos k,by omega,Nat.le_refl _,by go_num,by rw[S.out];simp[List.getD],rfl⟩
  ·have:k=n:=by omega
   subst this;clear hc h0;go_wp2
   go_ret
   exact⟨rfl,rfl⟩
section
variable {B:WB} {S:WS} {w w':World}
def Trail (link:Nat→Lk):Int→List Nat→Prop
 |i,[]=>i=-1
 |i,a::l=>i=(a:Int)∧(link a).ins=true∧Trail link (link a).be l
def dlOf (S:WS) (a:Nat):Int:=match S.p.ent a with
 |some t=>t.d
 |none=>0
theorem underlying56:Tryz.prog.underlying 56=some (.slice 37):=by kernel_rfl
theorem infoD37:(Tryz.prog.info? 37).map (fun i=>(i.zero,i.size,i.bytes))=some (some (.int .u64 0),1,8):=by kernel_rfl
theorem grown_of_below {w w':World} (h:Below w.heap.size w w') (row:Option Nat):w.grownBy w' row:=⟨h.os,h.tape,h.output,h.size,fun k hk _=>h.block k hk⟩
def LeastRel (B:WB) (S:WS) (w:World) (L:List Nat) (g:Nat) (v i:Value) (wr:World):Prop:=
 ∃done rest j,L=done++rest∧Trail S.c.link j rest∧i=.int .i64 j∧g=rest.length∧wr.ownsRow w.heap.size 37 1 v done.length (done.map fun a=>.int .u64 (dlOf S a))∧Below w.heap.size w wr
set_option maxHeartbeats 4000000 in
theorem least_at (h:WheelAt B S w) {l s:Int} {L:List Nat} (hT:Trail S.c.link (firstOf (S.c.head (l,s))) L) (hL:∀a∈L,a<B.c.room∧∃t,LiveAt S.p a t) (hn:L.length≤64) :
 Calls Tryz.prog 190 #[.pointer (some ⟨B.b,0,none⟩),.agg #[.int .i64 l,.int .i64 s]] w fun e w'=>
 e=.returned (.tuple #[.int .u64 (Lib.minOf (L.map (dlOf S))),.bool (decide (L≠[]))])∧Below w.heap.size w w':=by
 have hlw:=h.lt;obtain⟨i0,hi,hz0,hz1,hz2⟩:=info_parts infoD37;go_enter Tryz.func190,Tryz.ntmps190;have hBa:Below w.heap.size w (w.alloc (Obj.cells #[.int .i64 l,.int .i64 s] 219)):=(Below.refl _ w).alloc (Nat.le_refl _) _;have h0:=h.below hBa hlw;have hX:=Blk.new w #[.int .i64 l,.int .i64 s] 219;go_wp2;generalize w.alloc (Obj.cells #[.int .i64 l,.int .i64 s] 219)=w2 at *;have hl2:=h0.lt;have c1:∀x:WX w2,x.w.cell? ⟨B.b,1,none⟩=some (.pointer (some ⟨B.c.b,0,none⟩)):=h0.blk.wx 1 rfl;have c2:∀x:WX w2,x.w.cell? ⟨w.heap.size,0,none⟩=some (.int .i64 l):=hX.wx 0 rfl;have c3:∀x:WX w2,x.w.cell? ⟨w.heap.size,1,none⟩=some (.int .i64 s):=hX.wx 1 rfl;refine wp_region_grown (by kernel_rfl) (by kernel_rfl) ?_
 repeat (go_big_quiet_step (first|(go_at_call 245;exact WX.of (first_of (h0.below (by first|assumption|exact WX.h _) hl2).chain l s))))
 refine wpQuiet_nil ?_;intro w5 hb5;have h5:=h0.below hb5 hl2;have hB5:Below w.heap.size w w5:=hBa.trans (hb5.mono hBa.size);clear c1 c2 c3 hX hb5 hBa;go_wp2
 go_loopg [6,7] L.length (fun g v i wr=>LeastRel B S w L g v i wr)
 case atStart=>exact⟨[],L,_,rfl,hT,rfl,rfl,World.ownsRow_nil _ _ _ _,hB5⟩
 case round=>
  obtain⟨done,rest,j,hLe,hTr,rfl,rfl,hO,hB⟩:=hrel;have HO:=Lib.hid hO;clear hO;have h6:=h.below hB hlw
  cases rest with
  |nil=>
    have hj:j=-1:=hTr;subst hj
    have hD:L=done:=by rw[hLe];simp
    have hE:done=[]→Value.tuple #[.int .u64 (Lib.minOf (L.map (dlOf S))),.bool (decide (L≠[]))]=.tuple #[.int .u64 0,.bool false]:=by
     intro e;rw[hD,e];rfl
    rcases HO.out with⟨hlen,⟨rfl,hd0⟩|⟨g,cap,cur,rfl,hbg,hg,hnc,hcm,hcs,htk⟩⟩
    ·have hd:done=[]:=List.eq_nil_of_length_eq_zero hd0
     clear hlen hD hLe;go_wp2;refine bodyPost_ret (v:=.tuple #[.int .u64 0,.bool false]) ?_ rfl ⟨by rw[hE hd],hB⟩;simp[results,Tryz.results190,go_sem]
    ·by_cases hd:done=[]
     ·have hd0:done.length=0:=by rw[hd];rfl
      clear hlen hD hLe hg hcs htk hnc;go_wp2;refine bodyPost_ret (v:=.tuple #[.int .u64 0,.bool false]) ?_ rfl ⟨by rw[hE hd],hB⟩;simp[results,Tryz.results190,go_sem]
     ·have hn0:0<done.length:=List.length_pos_iff.2 hd
      have hzl:(L.map (dlOf S)).length=done.length:=by rw[hD];simp
      have hmin:=min_u64 g done.length cap (L.map (dlOf S)) wr hn0 (by omega) (by rw[←hD];omega) (fun j hj=>by
       have hx:=HO.out.cells (g:=g) rfl j (.int .u64 ((L.map (dlOf S)).getD j 0)) (by rw[hD] at hj ⊢;simp at hj;simp[hj])
       have he:(⟨g,0,none⟩:Addr).add j=⟨g,j,none⟩:=by unfold Addr.add;by_cases h0:j=0<;>simp[h0]
       rw[he] at hx
       exact hx)
      have hminE:Lib.minOf ((L.map (dlOf S)).take done.length)=Lib.minOf (L.map (dlOf S)):=by rw[←hzl,List.take_length]
      rw[hminE] at hmin
      have hnz:((done.length:Int)==0)=false:=by simp;exact hd
      have hE2:Value.tuple #[.int .u64 (Lib.minOf (L.map (dlOf S))),.bool (decide (L≠[]))]=.tuple #[.int .u64 (Lib.minOf (L.map (dlOf S))),.bool true]:=by
       have:L≠[]:=by rw[hD];exact hd
       simp[this]
      clear hlen hD hLe hg hcs htk hnc hminE hzl
      go_wp2_with (go_at_call 259;fail)
      refine hmin.mono ?_;rintro e w7 ⟨rfl,rfl⟩;go_wp2;refine bodyPost_ret (v:=.tuple #[.int .u64 (Lib.minOf (L.map (dlOf S))),.bool true]) ?_ rfl ⟨by rw[hE2],hB⟩;simp[results,Tryz.results190,go_sem]
  |cons a rest=>
    obtain⟨hj,hins,hTr'⟩:=hTr;subst hj;obtain⟨har,t,hLv⟩:=hL a (by rw[hLe];simp);clear h5 h0 hB5;have hlr:=h6.lt;have hP:∀W,Below wr.heap.size wr W→PoolAt B.p S.p W:=fun W hW=>(h6.below hW hlr).pool;have hS:∀W,Below wr.heap.size wr W→W.cell? ⟨B.b,0,none⟩=some (.pointer (some ⟨B.p.b,0,none⟩)):=fun W hW=>h6.blk.wx 0 rfl ⟨W,hW⟩
    go_upto_region 5 with fail
    go_cut [8,9] from 16 to 44 (fun p ok wx=>∃nb,p=.pointer (some ⟨nb,0,none⟩)∧ok=.bool true∧Below wr.heap.size wr wx∧Blk wx nb #[.int .u64 t.d,.int .u64 t.p,.int .u64 t.o] 226)
    case first=>
     have c0:=hS _ (Below.refl _ _)
     go_region_held3 (fun W=>W.cell? ⟨B.b,0,none⟩=some (.pointer (some ⟨B.p.b,0,none⟩))) (exact hS _ (by first|exact(Below.refl _ wr).drew|exact((Below.refl _ wr).drew).alloc (Nat.le_refl _) _|exact hbl8|exact hbl8.alloc hbl8.size _|exact hbl7|exact hbl7.alloc hbl7.size _|exact(((hbl8.setCell (by first|exact Nat.le_refl _|exact hbl7.size) _).setCell (by first|exact Nat.le_refl _|exact hbl7.size) _).setCell (by first|exact Nat.le_refl _|exact hbl7.size) _))) (first|(go_at_call 110;refine(handle_live (hP _ (by first|exact(Below.refl _ wr).drew|exact((Below.refl _ wr).drew).alloc (Nat.le_refl _) _)) hLv).mono ?_;rintro e w7 ⟨rfl,hb7⟩;first|(have hNk:Blk w7 wr.heap.size #[.int .u64 0,.int .u64 0,.int .u64 0] 226:=(Blk.new wr.drew #[.int .u64 0,.int .u64 0,.int .u64 0] 226).below hb7 (Blk.new wr.drew #[.int .u64 0,.int .u64 0,.int .u64 0] 226).lt;have hbl7:Below wr.heap.size wr w7:=(((Below.refl _ wr).drew).alloc (Nat.le_refl _) _).trans (hb7.mono (by simp)))|(have hbl7:Below wr.heap.size wr w7:=((Below.refl _ wr).drew).trans hb7))|(go_at_call 112;first|(refine(get_live (hP _ hbl7) hLv).mono ?_;rintro e w8 ⟨rfl,hb8⟩;have hbl8:Below wr.heap.size wr w8:=hbl7.trans (hb8.mono hbl7.size);try (have hNk8:Blk w8 wr.heap.size #[.int .u64 0,.int .u64 0,.int .u64 0] 226:=hNk.below hb8 hNk.lt;have q0:=hNk8.cell 0 rfl;have q1:=hNk8.cell 1 rfl;have q2:=hNk8.cell 2 rfl;have f0:=hNk8.free 0;have f1:=hNk8.free 1;have f2:=hNk8.free 2))|(refine(get_live (hP _ (hbl7.alloc hbl7.size _)) hLv).mono ?_;rintro e w8 ⟨rfl,hb8⟩;have hbl8:Below wr.heap.size wr w8:=(hbl7.alloc hbl7.size _).trans (hb8.mono (by have:=hbl7.size;simp;omega));have hNk8:Blk w8 w7.heap.size #[.int .u64 0,.int .u64 0,.int .u64 0] 226:=(Blk.new w7 #[.int .u64 0,.int .u64 0,.int .u64 0] 226).below hb8 (Blk.new w7 #[.int .u64 0,.int .u64 0,.int .u64 0] 226).lt;have q0:=hNk8.cell 0 rfl;have q1:=hNk8.cell 1 rfl;have q2:=hNk8.cell 2 rfl;have f0:=hNk8.free 0;have f1:=hNk8.free 1;have f2:=hNk8.free 2)))
     all_goals (go_wp2_with fail)
     ·go_meet
      exact⟨w8.heap.size,rfl,rfl,hbl8.alloc hbl8.size _,Blk.new _ _ _⟩
     ·go_meet
      exact⟨w7.heap.size,rfl,rfl,((hbl8.setCell (p:=⟨w7.heap.size,0,none⟩) hbl7.size _).setCell (p:=⟨w7.heap.size,1,none⟩) hbl7.size _).setCell (p:=⟨w7.heap.size,2,none⟩) hbl7.size _,((hNk8.set 0 _).set 1 _).set 2 _⟩
     ·go_meet
      exact⟨wr.heap.size,rfl,rfl,((hbl8.setCell (p:=⟨wr.heap.size,0,none⟩) (Nat.le_refl _) _).setCell (p:=⟨wr.heap.size,1,none⟩) (Nat.le_refl _) _).setCell (p:=⟨wr.heap.size,2,none⟩) (Nat.le_refl _) _,((hNk8.set 0 _).set 1 _).set 2 _⟩
    case rest=>
     obtain⟨nb,rfl,rfl,hBc,hNb⟩:=hcut
     have hOc:wc.ownsRow w.heap.size 37 1 u6 done.length (done.map fun a=>.int .u64 (dlOf S a)):=HO.out.kept (grown_of_below hBc none) (by cases hv:Value.ownBlock u6<;>simp)
     have hBw:Below w.heap.size w wc:=hB.trans (hBc.mono hB.size);have e0:wc.cell? ⟨nb,0,none⟩=some (.int .u64 t.d):=hNb.cell 0 rfl;clear hS hP h6 hlr hNb
     have hdn:done.length+1≤64:=by rw[hLe] at hn;simp at hn;omega
     have hdl:dlOf S a=(t.d:Int):=by unfold dlOf;rw[hLv.ent]
     go_wp2_with (at_builtin;refine wpList_append_own _ rfl _ _ 56 rfl w.heap.size 37 i0 (.int .u64 0) 1 8 underlying56 hi hz0 hz1 hz2 rfl (by decide) _ _ _ rfl (hOc.alloc _) ⟨wc.heap.size,0,none⟩ 1 1 [.int .u64 t.d] rfl rfl ?c1 ?c2 ?c3 ?c4 ?c5 ?_)
     case c1=>
      intro j u hj
      match j,hj with
      | 0,hj=>simp at hj;subst hj;simp[Addr.add]
     case c2=>intro u hu;simp at hu;subst hu;rfl
     case c3=>unfold maxLen;omega
     case c4=>omega
     case c5=>have:=hBw.size;simp;omega
     ·intro v' w1 hown' hgrow _
      have hlt:=(hOc.alloc (Obj.cells #[.int .u64 t.d] 37)).lt;have hB1:Below w.heap.size w w1:=(hBw.alloc hBw.size _).grown hgrow (by have:=hBw.size;simp;omega) (fun k e=>(hlt k e).1);have h1:=h.below hB1 hlw;have c1:w1.cell? ⟨B.b,1,none⟩=some (.pointer (some ⟨B.c.b,0,none⟩)):=h1.blk.cell 1 rfl;have hnx:=next_at h1.chain har hins
      have hown2:w1.ownsRow w.heap.size 37 1 v' (done++[a]).length ((done++[a]).map fun a=>.int .u64 (dlOf S a)):=by
       have e1:(done++[a]).length=done.length+1:=by simp
       have e2:((done++[a]).map fun a=>Value.int .u64 (dlOf S a))=(done.map fun a=>Value.int .u64 (dlOf S a))++[.int .u64 t.d]:=by simp[hdl]
       rw[e1,e2];exact hown'
      have hH:=Lib.hid hown2;clear hown' hgrow hown2 hlt hOc HO hdl hdn
      go_wp2_with (go_at_call 246;fail)
      refine hnx.mono ?_;rintro e w9 ⟨rfl,hb9⟩
      have hO9:=hH.out.kept (grown_of_below hb9 none) (by cases hv:Value.ownBlock v'<;>simp)
      go_wp2
      go_roundg rest.length
      case measure=>simp
      case rel=>exact⟨done++[a],rest,_,by rw[hLe];simp,hTr',rfl,rfl,hO9,hB1.trans (hb9.mono hB1.size)⟩
end
end Go.Proofs.YtkndlfdpmpdihaaGreatDoor
