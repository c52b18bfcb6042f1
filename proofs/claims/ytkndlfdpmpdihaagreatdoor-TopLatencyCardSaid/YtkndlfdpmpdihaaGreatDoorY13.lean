/- Chains: the only thing of a chain goes. Chains: the first thing of a chain goes, others stay. The wheel, told by what it holds; its parts turned. Chains: a thing comes, the first one goes: both ways in one. Conditions: those that each statement shows. -/
import Derived.Test.YtkndlfdpmpdihaaGreatDoorY12
import Derived.Test.YtkndlfdpmpdihaaGreatDoorY11
import Derived.Deep.RegionHeld3
namespace Go.Proofs.YtkndlfdpmpdihaaGreatDoor
open Go.RowKit Go.Ev Go.Mv
set_option linter.unusedVariables false
set_option linter.unusedSimpArgs false
set_option maxRecDepth 100000
theorem wp_that {P:Program} {c:Code} {Q:Exit→Act→World→Prop} {a:Act} {w:World} (R:World→Prop) (hR:R w) (h:∀W,R W→c.wp P Q a W):c.wp P Q a w:=h w hR
def lk0:Lk:=⟨0,0,false,0,0⟩
section
variable {B:CB} {S:CS} {w w':World}
theorem remove_one (h:ChainAt B S w) {i:Nat} (hi:i<B.room) {l s:Int} (hk:S.link i=⟨l,s,true,-1,-1⟩) {x:Hd} (hh:S.head (l,s)=some x) (hn:x.n=1):Calls Tryz.prog 133 #[.pointer (some ⟨B.b,0,none⟩),.int .i64 i] w fun e w'=>
 e=.returned (.bool true)∧Tch B.own w w'∧ChainAt B ⟨fset S.head (l,s) none,fset S.link i lk0⟩ w':=by
 have his:=is_at h hi;rw[hk] at his;have hl:=h.lt;go_enter Tryz.func133,Tryz.ntmps133
 go_wp2_with (go_at_call 194;fail)
 refine his.mono ?_;rintro e w1 ⟨rfl,hb1⟩;have h1:=h.below hb1 hl;have c1:w1.cell? ⟨B.b,1,none⟩=some (.slice (some ⟨B.lb,0,none⟩) B.room B.room):=h1.blk.cell 1 rfl;have c2:w1.cell? ⟨B.lb,i*5,none⟩=some (.int .i64 l):=h1.cell hi 0 (by omega) (by rw[hk];rfl) (by omega);have c3:w1.cell? ⟨B.lb,i*5+1,none⟩=some (.int .i64 s):=h1.cell hi 1 (by omega) (by rw[hk];rfl) (by omega);have c4:w1.cell? ⟨B.lb,i*5+2,none⟩=some (.bool true):=h1.cell hi 2 (by omega) (by rw[hk];rfl) (by omega);have c5:w1.cell? ⟨B.lb,i*5+3,none⟩=some (.int .i64 (-1)):=h1.cell hi 3 (by omega) (by rw[hk];rfl) (by omega);have c6:w1.cell? ⟨B.lb,i*5+4,none⟩=some (.int .i64 (-1)):=h1.cell hi 4 (by omega) (by rw[hk];rfl) (by omega)
 have hi':(i:Int)<(B.room:Int):=by omega
 go_wp2;clear c1 c2 c3 c4 c5 c6;have hB1:Below w.heap.size w (w1.alloc (.cells #[.int .i64 l,.int .i64 s,.bool true,.int .i64 (-1),.int .i64 (-1)] 340)):=hb1.alloc hb1.size _;have hX:=Blk.new w1 #[.int .i64 l,.int .i64 s,.bool true,.int .i64 (-1),.int .i64 (-1)] 340;have h0:=h.below hB1 hl;have hxs:=hb1.size;generalize w1.alloc (.cells #[.int .i64 l,.int .i64 s,.bool true,.int .i64 (-1),.int .i64 (-1)] 340)=w2 at *;generalize w1.heap.size=xb at *;have hl2:=h0.lt;have hlk:=fun(W:World) (hW:Below w2.heap.size w2 W)=>(h0.below hW hl2).look1 l s;rw[hh] at hlk;obtain⟨xfi,xla,xn⟩:=x;simp only at hn;subst hn
 let z:Array Value:=#[Value.int .i64 0,Value.int .i64 0,Value.int .i64 0]
 let zs:Array Value:=#[Value.int .i64 xfi,Value.int .i64 xla,Value.int .i64 1]
 haveI:Nonempty (Thr (NewE w2 346 z zs)):=⟨⟨0,w2,Below.refl _ _,rfl⟩⟩;have c1:∀x:Thr (NewE w2 346 z zs),x.w.cell? ⟨B.b,0,none⟩=some (.map (some B.hb)):=NewE.cell h0.blk 0 rfl;have c2:∀x:Thr (NewE w2 346 z zs),x.w.cell? ⟨xb,0,none⟩=some (.int .i64 l):=NewE.cell hX 0 rfl;have c3:∀x:Thr (NewE w2 346 z zs),x.w.cell? ⟨xb,1,none⟩=some (.int .i64 s):=NewE.cell hX 1 rfl;refine wp_region_thr (NewE w2 346 z zs) 7 8 (by decide) (by kernel_rfl) (by kernel_rfl) ⟨(Below.refl _ _).drew,rfl⟩ ?_
 (repeat (first|(refine lexT_skip (by rfl) (by decide) ?_;simp only[Act.put,List.setIfInBounds_toArray,List.set_cons_succ,List.set_cons_zero])|(refine lexT_want (by rfl) (by decide) (by rfl) ?_;intro K hK;go_big_quiet_op;refine hK _ ?_;clear hK K)))
 refine lexT_plain (by rfl) (by decide) (.agg #[Value.int .i64 xfi,Value.int .i64 xla,Value.int .i64 1]) (fun x=>does_look _ _ rfl x.h (hlk x.w x.h.below)) ?_;simp only[Act.put,List.setIfInBounds_toArray,List.set_cons_succ,List.set_cons_zero]
 (repeat (first|(refine lexT_skip (by rfl) (by decide) ?_;simp only[Act.put,List.setIfInBounds_toArray,List.set_cons_succ,List.set_cons_zero])|(refine lexT_want (by rfl) (by decide) (by rfl) ?_;intro K hK;go_big_quiet_op;refine hK _ ?_;clear hK K)))
 refine lexT_turn1 (by rfl) (by rfl) _ (new_alloc rfl alloc346) ?_;simp only[Act.put,List.setIfInBounds_toArray,List.set_cons_succ,List.set_cons_zero];refine lexT_turn2 (by rfl) (by rfl) (by decide) undef (fun W hW=>?_) ?_
 ·have hb:=NewE.blk1 hW
  have q0:=hb.cell 0 rfl;have q1:=hb.cell 1 rfl;have q2:=hb.cell 2 rfl;have f0:=hb.free 0;have f1:=hb.free 1;have f2:=hb.free 2;unfold does
  go_simp
  exact⟨⟨((hW.1.setCell (Nat.le_refl _) _).setCell (Nat.le_refl _) _).setCell (Nat.le_refl _) _,((hb.set 0 _).set 1 _).set 2 _⟩,rfl⟩
 simp only[Act.put,List.setIfInBounds_toArray,List.set_cons_succ,List.set_cons_zero]
 (repeat (first|(refine lexT_skip (by rfl) (by decide) ?_;simp only[Act.put,List.setIfInBounds_toArray,List.set_cons_succ,List.set_cons_zero])|(refine lexT_want (by rfl) (by decide) (by rfl) ?_;intro K hK;go_big_quiet_op;refine hK _ ?_;clear hK K)))
 intro w3 hw3;have hn3:=NewE.blk2 hw3;have hbel3:=hw3.1;have h3:=h0.below hbel3 hl2;have hX3:=hX.below hbel3 hX.lt;have hB3:Below w.heap.size w w3:=hB1.trans (hbel3.mono hB1.size);have hsz2:=hB1.size;have hxl:=hX.lt;generalize w2.heap.size=nb at *;have q0:w3.cell? ⟨nb,0,none⟩=some (.int .i64 xfi):=hn3.cell 0 rfl;have q1:w3.cell? ⟨nb,1,none⟩=some (.int .i64 xla):=hn3.cell 1 rfl;have q2:w3.cell? ⟨nb,2,none⟩=some (.int .i64 1):=hn3.cell 2 rfl;have f0:=hn3.free 0;have f1:=hn3.free 1;have f2:=hn3.free 2;have p3:w3.cell? ⟨xb,3,none⟩=some (.int .i64 (-1)):=hX3.cell 3 rfl;have p4:w3.cell? ⟨xb,4,none⟩=some (.int .i64 (-1)):=hX3.cell 4 rfl
 have hxn:xb≠nb:=by omega
 have d1:w3.cell? ⟨B.b,1,none⟩=some (.slice (some ⟨B.lb,0,none⟩) B.room B.room):=h3.blk.cell 1 rfl;have hl3:=h3.lt;have hap3:=h3.apart
 have hlbn:B.lb≠nb:=by omega
 have hlbx:B.lb≠xb:=by omega
 have hbn:B.b≠nb:=by omega
 have g0:=lcell h3.link hi 0 (by omega) (v:=.int .i64 l) (by rw[hk];rfl) (o:=i*5) (by omega);have g1:=lcell h3.link hi 1 (by omega) (v:=.int .i64 s) (by rw[hk];rfl) (o:=i*5+1) (by omega);have g2:=lcell h3.link hi 2 (by omega) (v:=.bool true) (by rw[hk];rfl) (o:=i*5+2) (by omega);have g3:=lcell h3.link hi 3 (by omega) (v:=.int .i64 (-1)) (by rw[hk];rfl) (o:=i*5+3) (by omega);have g4:=lcell h3.link hi 4 (by omega) (v:=.int .i64 (-1)) (by rw[hk];rfl) (o:=i*5+4) (by omega);have u0:=h3.link.free (i*5);have u1:=h3.link.free (i*5+1);have u2:=h3.link.free (i*5+2);have u3:=h3.link.free (i*5+3);have u4:=h3.link.free (i*5+4);clear c1 c2 c3 hlk hw3;go_wp2;clear q0 q1 q2 f0 f1 f2 p3 p4 d1 g0 g1 g2 g3 g4 u0 u1 u2 u3 u4;refine wp_that (fun W=>Tch B.own w W∧ChainAt B ⟨S.head,fset S.link i lk0⟩ W∧Blk W xb #[.int .i64 l,.int .i64 s,.bool true,.int .i64 (-1),.int .i64 (-1)] 340∧Blk W nb #[.int .i64 (-1),.int .i64 (-1),.int .i64 0] 346) ?_ ?_
 ·have t3:Tch B.own w w3:=Tch.of_below hB3
  have t4:=((t3.setCell (a:=⟨nb,0,none⟩) (.int .i64 (-1)) (.inr hsz2)).setCell (a:=⟨nb,1,none⟩) (.int .i64 (-1)) (.inr hsz2)).setCell (a:=⟨nb,2,none⟩) (.int .i64 0) (.inr hsz2);have n4:=((hn3.set 0 (.int .i64 (-1))).set 1 (.int .i64 (-1))).set 2 (.int .i64 0);have x4:=((hX3.set_ne 0 (.int .i64 (-1)) (c:=nb) (by omega)).set_ne 1 (.int .i64 (-1)) (c:=nb) (by omega)).set_ne 2 (.int .i64 0) (c:=nb) (by omega);have b4:=((Tch.refl (fun r=>r=nb) w3).setCell (a:=⟨nb,0,none⟩) (.int .i64 (-1)) (.inl rfl)).setCell (a:=⟨nb,1,none⟩) (.int .i64 (-1)) (.inl rfl) |>.setCell (a:=⟨nb,2,none⟩) (.int .i64 0) (.inl rfl);have h4:=h3.tch b4 (by omega) (by omega) (by omega);generalize World.setCell (World.setCell (World.setCell w3 ⟨nb,0,none⟩ (.int .i64 (-1))) ⟨nb,1,none⟩ (.int .i64 (-1))) ⟨nb,2,none⟩ (.int .i64 0)=w4 at *;have own:B.own B.lb:=.inr rfl;have t5:=((((t4.setCell (a:=⟨B.lb,i*5,none⟩) (.int .i64 0) (.inl own)).setCell (a:=⟨B.lb,i*5+1,none⟩) (.int .i64 0) (.inl own)).setCell (a:=⟨B.lb,i*5+2,none⟩) (.bool false) (.inl own)).setCell (a:=⟨B.lb,i*5+3,none⟩) (.int .i64 0) (.inl own)).setCell (a:=⟨B.lb,i*5+4,none⟩) (.int .i64 0) (.inl own);have b5:=(((((Tch.refl (fun r=>r=B.lb) w4).setCell (a:=⟨B.lb,i*5,none⟩) (.int .i64 0) (.inl rfl)).setCell (a:=⟨B.lb,i*5+1,none⟩) (.int .i64 0) (.inl rfl)).setCell (a:=⟨B.lb,i*5+2,none⟩) (.bool false) (.inl rfl)).setCell (a:=⟨B.lb,i*5+3,none⟩) (.int .i64 0) (.inl rfl)).setCell (a:=⟨B.lb,i*5+4,none⟩) (.int .i64 0) (.inl rfl);have hs:=((((h4.link.set (i*5) (.int .i64 0)).set (i*5+1) (.int .i64 0)).set (i*5+2) (.bool false)).set (i*5+3) (.int .i64 0)).set (i*5+4) (.int .i64 0);rw[links_row _ _ _ hi ⟨0,0,false,0,0⟩] at hs;exact⟨t5,h4.links b5 hs,(b5.block _ x4.lt (by omega)).trans x4,(b5.block _ n4.lt (by omega)).trans n4⟩
 rintro w5 ⟨hF5,h5,hX5,hn5⟩;obtain⟨m,hm⟩:=h5.head;have hlx5:=h5.lt;have hap5:=h5.apart;obtain⟨o,hrun,hmap⟩:=hm.putK under341 (l,s) (Hd.v ⟨-1,-1,0⟩);have hne:=mapE_ne w5 B.hb o;haveI:=hne.1;haveI:=hne.2;have c1:∀x:One (MapE w5 B.hb o false),x.w.cell? ⟨B.b,0,none⟩=some (.map (some B.hb)):=mapE_one h5.blk (by omega) 0 rfl;have c2:∀x:One (MapE w5 B.hb o false),x.w.cell? ⟨xb,0,none⟩=some (.int .i64 l):=mapE_one hX5 (by omega) 0 rfl;have c3:∀x:One (MapE w5 B.hb o false),x.w.cell? ⟨xb,1,none⟩=some (.int .i64 s):=mapE_one hX5 (by omega) 1 rfl;have c4:∀x:One (MapE w5 B.hb o false),x.w.cell? ⟨nb,0,none⟩=some (.int .i64 (-1)):=mapE_one hn5 (by omega) 0 rfl;have c5:∀x:One (MapE w5 B.hb o false),x.w.cell? ⟨nb,1,none⟩=some (.int .i64 (-1)):=mapE_one hn5 (by omega) 1 rfl;have c6:∀x:One (MapE w5 B.hb o false),x.w.cell? ⟨nb,2,none⟩=some (.int .i64 0):=mapE_one hn5 (by omega) 2 rfl;refine wp_region_two (MapE w5 B.hb o) 7 (by decide) (by kernel_rfl) (by kernel_rfl) ⟨(Tch.refl _ _).drew,rfl⟩ ?_
 (repeat (first|(refine lexS_skip (by rfl) (by decide) ?_;simp only[Act.put,List.setIfInBounds_toArray,List.set_cons_succ,List.set_cons_zero])|(refine lexS_ewant (by rfl) (by decide) (by kernel_rfl) (by rfl) ?_;intro K hK;go_big_quiet_op;refine hK _ ?_;clear hK K)))
 refine lexS_turn (by rfl) (by rfl) undef (mapE_upd rfl hlx5.2.1 hrun) ?_;simp only[Act.put,List.setIfInBounds_toArray,List.set_cons_succ,List.set_cons_zero];refine fun w6 hw6=>?_;have hm6:=hmap w6 hw6.2;have e2:=head_set S.head (l,s) (some ⟨-1,-1,0⟩);have hm7:∃n,MapIs KP w6 B.hb (fun a=>(fset S.head (l,s) (some ⟨-1,-1,0⟩) a).map Hd.v) n:=⟨_,by rw[←e2];exact hm6⟩;obtain⟨n6,hm7⟩:=hm7;have h6:=h5.heads hw6.1 hm7;have hF6:Tch B.own w w6:=hF5.trans' hw6.1 (fun j _ hj=>.inl hj);have hX6:Blk w6 xb _ 340:=(hw6.1.block _ hX5.lt (by omega)).trans hX5;have hn6:Blk w6 nb _ 346:=(hw6.1.block _ hn5.lt (by omega)).trans hn5;have q2:w6.cell? ⟨nb,2,none⟩=some (.int .i64 0):=hn6.cell 2 rfl;clear c1 c2 c3 c4 c5 c6 hrun hmap hne hm6 e2 hm7 hw6;go_wp2;obtain⟨m',hm'⟩:=h6.head;have hlx6:=h6.lt;obtain⟨o',hrun,hmap⟩:=hm'.delK (ts:=#[341,219]) (ty:=0) rfl under341 (l,s);have hne:=mapE_ne w6 B.hb o';haveI:=hne.1;haveI:=hne.2;have c1:∀x:One (MapE w6 B.hb o' false),x.w.cell? ⟨B.b,0,none⟩=some (.map (some B.hb)):=mapE_one h6.blk (by omega) 0 rfl;have c2:∀x:One (MapE w6 B.hb o' false),x.w.cell? ⟨xb,0,none⟩=some (.int .i64 l):=mapE_one hX6 (by omega) 0 rfl;have c3:∀x:One (MapE w6 B.hb o' false),x.w.cell? ⟨xb,1,none⟩=some (.int .i64 s):=mapE_one hX6 (by omega) 1 rfl;refine wp_region_two (MapE w6 B.hb o') 6 (by decide) (by kernel_rfl) (by kernel_rfl) ⟨(Tch.refl _ _).drew,rfl⟩ ?_
 (repeat (first|(refine lexS_skip (by rfl) (by decide) ?_;simp only[Act.put,List.setIfInBounds_toArray,List.set_cons_succ,List.set_cons_zero])|(refine lexS_ewant (by rfl) (by decide) (by kernel_rfl) (by rfl) ?_;intro K hK;go_big_quiet_op;refine hK _ ?_;clear hK K)))
 refine lexS_turn (by rfl) (by rfl) (.tuple #[]) (fun W hW=>?_) ?_
 ·have q0:=hrun W hW.2
  unfold does
  go_simp
  rw[show Value.agg #[Value.int .i64 l,Value.int .i64 s]=KK (l,s).1 (l,s).2 from rfl,q0];exact⟨⟨hW.1.put _ (.inl rfl),putO_at (Nat.lt_of_lt_of_le hlx6.2.1 hW.1.size)⟩,rfl⟩
 simp only[Act.put,List.setIfInBounds_toArray,List.set_cons_succ,List.set_cons_zero];refine fun w8 hw8=>?_;have hm8:=hmap w8 hw8.2;have e2:=head_set (fset S.head (l,s) (some ⟨-1,-1,0⟩)) (l,s) none;rw[fset_fset] at e2;have hm9:∃n,MapIs KP w8 B.hb (fun a=>(fset S.head (l,s) none a).map Hd.v) n:=⟨_,by rw[←e2];exact hm8⟩;obtain⟨n8,hm9⟩:=hm9;have h8:=h6.heads hw8.1 hm9;have hF8:Tch B.own w w8:=hF6.trans' hw8.1 (fun j _ hj=>.inl hj);go_wp2;refine bodyPost_ret (v:=.bool true) ?_ rfl ⟨rfl,hF8,h8⟩;simp[results,Tryz.results133,go_sem]
end
section
variable {B:CB} {S:CS} {w w':World}
theorem remove_front (h:ChainAt B S w) {i:Nat} (hi:i<B.room) {l s:Int} {p:Nat} (hk:S.link i=⟨l,s,true,-1,p⟩) (hpr:p<B.room) (hpi:p≠i) {x:Hd} (hh:S.head (l,s)=some x) {nn:Nat} (hn:x.n=nn) (hn2:2≤nn∧nn<4294967296):Calls Tryz.prog 133 #[.pointer (some ⟨B.b,0,none⟩),.int .i64 i] w fun e w'=>
 e=.returned (.bool true)∧Tch B.own w w'∧ChainAt B ⟨fset S.head (l,s) (some ⟨p,x.la,x.n-1⟩),fset (fset S.link p { S.link p with ah:=-1 }) i lk0⟩ w':=by
 have his:=is_at h hi;rw[hk] at his;have hl:=h.lt;go_enter Tryz.func133,Tryz.ntmps133
 go_wp2_with (go_at_call 194;fail)
 refine his.mono ?_;rintro e w1 ⟨rfl,hb1⟩;have h1:=h.below hb1 hl;have c1:w1.cell? ⟨B.b,1,none⟩=some (.slice (some ⟨B.lb,0,none⟩) B.room B.room):=h1.blk.cell 1 rfl;have c2:w1.cell? ⟨B.lb,i*5,none⟩=some (.int .i64 l):=h1.cell hi 0 (by omega) (by rw[hk];rfl) (by omega);have c3:w1.cell? ⟨B.lb,i*5+1,none⟩=some (.int .i64 s):=h1.cell hi 1 (by omega) (by rw[hk];rfl) (by omega);have c4:w1.cell? ⟨B.lb,i*5+2,none⟩=some (.bool true):=h1.cell hi 2 (by omega) (by rw[hk];rfl) (by omega);have c5:w1.cell? ⟨B.lb,i*5+3,none⟩=some (.int .i64 (-1)):=h1.cell hi 3 (by omega) (by rw[hk];rfl) (by omega);have c6:w1.cell? ⟨B.lb,i*5+4,none⟩=some (.int .i64 p):=h1.cell hi 4 (by omega) (by rw[hk];rfl) (by omega)
 have hi':(i:Int)<(B.room:Int):=by omega
 go_wp2;clear c1 c2 c3 c4 c5 c6;have hB1:Below w.heap.size w (w1.alloc (.cells #[.int .i64 l,.int .i64 s,.bool true,.int .i64 (-1),.int .i64 p] 340)):=hb1.alloc hb1.size _;have hX:=Blk.new w1 #[.int .i64 l,.int .i64 s,.bool true,.int .i64 (-1),.int .i64 p] 340;have h0:=h.below hB1 hl;have hxs:=hb1.size;generalize w1.alloc (.cells #[.int .i64 l,.int .i64 s,.bool true,.int .i64 (-1),.int .i64 p] 340)=w2 at *;generalize w1.heap.size=xb at *;have hl2:=h0.lt;have hlk:=fun(W:World) (hW:Below w2.heap.size w2 W)=>(h0.below hW hl2).look1 l s;rw[hh] at hlk;obtain⟨xfi,xla,xn⟩:=x;simp only at hn;subst hn
 let z:Array Value:=#[Value.int .i64 0,Value.int .i64 0,Value.int .i64 0]
 let zs:Array Value:=#[Value.int .i64 xfi,Value.int .i64 xla,Value.int .i64 nn]
 haveI:Nonempty (Thr (NewE w2 346 z zs)):=⟨⟨0,w2,Below.refl _ _,rfl⟩⟩;have c1:∀x:Thr (NewE w2 346 z zs),x.w.cell? ⟨B.b,0,none⟩=some (.map (some B.hb)):=NewE.cell h0.blk 0 rfl;have c2:∀x:Thr (NewE w2 346 z zs),x.w.cell? ⟨xb,0,none⟩=some (.int .i64 l):=NewE.cell hX 0 rfl;have c3:∀x:Thr (NewE w2 346 z zs),x.w.cell? ⟨xb,1,none⟩=some (.int .i64 s):=NewE.cell hX 1 rfl;refine wp_region_thr (NewE w2 346 z zs) 7 8 (by decide) (by kernel_rfl) (by kernel_rfl) ⟨(Below.refl _ _).drew,rfl⟩ ?_
 (repeat (first|(refine lexT_skip (by rfl) (by decide) ?_;simp only[Act.put,List.setIfInBounds_toArray,List.set_cons_succ,List.set_cons_zero])|(refine lexT_want (by rfl) (by decide) (by rfl) ?_;intro K hK;go_big_quiet_op;refine hK _ ?_;clear hK K)))
 refine lexT_plain (by rfl) (by decide) (.agg #[Value.int .i64 xfi,Value.int .i64 xla,Value.int .i64 nn]) (fun x=>does_look _ _ rfl x.h (hlk x.w x.h.below)) ?_;simp only[Act.put,List.setIfInBounds_toArray,List.set_cons_succ,List.set_cons_zero]
 (repeat (first|(refine lexT_skip (by rfl) (by decide) ?_;simp only[Act.put,List.setIfInBounds_toArray,List.set_cons_succ,List.set_cons_zero])|(refine lexT_want (by rfl) (by decide) (by rfl) ?_;intro K hK;go_big_quiet_op;refine hK _ ?_;clear hK K)))
 refine lexT_turn1 (by rfl) (by rfl) _ (new_alloc rfl alloc346) ?_;simp only[Act.put,List.setIfInBounds_toArray,List.set_cons_succ,List.set_cons_zero];refine lexT_turn2 (by rfl) (by rfl) (by decide) undef (fun W hW=>?_) ?_
 ·have hb:=NewE.blk1 hW
  have q0:=hb.cell 0 rfl;have q1:=hb.cell 1 rfl;have q2:=hb.cell 2 rfl;have f0:=hb.free 0;have f1:=hb.free 1;have f2:=hb.free 2;unfold does
  go_simp
  exact⟨⟨((hW.1.setCell (Nat.le_refl _) _).setCell (Nat.le_refl _) _).setCell (Nat.le_refl _) _,((hb.set 0 _).set 1 _).set 2 _⟩,rfl⟩
 simp only[Act.put,List.setIfInBounds_toArray,List.set_cons_succ,List.set_cons_zero]
 (repeat (first|(refine lexT_skip (by rfl) (by decide) ?_;simp only[Act.put,List.setIfInBounds_toArray,List.set_cons_succ,List.set_cons_zero])|(refine lexT_want (by rfl) (by decide) (by rfl) ?_;intro K hK;go_big_quiet_op;refine hK _ ?_;clear hK K)))
 intro w3 hw3;have hn3:=NewE.blk2 hw3;have hbel3:=hw3.1;have h3:=h0.below hbel3 hl2;have hX3:=hX.below hbel3 hX.lt;have hB3:Below w.heap.size w w3:=hB1.trans (hbel3.mono hB1.size);have hsz2:=hB1.size;have hxl:=hX.lt;generalize w2.heap.size=nb at *;have q0:w3.cell? ⟨nb,0,none⟩=some (.int .i64 xfi):=hn3.cell 0 rfl;have q1:w3.cell? ⟨nb,1,none⟩=some (.int .i64 xla):=hn3.cell 1 rfl;have q2:w3.cell? ⟨nb,2,none⟩=some (.int .i64 nn):=hn3.cell 2 rfl;have f0:=hn3.free 0;have f1:=hn3.free 1;have f2:=hn3.free 2;have p3:w3.cell? ⟨xb,3,none⟩=some (.int .i64 (-1)):=hX3.cell 3 rfl;have p4:w3.cell? ⟨xb,4,none⟩=some (.int .i64 p):=hX3.cell 4 rfl
 have hxn:xb≠nb:=by omega
 have d1:w3.cell? ⟨B.b,1,none⟩=some (.slice (some ⟨B.lb,0,none⟩) B.room B.room):=h3.blk.cell 1 rfl;have hl3:=h3.lt;have hap3:=h3.apart
 have hlbn:B.lb≠nb:=by omega
 have hlbx:B.lb≠xb:=by omega
 have hbn:B.b≠nb:=by omega
 have hpi':((p:Int)==-1)=false:=by simp
 clear c1 c2 c3 hlk hw3;go_wp2;clear q0 q1 q2 f0 f1 f2 p3 p4 d1;have hn4:=hn3.set 0 (.int .i64 p);have hX4:=hX3.set_ne 0 (.int .i64 p) (c:=nb) (Ne.symm hxn);have b4:Tch (fun r=>r=nb) w3 (w3.setCell ⟨nb,0,none⟩ (.int .i64 p)):=(Tch.refl (fun r=>r=nb) w3).setCell _ (.inl rfl);have h4:=h3.tch b4 (by omega) (by omega) (by omega);have hF4:Tch B.own w (w3.setCell ⟨nb,0,none⟩ (.int .i64 p)):=(Tch.of_below hB3:Tch B.own w w3).setCell _ (.inr hsz2);generalize w3.setCell ⟨nb,0,none⟩ (.int .i64 p)=w4 at *;have hl4:=h4.lt;have hap4:=h4.apart
 let f1:Nat→Lk:=fset S.link p { S.link p with ah:=-1 }
 let vs:Bool→Array Value:=fun b=>if b then⟨linkCells f1 B.room⟩ else⟨linkCells S.link B.room⟩
 have hne:=one_ne (w2:=w4) (rb:=B.lb) (T:=340) (vs:=vs) h4.link;haveI:=hne.1;haveI:=hne.2;have c1:∀x:One (BlkE w4 B.lb 340 vs false),x.w.cell? ⟨B.b,1,none⟩=some (.slice (some ⟨B.lb,0,none⟩) B.room B.room):=blkE_one h4.blk (by omega) 1 rfl;have c2:∀x:One (BlkE w4 B.lb 340 vs false),x.w.cell? ⟨xb,3,none⟩=some (.int .i64 (-1)):=blkE_one hX4 (by omega) 3 rfl;have c3:∀x:One (BlkE w4 B.lb 340 vs false),x.w.cell? ⟨xb,4,none⟩=some (.int .i64 p):=blkE_one hX4 (by omega) 4 rfl
 have hp'':(p:Int)<(B.room:Int):=by omega
 refine wp_region_two (BlkE w4 B.lb 340 vs) 10 (by decide) (by kernel_rfl) (by kernel_rfl) ⟨(Tch.refl _ _).drew,h4.link⟩ ?_
 (repeat (first|(refine lexS_skip (by rfl) (by decide) ?_;simp only[Act.put,List.setIfInBounds_toArray,List.set_cons_succ,List.set_cons_zero])|(refine lexS_ewant (by rfl) (by decide) (by kernel_rfl) (by rfl) ?_;intro K hK;go_big_quiet_op;refine hK _ ?_;clear hK K)))
 refine lexS_turn (by rfl) (by rfl) undef (fun W hW=>?_) ?_
 ·have hb:Blk W B.lb ⟨linkCells S.link B.room⟩ 340:=hW.2
  have q4:=lcell hb hpr 3 (by omega) rfl (o:=p*5+3) (by omega);have f4:=hb.free (p*5+3);unfold does
  go_simp
  have hs:=hb.set (p*5+3) (.int .i64 (-1));rw[links_one _ _ _ 3 hpr (by omega) (.int .i64 (-1)) { S.link p with ah:=-1 } rfl] at hs;exact⟨⟨hW.1.setCell _ (.inl rfl),hs⟩,rfl⟩
 simp only[Act.put,List.setIfInBounds_toArray,List.set_cons_succ,List.set_cons_zero];refine fun w5 hw5=>?_;have hl5:Blk w5 B.lb ⟨linkCells f1 B.room⟩ 340:=hw5.2;have h5:=h4.links hw5.1 hl5;have hX5:Blk w5 xb _ 340:=(hw5.1.block _ hX4.lt (by omega)).trans hX4;have hn5:Blk w5 nb _ 346:=(hw5.1.block _ hn4.lt (by omega)).trans hn4;have hF5:Tch B.own w w5:=hF4.trans' hw5.1 (fun j _ hj=>.inr hj);have hlk5:f1 i=⟨l,s,true,-1,p⟩:=(fset_ne _ _ (Ne.symm hpi)).trans hk;clear c1 c2 c3 hw5 hne h4 hX4 hn4 hF4 b4 hB3 h3 hX3 hn3 hl3 hap3 hl4 hap4 hbel3;have hl5':=h5.lt;have q2:w5.cell? ⟨nb,2,none⟩=some (.int .i64 nn):=hn5.cell 2 rfl;have f2:=hn5.free 2;have d1:w5.cell? ⟨B.b,1,none⟩=some (.slice (some ⟨B.lb,0,none⟩) B.room B.room):=h5.blk.cell 1 rfl;have g0:=lcell hl5 hi 0 (by omega) (v:=.int .i64 l) (by rw[hlk5];rfl) (o:=i*5) (by omega);have g1:=lcell hl5 hi 1 (by omega) (v:=.int .i64 s) (by rw[hlk5];rfl) (o:=i*5+1) (by omega);have g2:=lcell hl5 hi 2 (by omega) (v:=.bool true) (by rw[hlk5];rfl) (o:=i*5+2) (by omega);have g3:=lcell hl5 hi 3 (by omega) (v:=.int .i64 (-1)) (by rw[hlk5];rfl) (o:=i*5+3) (by omega);have g4:=lcell hl5 hi 4 (by omega) (v:=.int .i64 p) (by rw[hlk5];rfl) (o:=i*5+4) (by omega);have u0:=hl5.free (i*5);have u1:=hl5.free (i*5+1);have u2:=hl5.free (i*5+2);have u3:=hl5.free (i*5+3);have u4:=hl5.free (i*5+4);go_wp2;clear q2 f2 d1 g0 g1 g2 g3 g4 u0 u1 u2 u3 u4;refine wp_that (fun W=>Tch B.own w W∧ChainAt B ⟨S.head,fset f1 i lk0⟩ W∧Blk W xb #[.int .i64 l,.int .i64 s,.bool true,.int .i64 (-1),.int .i64 p] 340∧Blk W nb #[.int .i64 p,.int .i64 xla,.int .i64 ((nn:Int)-1)] 346) ?_ ?_
 ·have t4:=hF5.setCell (a:=⟨nb,2,none⟩) (.int .i64 ((nn:Int)-1)) (.inr hsz2)
  have n4:=hn5.set 2 (.int .i64 ((nn:Int)-1));have x4:=hX5.set_ne 2 (.int .i64 ((nn:Int)-1)) (c:=nb) (by omega);have b4:=(Tch.refl (fun r=>r=nb) w5).setCell (a:=⟨nb,2,none⟩) (.int .i64 ((nn:Int)-1)) (.inl rfl);have h4:=h5.tch b4 (by omega) (by omega) (by omega);generalize World.setCell w5 ⟨nb,2,none⟩ (.int .i64 ((nn:Int)-1))=w4 at *;have own:B.own B.lb:=.inr rfl;have t5:=((((t4.setCell (a:=⟨B.lb,i*5,none⟩) (.int .i64 0) (.inl own)).setCell (a:=⟨B.lb,i*5+1,none⟩) (.int .i64 0) (.inl own)).setCell (a:=⟨B.lb,i*5+2,none⟩) (.bool false) (.inl own)).setCell (a:=⟨B.lb,i*5+3,none⟩) (.int .i64 0) (.inl own)).setCell (a:=⟨B.lb,i*5+4,none⟩) (.int .i64 0) (.inl own);have b5:=(((((Tch.refl (fun r=>r=B.lb) w4).setCell (a:=⟨B.lb,i*5,none⟩) (.int .i64 0) (.inl rfl)).setCell (a:=⟨B.lb,i*5+1,none⟩) (.int .i64 0) (.inl rfl)).setCell (a:=⟨B.lb,i*5+2,none⟩) (.bool false) (.inl rfl)).setCell (a:=⟨B.lb,i*5+3,none⟩) (.int .i64 0) (.inl rfl)).setCell (a:=⟨B.lb,i*5+4,none⟩) (.int .i64 0) (.inl rfl);have hs:=((((h4.link.set (i*5) (.int .i64 0)).set (i*5+1) (.int .i64 0)).set (i*5+2) (.bool false)).set (i*5+3) (.int .i64 0)).set (i*5+4) (.int .i64 0);rw[links_row _ _ _ hi ⟨0,0,false,0,0⟩] at hs;exact⟨t5,h4.links b5 hs,(b5.block _ x4.lt (by omega)).trans x4,(b5.block _ n4.lt (by omega)).trans n4⟩
 clear h5 hX5 hn5 hF5 hl5 hl5';rintro w6 ⟨hF5,h5,hX5,hn5⟩;clear hlk5;generalize w6=w5 at *;obtain⟨m,hm⟩:=h5.head;have hlx5:=h5.lt;have hap5:=h5.apart;obtain⟨o,hrun,hmap⟩:=hm.putK under341 (l,s) (Hd.v ⟨p,xla,(nn:Int)-1⟩);have hne:=mapE_ne w5 B.hb o;haveI:=hne.1;haveI:=hne.2;have c1:∀x:One (MapE w5 B.hb o false),x.w.cell? ⟨B.b,0,none⟩=some (.map (some B.hb)):=mapE_one h5.blk (by omega) 0 rfl;have c2:∀x:One (MapE w5 B.hb o false),x.w.cell? ⟨xb,0,none⟩=some (.int .i64 l):=mapE_one hX5 (by omega) 0 rfl;have c3:∀x:One (MapE w5 B.hb o false),x.w.cell? ⟨xb,1,none⟩=some (.int .i64 s):=mapE_one hX5 (by omega) 1 rfl;have c4:∀x:One (MapE w5 B.hb o false),x.w.cell? ⟨nb,0,none⟩=some (.int .i64 p):=mapE_one hn5 (by omega) 0 rfl;have c5:∀x:One (MapE w5 B.hb o false),x.w.cell? ⟨nb,1,none⟩=some (.int .i64 xla):=mapE_one hn5 (by omega) 1 rfl;have c6:∀x:One (MapE w5 B.hb o false),x.w.cell? ⟨nb,2,none⟩=some (.int .i64 ((nn:Int)-1)):=mapE_one hn5 (by omega) 2 rfl;refine wp_region_two (MapE w5 B.hb o) 7 (by decide) (by kernel_rfl) (by kernel_rfl) ⟨(Tch.refl _ _).drew,rfl⟩ ?_
 (repeat (first|(refine lexS_skip (by rfl) (by decide) ?_;simp only[Act.put,List.setIfInBounds_toArray,List.set_cons_succ,List.set_cons_zero])|(refine lexS_ewant (by rfl) (by decide) (by kernel_rfl) (by rfl) ?_;intro K hK;go_big_quiet_op;refine hK _ ?_;clear hK K)))
 refine lexS_turn (by rfl) (by rfl) undef (mapE_upd rfl hlx5.2.1 hrun) ?_;simp only[Act.put,List.setIfInBounds_toArray,List.set_cons_succ,List.set_cons_zero];refine fun w6 hw6=>?_;have hm6:=hmap w6 hw6.2;have e2:=head_set S.head (l,s) (some ⟨p,xla,(nn:Int)-1⟩);have hm7:∃n,MapIs KP w6 B.hb (fun a=>(fset S.head (l,s) (some ⟨p,xla,(nn:Int)-1⟩) a).map Hd.v) n:=⟨_,by rw[←e2];exact hm6⟩;obtain⟨n6,hm7⟩:=hm7;have h6:=h5.heads hw6.1 hm7;have hF6:Tch B.own w w6:=hF5.trans' hw6.1 (fun j _ hj=>.inl hj);have hX6:Blk w6 xb _ 340:=(hw6.1.block _ hX5.lt (by omega)).trans hX5;have hn6:Blk w6 nb _ 346:=(hw6.1.block _ hn5.lt (by omega)).trans hn5;have q2:w6.cell? ⟨nb,2,none⟩=some (.int .i64 ((nn:Int)-1)):=hn6.cell 2 rfl;clear c1 c2 c3 c4 c5 c6 hrun hmap hne hm6 e2 hm7 hw6
 have hz:((nn:Int)-1==0)=false:=by simp;omega
 go_wp2;refine bodyPost_ret (v:=.bool true) ?_ rfl ⟨rfl,hF6,h6⟩;simp[results,Tryz.results133,go_sem]
end
structure WB where
 b:Nat
 p:PB
 c:CB
structure WS where
 p:PS
 c:CS
 m:Nat→Nat
 base:Nat
 order:Nat
def wheelV (B:WB) (S:WS):Array Value:=#[.pointer (some ⟨B.p.b,0,none⟩),.pointer (some ⟨B.c.b,0,none⟩),.int .u64 (S.m 0),.int .u64 (S.m 1),.int .u64 (S.m 2),.int .u64 (S.m 3),.int .u64 (S.m 4),.int .u64 (S.m 5),.int .u64 (S.m 6),.int .u64 (S.m 7),.int .u64 S.base,.int .u64 S.order]
structure WheelAt (B:WB) (S:WS) (w:World):Prop where
 blk:Blk w B.b (wheelV B S) 215
 pool:PoolAt B.p S.p w
 chain:ChainAt B.c S.c w
 ne1:B.p.re≠B.c.hb
 ne2:B.p.ro≠B.c.hb
def WB.own (B:WB):Nat→Prop:=fun r=>r=B.b∨B.p.own r∨B.c.own r
section
variable {B:WB} {S:WS} {w w':World}
theorem WheelAt.lt (h:WheelAt B S w):B.b<w.heap.size∧(B.p.b<w.heap.size∧B.p.re<w.heap.size∧B.p.ro<w.heap.size∧B.p.tb<w.heap.size)∧(B.c.b<w.heap.size∧B.c.hb<w.heap.size∧B.c.lb<w.heap.size):=⟨h.blk.lt,h.pool.lt,h.chain.lt⟩
theorem WheelAt.apart (h:WheelAt B S w):(B.b≠B.p.b∧B.b≠B.p.re∧B.b≠B.p.ro∧B.b≠B.p.tb∧B.b≠B.c.b∧B.b≠B.c.hb∧B.b≠B.c.lb) ∧
 (B.p.b≠B.c.b∧B.p.b≠B.c.hb∧B.p.b≠B.c.lb)∧(B.p.re≠B.c.b∧B.p.re≠B.c.hb∧B.p.re≠B.c.lb)∧(B.p.ro≠B.c.b∧B.p.ro≠B.c.hb∧B.p.ro≠B.c.lb)∧(B.p.tb≠B.c.b∧B.p.tb≠B.c.hb∧B.p.tb≠B.c.lb):=by
 obtain⟨n,hh⟩:=h.chain.head;obtain⟨f,m,ho,_⟩:=h.pool.old;have e1:=h.pool.ent;refine⟨⟨fun e=>Blk.ne_ h.blk h.pool.blk (by decide) e,fun e=>e1.ne h.blk e.symm,fun e=>ho.ne h.blk e.symm,fun e=>Blk.ne_ h.blk h.pool.tk (by decide) e,fun e=>Blk.ne_ h.blk h.chain.blk (by decide) e,fun e=>hh.ne h.blk e.symm,fun e=>Blk.ne_ h.blk h.chain.link (by decide) e⟩,?_,?_,?_,?_⟩
 ·exact⟨fun e=>Blk.ne_ h.pool.blk h.chain.blk (by decide) e,fun e=>hh.ne h.pool.blk e.symm,fun e=>Blk.ne_ h.pool.blk h.chain.link (by decide) e⟩
 ·exact⟨e1.ne h.chain.blk,h.ne1,e1.ne h.chain.link⟩
 ·exact⟨ho.ne h.chain.blk,h.ne2,ho.ne h.chain.link⟩
 ·exact⟨fun e=>Blk.ne_ h.pool.tk h.chain.blk (by decide) e,fun e=>hh.ne h.pool.tk e.symm,fun e=>Blk.ne_ h.pool.tk h.chain.link (by decide) e⟩
theorem WheelAt.below (h:WheelAt B S w) {n:Nat} (hb:Below n w w') (hn:B.b<n∧(B.p.b<n∧B.p.re<n∧B.p.ro<n∧B.p.tb<n)∧(B.c.b<n∧B.c.hb<n∧B.c.lb<n)):WheelAt B S w':=
 ⟨h.blk.below hb hn.1,h.pool.below hb hn.2.1,h.chain.below hb hn.2.2,h.ne1,h.ne2⟩
theorem WheelAt.poolT (h:WheelAt B S w) {P:PS} (ht:Tch B.p.own w w') (hp:PoolAt B.p P w'):WheelAt B { S with p:=P } w':=by
 obtain⟨⟨a1,a2,a3,a4,a5,a6,a7⟩,⟨b1,b2,b3⟩,⟨c1,c2,c3⟩,⟨d1,d2,d3⟩,e1,e2,e3⟩:=h.apart;have hl:=h.lt;have k1:w'.heap[B.b]?=w.heap[B.b]?:=ht.block _ hl.1 (by rintro (e|e|e);exact a2 e;exact a3 e;exact a4 e);refine⟨k1.trans h.blk,hp,h.chain.tch ht ?_ ?_ ?_,h.ne1,h.ne2⟩
 ·rintro (e|e|e);exact c1 e.symm;exact d1 e.symm;exact e1 e.symm
 ·rintro (e|e|e);exact c2 e.symm;exact d2 e.symm;exact e2 e.symm
 ·rintro (e|e|e);exact c3 e.symm;exact d3 e.symm;exact e3 e.symm
theorem WheelAt.chainT (h:WheelAt B S w) {C:CS} (ht:Tch B.c.own w w') (hp:ChainAt B.c C w'):WheelAt B { S with c:=C } w':=by
 obtain⟨⟨a1,a2,a3,a4,a5,a6,a7⟩,⟨b1,b2,b3⟩,⟨c1,c2,c3⟩,⟨d1,d2,d3⟩,e1,e2,e3⟩:=h.apart;have hl:=h.lt;have k1:w'.heap[B.b]?=w.heap[B.b]?:=ht.block _ hl.1 (by rintro (e|e);exact a6 e;exact a7 e);refine⟨k1.trans h.blk,h.pool.tch ht ?_ ?_ ?_ ?_,hp,h.ne1,h.ne2⟩
 ·rintro (e|e);exact b2 e;exact b3 e
 ·rintro (e|e);exact c2 e;exact c3 e
 ·rintro (e|e);exact d2 e;exact d3 e
 ·rintro (e|e);exact e2 e;exact e3 e
theorem WheelAt.selfT (h:WheelAt B S w) {m:Nat→Nat} {base order:Nat} (ht:Tch (fun r=>r=B.b) w w') (hb:Blk w' B.b (wheelV B { S with m:=m,base:=base,order:=order }) 215):WheelAt B { S with m:=m,base:=base,order:=order } w':=by
 obtain⟨⟨a1,a2,a3,a4,a5,a6,a7⟩,_⟩:=h.apart;exact⟨hb,h.pool.tch ht (fun e=>a1 e.symm) (fun e=>a2 e.symm) (fun e=>a3 e.symm) (fun e=>a4 e.symm),h.chain.tch ht (fun e=>a5 e.symm) (fun e=>a6 e.symm) (fun e=>a7 e.symm),h.ne1,h.ne2⟩
end
noncomputable def CS.push (C:CS) (k:Int×Int) (i:Nat):CS:=match C.head k with
 |none=>⟨fset C.head k (some ⟨i,i,1⟩),fset C.link i ⟨k.1,k.2,true,-1,-1⟩⟩
 |some x=>⟨fset C.head k (some ⟨x.fi,i,x.n+1⟩),fset (fset C.link i ⟨k.1,k.2,true,x.la,-1⟩) x.la.toNat { C.link x.la.toNat with be:=i }⟩
structure PushOk (C:CS) (room:Nat) (k:Int×Int) (i:Nat):Prop where
 lt:i<room
 out:(C.link i).ins=false
 last:∀x,C.head k=some x→∃p nn:Nat,x.la=p∧p<room∧p≠i∧x.n=nn∧nn<4294967296
theorem push_any {B:CB} {C:CS} {w:World} (h:ChainAt B C w) {l s:Int} {i:Nat} (hp:PushOk C B.room (l,s) i):Calls Tryz.prog 181 #[.pointer (some ⟨B.b,0,none⟩),.agg #[.int .i64 l,.int .i64 s],.int .i64 i] w fun e w'=>
 e=.returned (.bool true)∧Tch B.own w w'∧ChainAt B (C.push (l,s) i) w':=by
 unfold CS.push
 cases hh:C.head (l,s) with
 |none=>exact push_new h hp.lt hp.out hh
 |some x=>
   obtain⟨p,nn,h1,h2,h3,h4,h5⟩:=hp.last x hh;have:=push_more h hp.lt hp.out hh h1 h2 h3 h4 h5
   have e:x.la.toNat=p:=by omega
   simp only[e];exact this
noncomputable def CS.pop (C:CS) (i:Nat):CS:=
 let k:=((C.link i).l,(C.link i).s)
 if (C.link i).be=-1 then⟨fset C.head k none,fset C.link i lk0⟩
 else⟨fset C.head k ((C.head k).map fun x=>⟨(C.link i).be,x.la,x.n-1⟩),fset (fset C.link (C.link i).be.toNat { C.link (C.link i).be.toNat with ah:=-1 }) i lk0⟩
structure PopOk (C:CS) (room:Nat) (i:Nat):Prop where
 lt:i<room
 ins:(C.link i).ins=true
 ah:(C.link i).ah=-1
 head:∃x,C.head ((C.link i).l,(C.link i).s)=some x∧(((C.link i).be=-1∧x.n=1)∨∃p nn:Nat,(C.link i).be=p∧p<room∧p≠i∧x.n=nn∧2≤nn∧nn<4294967296)
theorem pop_any {B:CB} {C:CS} {w:World} (h:ChainAt B C w) {i:Nat} (hp:PopOk C B.room i):Calls Tryz.prog 133 #[.pointer (some ⟨B.b,0,none⟩),.int .i64 i] w fun e w'=>
 e=.returned (.bool true)∧Tch B.own w w'∧ChainAt B (C.pop i) w':=by
 obtain⟨x,hh,hx⟩:=hp.head
 have e0:C.link i=⟨(C.link i).l,(C.link i).s,true,-1,(C.link i).be⟩:=by
  have h1:=hp.ins;have h2:=hp.ah;cases hc:C.link i;rw[hc] at h1 h2;simp only at h1 h2;subst h1 h2;rfl
 unfold CS.pop;rcases hx with⟨h1,h2⟩|⟨p,nn,h1,h2,h3,h4,h5,h6⟩
 ·simp only[h1,if_true]
  rw[h1] at e0;exact remove_one h hp.lt e0 hh h2
 ·have hne:¬((C.link i).be=-1):=by omega
  have e:(C.link i).be.toNat=p:=by omega
  simp only[if_neg hne,e,hh,Option.map_some];rw[h1] at e0 ⊢;exact remove_front h hp.lt e0 h2 h3 hh h4 ⟨h5,h6⟩
end Go.Proofs.YtkndlfdpmpdihaaGreatDoor
