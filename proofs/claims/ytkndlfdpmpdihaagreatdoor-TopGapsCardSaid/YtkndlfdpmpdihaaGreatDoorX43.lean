/- The log: one firing is noted. The log: what it holds. The log: a copy of what it holds. The service: what fired. The log as a service keeps it. The wheel's law: one more, and the least of all; plain law. The wheel as a service keeps it: free places, how many there are; plain law. Conditions: those that each statement shows. -/
import Derived.Test.YtkndlfdpmpdihaaGreatDoorX42
import Derived.Test.YtkndlfdpmpdihaaGreatDoorX19
import Derived.Test.YtkndlfdpmpdihaaGreatDoorX11
import Derived.Test.YtkndlfdpmpdihaaGreatDoorX17
import Derived.Deep.RegionHeld3
import Derived.Deep.AppendLies
import Derived.Deep.RegionLaw
import Derived.Test.YtkndlfdpmpdihaaGreatDoorX20
import Derived.Test.YtkndlfdpmpdihaaGreatDoorX18
import Derived.Test.YtkndlfdpmpdihaaGreatDoorX16
namespace Go.Proofs.YtkndlfdpmpdihaaGreatDoor
open Go.RowKit Go.Ev Go.Mv
set_option linter.unusedVariables false
set_option linter.unusedSimpArgs false
set_option maxRecDepth 100000
theorem under240:Tryz.prog.underlying 240=some (.map 238 3):=by kernel_rfl
theorem under68:Tryz.prog.underlying 68=some (.slice 71):=by kernel_rfl
theorem info71:(Tryz.prog.info? 71).map (fun i=>(i.zero,i.size,i.bytes))=some (some (.agg #[.int .u64 0,.int .u64 0,.int .u64 0,.int .i64 0]),4,32):=by kernel_rfl
theorem zero3:∀ w,(zeroValue 3).run Tryz.prog w=.ok (.int .i64 0) w:=fun w=>by kernel_rfl
theorem info3a:∃ inf,Tryz.prog.info? 3=some inf∧inf.zero=some (.int .i64 0):=by
 obtain ⟨i0,hi,hz0,_⟩:=info_parts info3
 exact ⟨i0,hi,hz0⟩
theorem row_far {X:Nat→Prop} {w w':World} {base:Nat} {e:TypeId} {size n g cap:Nat} {xs:List Value} (h:w.ownsRow base e size (.slice (some ⟨g,0,none⟩) n cap) n xs) (ht:Tch X w w') (hx:¬X g):w'.ownsRow base e size (.slice (some ⟨g,0,none⟩) n cap) n xs:=by
 refine ⟨h.1,?_⟩
 rcases h.2 with ⟨e1,_⟩ | ⟨g',cap',cur,e1,hb,hg,hr⟩
 ·cases e1
 ·cases e1
  exact .inr ⟨_,_,cur,rfl,hb,(ht.block _ (Array.getElem?_eq_some_iff.1 hg).1 hx).trans hg,hr⟩
section
variable {w:World}
set_option maxHeartbeats 8000000 in
theorem add69 {lb mb n h d t c:Nat} {v:Value} {f:Int×Int→Option Value} (hL:Blk w lb #[v,.map (some mb)] 242) (hm:MapIs UP w mb f n) (hne:lb≠mb) (hml:mb<w.heap.size) {nL m:Nat} {xs:List Value} (hv:w.ownsRow nL 71 4 v m xs) (hnL:nL≤w.heap.size) (hlb:lb<nL) (hmb:mb<nL) (hmm:m<1000000) (hh:h<18446744073709551616) (hc:c<4611686018427387904)
 (hf:(f (((h / 4096:Nat):Int),((h % 4096:Nat):Int))).getD (.int .i64 0)=.int .i64 (c:Int)) :
 Calls Tryz.prog 69 #[.pointer (some ⟨lb,0,none⟩),.int .u64 h,.int .u64 d,.int .u64 t] w fun e w'=>e=.returned (.agg #[.int .u64 h,.int .u64 d,.int .u64 t,.int .i64 ((c:Int)+1)])∧∃ gg cap n4,w'.ownsRow nL 71 4 (.slice (some ⟨gg,0,none⟩) (m+1) cap) (m+1) (xs++#[.int .u64 h,.int .u64 d,.int .u64 t,.int .i64 ((c:Int)+1)].toList)∧Blk w' lb #[.slice (some ⟨gg,0,none⟩) (m+1) cap,.map (some mb)] 242 ∧
  Tch (fun r=>r=lb∨r=mb∨nL≤r) w w'∧Kept 71 nL w w'∧MapIs UP w' mb (fset f (((h / 4096:Nat):Int),((h % 4096:Nat):Int)) (some (.int .i64 ((c:Int)+1)))) n4:=by
 have hof:=of121 h hh
 obtain ⟨k1,hk1⟩:∃ k1:Nat,k1=h / 4096:=⟨_,rfl⟩
 obtain ⟨k2,hk2⟩:∃ k2:Nat,k2=h % 4096:=⟨_,rfl⟩
 rw [←hk1,←hk2] at hof hf
 rw [←hk1,←hk2]
 clear hk1 hk2 hh
 have hlw:=hL.lt
 go_enter Tryz.func69,Tryz.ntmps69
 have hR:=Blk.new w #[.int .u64 0,.int .u64 0,.int .u64 0,.int .i64 0] 71
 have hBr:Below w.heap.size w (w.alloc (.cells #[.int .u64 0,.int .u64 0,.int .u64 0,.int .i64 0] 71)):=(Below.refl _ w).alloc (Nat.le_refl _) _
 obtain ⟨rb,hrb⟩:∃ rb,rb=w.heap.size:=⟨_,rfl⟩
 go_wp2_with (go_at_call 121;fail)
 refine (hof _).mono ?_
 rintro e w1 ⟨rfl,hb1⟩
 have hX2:=Blk.new w1 #[.int .u64 k1,.int .u64 k2] 238
 have hR2:Blk (w1.alloc (.cells #[.int .u64 k1,.int .u64 k2] 238)) w.heap.size #[.int .u64 0,.int .u64 0,.int .u64 0,.int .i64 0] 71:=(hR.below hb1 hR.lt).below ((Below.refl _ _).alloc (Nat.le_refl _) _) (hR.below hb1 hR.lt).lt
 have hB2:Below w.heap.size w (w1.alloc (.cells #[.int .u64 k1,.int .u64 k2] 238)):=(hBr.trans (hb1.mono hBr.size)).alloc (Nat.le_trans hBr.size hb1.size) _
 have hL2:=hL.below hB2 hlw
 have hm2:MapIs UP (w1.alloc (.cells #[.int .u64 k1,.int .u64 k2] 238)) mb f n:=hm.at (hB2.block _ hml)
 have hxw:w.heap.size<w1.heap.size:=Nat.lt_of_lt_of_le hR.lt hb1.size
 obtain ⟨xk,hxk⟩:∃ xk,xk=w1.heap.size:=⟨_,rfl⟩
 have hx1:xk<(w1.alloc (.cells #[.int .u64 k1,.int .u64 k2] 238)).heap.size:=by rw [hxk];exact hX2.lt
 rw [←hxk] at hX2 hxw
 have HXK:=Lib.hid hxk
 clear hxk hof hR hBr hb1
 go_wp2
 rw [←HXK.out]
 generalize w1.alloc (.cells #[.int .u64 k1,.int .u64 k2] 238)=w2 at *
 obtain ⟨inf,hi1,hi2⟩:=info3a
 obtain ⟨o1,s,hr1,hlk,hr2⟩:=hm2.entU under240 ⟨hi1,hi2⟩ ((k1:Int),(k2:Int))
 obtain ⟨o2,hr3,hmap⟩:=hr2 (.int .i64 ((c:Int)+1))
 rw [hf] at hr1 hlk
 have hlo:=hm2.lookU under240 zero3 ((k1:Int),(k2:Int)) false
 haveI:Nonempty (Thr (EntE w2 mb o1 o2)):=⟨⟨0,w2,Tch.refl _ _,rfl⟩⟩
 have c1:∀ x:Thr (EntE w2 mb o1 o2),x.w.cell? ⟨lb,1,none⟩=some (.map (some mb)):=EntE.cell hL2 hne 1 rfl
 have hxm:xk≠mb:=by omega
 have c2:∀ x:Thr (EntE w2 mb o1 o2),x.w.cell? ⟨xk,0,none⟩=some (.int .u64 k1):=EntE.cell hX2 hxm 0 rfl
 have c3:∀ x:Thr (EntE w2 mb o1 o2),x.w.cell? ⟨xk,1,none⟩=some (.int .u64 k2):=EntE.cell hX2 hxm 1 rfl
 have hlook:∀ (b:Nat) (W:World),b≤1→EntE w2 mb o1 o2 b W→(Instr.lookup 240 (.map (some mb)) (.agg #[.int .u64 k1,.int .u64 k2]) false).run Tryz.prog W=.ok (.int .i64 c) W:=by
  intro b W hb hW
  rcases b with _ | _ | b
  ·have h5:=(hm2.at (w':=W) hW.2).lookU under240 zero3 ((k1:Int),(k2:Int)) false
   rw [hf] at h5
   exact h5
  ·exact hlk W hW.2
  ·omega
 have hww:IntKind.i64.wrap ((c:Int)+1)=(c:Int)+1:=IntWalk.i64_in _ ⟨by omega,by omega⟩
 have hml2:mb<w2.heap.size:=Nat.lt_of_lt_of_le hml hB2.size
 refine wp_region_thr (EntE w2 mb o1 o2) 7 9 (by decide) (by kernel_rfl) (by kernel_rfl) ⟨(Tch.refl _ _).drew,rfl⟩ ?_
 (repeat (first | (refine lexT_skip (by rfl) (by decide) ?_;simp only [Act.put,List.setIfInBounds_toArray,List.set_cons_succ,List.set_cons_zero]) | (refine lexT_want (by rfl) (by decide) (by rfl) ?_;intro K hK;go_big_quiet_op;refine hK _ ?_;clear hK K)))
 refine lexT_early (by rfl) (by decide) (by kernel_rfl) (.int .i64 c) (fun x hx=>does_look _ _ rfl x.h ?_) ?_
 ·exact hlook x.b x.w hx x.h
 simp only [Act.put,List.setIfInBounds_toArray,List.set_cons_succ,List.set_cons_zero]
 (repeat (first | (refine lexT_skip (by rfl) (by decide) ?_;simp only [Act.put,List.setIfInBounds_toArray,List.set_cons_succ,List.set_cons_zero]) | (refine lexT_want (by rfl) (by decide) (by rfl) ?_;intro K hK;go_big_quiet_op;refine hK _ ?_;clear hK K)))
 refine lexT_turn1 (by rfl) (by rfl) (.tuple #[.int .i64 c,s]) (fun W hW=>?_) ?_
 ·have q0:=hr1 W hW.2
  unfold does
  go_simp
  rw [show Value.agg #[Value.int .u64 (k1:Int),Value.int .u64 (k2:Int)]=UP ((k1:Int),(k2:Int)) from rfl,q0]
  exact ⟨⟨hW.1.put _ (.inl rfl),putO_at (Nat.lt_of_lt_of_le hml2 hW.1.size)⟩,rfl⟩
 simp only [Act.put,List.setIfInBounds_toArray,List.set_cons_succ,List.set_cons_zero]
 (repeat (first | (refine lexT_skip (by rfl) (by decide) ?_;simp only [Act.put,List.setIfInBounds_toArray,List.set_cons_succ,List.set_cons_zero]) | (refine lexT_want (by rfl) (by decide) (by rfl) ?_;intro K hK;go_big_quiet_op;refine hK _ ?_;clear hK K)))
 refine lexT_turn2 (by rfl) (by rfl) (by decide) undef (fun W hW=>?_) ?_
 ·have q0:=hr3 W hW.2
  unfold does
  go_simp
  exact ⟨⟨hW.1.put _ (.inl rfl),putO_at (Nat.lt_of_lt_of_le hml2 hW.1.size)⟩,rfl⟩
 simp only [Act.put,List.setIfInBounds_toArray,List.set_cons_succ,List.set_cons_zero]
 refine fun w4 hw4=>?_
 have hm4:=hmap w4 hw4.2
 obtain ⟨n4,hn4⟩:∃ n4,n4=(if (f ((k1:Int),(k2:Int))).isSome=true then n else n+1):=⟨_,rfl⟩
 rw [←hn4] at hm4
 clear hn4
 have hL4:Blk w4 lb _ 242:=(hw4.1.block _ hL2.lt hne).trans hL2
 have hX4:Blk w4 xk _ 238:=(hw4.1.block _ hX2.lt hxm).trans hX2
 clear hr1 hlk hr2 hr3 hmap c1 c2 c3 hlook
 have hS:∀ W,Below w4.heap.size w4 W→W.cell? ⟨lb,1,none⟩=some (.map (some mb))∧W.cell? ⟨xk,0,none⟩=some (.int .u64 k1)∧W.cell? ⟨xk,1,none⟩=some (.int .u64 k2)∧(Instr.lookup 240 (.map (some mb)) (.agg #[.int .u64 k1,.int .u64 k2]) false).run Tryz.prog W=.ok (.int .i64 ((c:Int)+1)) W:=by
  intro W hW
  have h5:=(hm4.at (w':=W) (hW.block _ (Nat.lt_of_lt_of_le hml2 hw4.1.size))).lookU under240 zero3 ((k1:Int),(k2:Int)) false
  rw [fset_same] at h5
  exact ⟨(hL4.below hW hL4.lt).cell 1 rfl,(hX4.below hW hX4.lt).cell 0 rfl,(hX4.below hW hX4.lt).cell 1 rfl,h5⟩
 have hB4:Tch (fun r=>r=mb) w w4:=(Tch.of_below hB2).trans hw4.1
 have hX5:=Blk.new w4.drew #[.int .u64 h,.int .u64 d,.int .u64 t,.int .i64 ((c:Int)+1)] 71
 have hY5:=Blk.new w4.drew #[.int .u64 0,.int .u64 0,.int .u64 0,.int .i64 0] 71
 have q0:=hY5.cell 0 rfl
 have q1:=hY5.cell 1 rfl
 have q2:=hY5.cell 2 rfl
 have q3:=hY5.cell 3 rfl
 have g0:=hY5.free 0
 have g1:=hY5.free 1
 have g2:=hY5.free 2
 have g3:=hY5.free 3
 go_wp2
 go_cut [10] from 16 (fun p wx=>p=.pointer (some ⟨w4.heap.size,0,none⟩)∧wx=(w4.alloc (.cells #[.int .u64 h,.int .u64 d,.int .u64 t,.int .i64 ((c:Int)+1)] 71)).drew)
 case first=>
  go_region_held3 (fun W=>W.cell? ⟨lb,1,none⟩=some (.map (some mb))∧W.cell? ⟨xk,0,none⟩=some (.int .u64 k1)∧W.cell? ⟨xk,1,none⟩=some (.int .u64 k2)∧(Instr.lookup 240 (.map (some mb)) (.agg #[.int .u64 k1,.int .u64 k2]) false).run Tryz.prog W=.ok (.int .i64 ((c:Int)+1)) W) (exact hS _ (by first | exact (Below.refl _ _).drew | exact ((Below.refl _ _).drew).alloc (Nat.le_refl _) _)) (fail)
  all_goals (go_wp2_with fail)
  all_goals go_meet
  all_goals exact ⟨rfl,rfl⟩
 case rest=>
  obtain ⟨rfl,rfl⟩:=hcut
  clear q0 q1 q2 q3 g0 g1 g2 g3 hX5 hY5 hS
  have hR4:Blk w4 w.heap.size #[.int .u64 0,.int .u64 0,.int .u64 0,.int .i64 0] 71:=(hw4.1.block _ hR2.lt (by omega)).trans hR2
  have hX6:=Blk.new w4 #[.int .u64 h,.int .u64 d,.int .u64 t,.int .i64 ((c:Int)+1)] 71
  have hB6:Below w4.heap.size w4 (w4.alloc (.cells #[.int .u64 h,.int .u64 d,.int .u64 t,.int .i64 ((c:Int)+1)] 71)):=(Below.refl _ _).alloc (Nat.le_refl _) _
  have hL6:=hL4.below hB6 hL4.lt
  have hv6:=rows_tch (rows_tch hv hB4 (fun k e=>e ▸ hmb)) (Tch.of_below (S:=fun _=>False) hB6) (fun k e=>e.elim)
  have hR6:=hR4.below hB6 hR4.lt
  have hm6:=hm4.at (hB6.block _ (Nat.lt_of_lt_of_le hml2 hw4.1.size))
  have hB6':Tch (fun r=>r=mb) w (w4.alloc (.cells #[.int .u64 h,.int .u64 d,.int .u64 t,.int .i64 ((c:Int)+1)] 71)):=hB4.trans (Tch.of_below hB6)
  have HK5:=Lib.hid (show Kept 71 nL w (w4.alloc (.cells #[.int .u64 h,.int .u64 d,.int .u64 t,.int .i64 ((c:Int)+1)] 71)) from Kept.tch hB6' (fun k e=>by subst e;omega))
  have hz6:nL≤(w4.alloc (.cells #[.int .u64 h,.int .u64 d,.int .u64 t,.int .i64 ((c:Int)+1)] 71)).heap.size:=Nat.le_trans hnL (Nat.le_trans hB4.size hB6.size)
  generalize w4.alloc (.cells #[.int .u64 h,.int .u64 d,.int .u64 t,.int .i64 ((c:Int)+1)] 71)=w5 at *
  obtain ⟨i0,ji,js0,js1,js2⟩:=info_parts info71
  have b0:w5.cell? ⟨w4.heap.size,0,none⟩=some (.int .u64 h):=hX6.cell 0 rfl
  have b1:w5.cell? ⟨w4.heap.size,1,none⟩=some (.int .u64 d):=hX6.cell 1 rfl
  have b2:w5.cell? ⟨w4.heap.size,2,none⟩=some (.int .u64 t):=hX6.cell 2 rfl
  have b3:w5.cell? ⟨w4.heap.size,3,none⟩=some (.int .i64 ((c:Int)+1)):=hX6.cell 3 rfl
  have b4:w5.cell? ⟨lb,0,none⟩=some v:=hL6.cell 0 rfl
  have hBA:Below w5.heap.size w5 (w5.drew.alloc (.cells #[.int .u64 h,.int .u64 d,.int .u64 t,.int .i64 ((c:Int)+1)] 71)).drew:=(((Below.refl _ w5).drew).alloc (Nat.le_refl _) _).drew
  have hLA:=hL6.below hBA hL6.lt
  have hvn:v.ownBlock≠some lb:=fun e=>(ownsRow_apart hv6 (j:=lb) (.inl hlb)).elim (fun e2=>by rw [e2] at e;cases e) (fun e2=>e2 e)
  have hLAl:=hLA.lt
  have hXA:=hX6.below hBA hX6.lt
  have hXAl:=hXA.lt
  have hRA:=hR6.below hBA hR6.lt
  have hRAl:=hRA.lt
  have hvx:v.ownBlock≠some w4.heap.size:=fun e=>by have:=(hv.lt _ e).2;have:=hB4.size;omega
  have hvr:v.ownBlock≠some w.heap.size:=fun e=>by have:=(hv.lt _ e).2;omega
  have b6:(w5.alloc (.cells #[.int .u64 h,.int .u64 d,.int .u64 t,.int .i64 ((c:Int)+1)] 71)).cell? ⟨lb,0,none⟩=some v:=hLA.cell 0 rfl
  go_wp2
  go_cut [] from 16 (fun wx=>∃ gg cap n4,gg≠w.heap.size∧wx.ownsRow nL 71 4 (.slice (some ⟨gg,0,none⟩) (m+1) cap) (m+1) (xs++#[.int .u64 h,.int .u64 d,.int .u64 t,.int .i64 ((c:Int)+1)].toList)∧Blk wx lb #[.slice (some ⟨gg,0,none⟩) (m+1) cap,.map (some mb)] 242∧Tch (fun r=>r=lb∨r=mb∨nL≤r) w wx∧Kept 71 nL w wx∧MapIs UP wx mb (fset f ((k1:Int),(k2:Int)) (some (.int .i64 ((c:Int)+1)))) n4∧Blk wx w4.heap.size #[.int .u64 h,.int .u64 d,.int .u64 t,.int .i64 ((c:Int)+1)] 71∧Blk wx w.heap.size #[.int .u64 0,.int .u64 0,.int .u64 0,.int .i64 0] 71)
  case first=>
   go_region_law (first | (refine step_append_lies _ (by rfl) _ _ _ (by rfl) nL 71 i0 _ 4 32 under68 ji js0 js1 js2 rfl (by omega) v m xs (by rfl) ((hv6.drew.alloc _).drew) ⟨w5.heap.size,0,none⟩ 1 1 [.int .u64 h,.int .u64 d,.int .u64 t,.int .i64 ((c:Int)+1)] (by rfl) (by rfl) (World.news_of_block (cs:=#[.int .u64 h,.int .u64 d,.int .u64 t,.int .i64 ((c:Int)+1)]) (t:=71) (fr:=(0,0)) (heap_alloc_new w5 _)) (by simp [Value.oneCell']) (by omega) (by unfold maxLen;omega) (by omega) (by simp;omega) (w5.heap.size+1) (by simp) ?_;intro gg cap w1 hown1 hgrow hat hlt;have hL7:Blk w1 lb #[v,.map (some mb)] 242:=(hgrow.block lb hLAl (fun e=>hvn e.symm)).trans hLA;have c7:w1.cell? ⟨lb,0,none⟩=some v:=hL7.cell 0 rfl;have f7:=hL7.free 0;have hX7:Blk w1 w4.heap.size #[.int .u64 h,.int .u64 d,.int .u64 t,.int .i64 ((c:Int)+1)] 71:=(hgrow.block _ hXAl (fun e=>hvx e.symm)).trans hXA;have hR7:Blk w1 w.heap.size #[.int .u64 0,.int .u64 0,.int .u64 0,.int .i64 0] 71:=(hgrow.block _ hRAl (fun e=>hvr e.symm)).trans hRA;have ht7:Tch (fun r=>nL≤r) w5 w1:=(Tch.of_below hBA).trans (tch_grown hgrow (fun r e=>(hv6.lt r e).1));have hk7:Kept 71 nL w w1:=(HK5.out.trans (Kept.tch (Tch.of_below (S:=fun _=>False) hBA) (fun k e=>e.elim))).trans (Kept.grown ((hv6.drew.alloc _).drew) hgrow)))
   all_goals (go_wp2_with fail)
   all_goals go_meet
   all_goals (
    have hts:Tch (fun r=>r=lb) w1 (w1.setCell ⟨lb,0,none⟩ (.slice (some ⟨gg,0,none⟩) (m+1) cap)):=(Tch.refl _ w1).setCell _ (.inl rfl)
    have hw04:w.heap.size≤w4.heap.size:=hB4.size
    have hw05:w.heap.size≤w5.heap.size:=hB6'.size
    have hgw:gg≠w.heap.size:=by
     rintro rfl
     rcases hat with e | e
     ·exact hvr e
     ·omega
    have hmb5:mb<w5.heap.size:=by have:=hB6'.size;omega
    exact ⟨gg,cap,n4,hgw,rows_tch hown1 hts (fun k e=>by subst e;exact hlb),hL7.set 0 _,((hB6'.mono fun r e=>.inr (.inl e)).trans (ht7.mono fun r e=>.inr (.inr e))).trans (hts.mono fun r e=>.inl e),hk7.trans (Kept.tch hts (fun k e=>by subst e;omega)),(hm6.at (ht7.block _ hmb5 (by omega))).at (hts.block _ (Nat.lt_of_lt_of_le hmb5 ht7.size) (fun e=>hne e.symm)),(hts.block _ hX7.lt (by omega)).trans hX7,(hts.block _ hR7.lt (by omega)).trans hR7⟩)
  case rest=>
   obtain ⟨gg,cap,n5,r0,r1,r2,r3,rk,r4,r5,r6⟩:=hcut
   have d0:wc.cell? ⟨w4.heap.size,0,none⟩=some (.int .u64 h):=r5.cell 0 rfl
   have d1:wc.cell? ⟨w4.heap.size,1,none⟩=some (.int .u64 d):=r5.cell 1 rfl
   have d2:wc.cell? ⟨w4.heap.size,2,none⟩=some (.int .u64 t):=r5.cell 2 rfl
   have d3:wc.cell? ⟨w4.heap.size,3,none⟩=some (.int .i64 ((c:Int)+1)):=r5.cell 3 rfl
   have e0:wc.cell? ⟨w.heap.size,0,none⟩=some (.int .u64 0):=r6.cell 0 rfl
   have e1:wc.cell? ⟨w.heap.size,1,none⟩=some (.int .u64 0):=r6.cell 1 rfl
   have e2:wc.cell? ⟨w.heap.size,2,none⟩=some (.int .u64 0):=r6.cell 2 rfl
   have e3:wc.cell? ⟨w.heap.size,3,none⟩=some (.int .i64 0):=r6.cell 3 rfl
   have f0:=r6.free 0
   have f1:=r6.free 1
   have f2:=r6.free 2
   have f3:=r6.free 3
   have z9:=(((r6.set 0 (.int .u64 h)).set 1 (.int .u64 d)).set 2 (.int .u64 t)).set 3 (.int .i64 ((c:Int)+1))
   have t9:=((((Tch.refl (fun r=>r=w.heap.size) wc).setCell (a:=⟨w.heap.size,0,none⟩) (.int .u64 h) (.inl rfl)).setCell (a:=⟨w.heap.size,1,none⟩) (.int .u64 d) (.inl rfl)).setCell (a:=⟨w.heap.size,2,none⟩) (.int .u64 t) (.inl rfl)).setCell (a:=⟨w.heap.size,3,none⟩) (.int .i64 ((c:Int)+1)) (.inl rfl)
   obtain ⟨w9,hw9⟩:∃ w9,w9=(((wc.setCell ⟨w.heap.size,0,none⟩ (.int .u64 h)).setCell ⟨w.heap.size,1,none⟩ (.int .u64 d)).setCell ⟨w.heap.size,2,none⟩ (.int .u64 t)).setCell ⟨w.heap.size,3,none⟩ (.int .i64 ((c:Int)+1)):=⟨_,rfl⟩
   rw [←hw9] at t9 z9
   go_wp2
   rw [←hw9]
   have y0:w9.cell? ⟨w.heap.size,0,none⟩=some (.int .u64 h):=z9.cell 0 rfl
   have y1:w9.cell? ⟨w.heap.size,1,none⟩=some (.int .u64 d):=z9.cell 1 rfl
   have y2:w9.cell? ⟨w.heap.size,2,none⟩=some (.int .u64 t):=z9.cell 2 rfl
   have y3:w9.cell? ⟨w.heap.size,3,none⟩=some (.int .i64 ((c:Int)+1)):=z9.cell 3 rfl
   refine bodyPost_ret (v:=.agg #[.int .u64 h,.int .u64 d,.int .u64 t,.int .i64 ((c:Int)+1)]) ?_ rfl ⟨rfl,gg,cap,row_far r1 t9 r0,(t9.block _ r2.lt (by omega)).trans r2,r3.trans (t9.mono fun r e=>.inr (.inr (by omega))),(fun g cur T hT hg hc=>(t9.block g (Nat.lt_of_lt_of_le (Array.getElem?_eq_some_iff.1 hc).1 r3.size) (by have:=(Array.getElem?_eq_some_iff.1 hc).1;omega)).trans (rk g cur T hT hg hc)),n5,r4.at (t9.block _ (Nat.lt_of_lt_of_le hml r3.size) (by omega))⟩
   simp [results,Tryz.results69,go_sem,y0,y1,y2,y3]
end
theorem all130 {w:World} {lb mb:Nat} {v:Value} (hL:Blk w lb #[v,.map (some mb)] 242):Calls Tryz.prog 130 #[.pointer (some ⟨lb,0,none⟩)] w fun e w'=>e=.returned v∧w'=w:=by
 have c0:w.cell? ⟨lb,0,none⟩=some v:=hL.cell 0 rfl
 go_enter Tryz.func130,Tryz.ntmps130
 go_wp2
 refine bodyPost_ret (v:=v) ?_ rfl ⟨rfl,rfl⟩
 simp [results,Tryz.results130,go_sem]
end Go.Proofs.YtkndlfdpmpdihaaGreatDoor
namespace Go.Proofs.YtkndlfdpmpdihaaGreatDoor
open Go.RowKit Go.Ev Go.Mv
set_option linter.unusedVariables false
set_option linter.unusedSimpArgs false
set_option maxRecDepth 100000
set_option maxHeartbeats 2000000 in
theorem clone129 {w:World} {nL m g cap:Nat} {xs:List Value} (hv:w.ownsRow nL 71 4 (.slice (some ⟨g,0,none⟩) m cap) m xs) (hm:0<m) (hm2:m<1000000) (h1:∀ u∈xs,u.oneCell'=true):Calls Tryz.prog 129 #[.slice (some ⟨g,0,none⟩) m cap] w fun e w'=>∃ v,e=.returned v∧w'.ownsRow w.heap.size 71 4 v m xs∧Below w.heap.size w w':=by
 obtain ⟨i0,ji,js0,js1,js2⟩:=info_parts info71
 have hxl:=hv.1
 have hcs:∀ (W:World),Below w.heap.size w W→∀ j u,xs[j]?=some u→W.cell? ((⟨g,0,none⟩:Addr).add j)=some u:=fun W hW j u hj=>by
  have hv2:=rows_tch (X:=fun _=>False) hv (Tch.of_below hW) (fun k e=>e.elim)
  exact hv2.cells (g:=g) rfl j u hj
 have heq:∀ w,(binOp BinOp.eql 68 (.slice (some ⟨g,0,none⟩) m cap) (.slice none 0 0)).run Tryz.prog w=.ok (.bool false) w:=fun w=>by kernel_rfl
 go_enter Tryz.func129,Tryz.ntmps129
 go_wp2_with (at_builtin;refine wpList_append_grows _ rfl (.tmp 5) (.tmp 6) 68 rfl 71 i0 (.agg #[.int .u64 0,.int .u64 0,.int .u64 0,.int .i64 0]) 4 32 under68 ji js0 js1 js2 rfl (by decide) (some ⟨w.heap.size,0,none⟩) 0 0 [] rfl (by simp) rfl (by intro _ _ j u hj;simp at hj) ⟨g,0,none⟩ m cap xs rfl hxl (hcs _ ((Below.refl _ _).alloc (Nat.le_refl _) _)) h1 (by omega) (by unfold maxLen;omega) (by omega) ?_)
 intro v1 w1 hown hgrow
 have hB:Below w.heap.size w w1:=((Below.refl _ w).alloc (Nat.le_refl _) _).grown hgrow (by simp) (fun k e=>by cases e)
 have hr:=rows_base hown (Nat.le_succ w.heap.size)
 clear hown hgrow hcs hv
 go_wp2
 refine bodyPost_ret (v:=v1) ?_ rfl ⟨v1,rfl,hr,hB⟩
 simp [results,Tryz.results129,go_sem]
theorem fires73 {w:World} {lb mb nL m g cap:Nat} {xs:List Value} (hL:Blk w lb #[.slice (some ⟨g,0,none⟩) m cap,.map (some mb)] 242) (hv:w.ownsRow nL 71 4 (.slice (some ⟨g,0,none⟩) m cap) m xs) (hm:0<m) (hm2:m<1000000) (h1:∀ u∈xs,u.oneCell'=true) :
 Calls Tryz.prog 73 #[.pointer (some ⟨lb,0,none⟩)] w fun e w'=>∃ v,e=.returned v∧w'.ownsRow w.heap.size 71 4 v m xs∧Below w.heap.size w w':=by
 have ha:=all130 hL
 have hc:=clone129 hv hm hm2 h1
 clear hL hv h1
 go_enter Tryz.func73,Tryz.ntmps73
 go_wp2_with (go_at_call 130;fail)
 refine ha.mono ?_
 rintro e w1 ⟨rfl,rfl⟩
 go_wp2_with (go_at_call 129;fail)
 refine hc.mono ?_
 rintro e w2 ⟨v,rfl,hr,hb⟩
 go_wp2
 refine bodyPost_ret (v:=v) ?_ rfl ⟨v,rfl,hr,hb⟩
 simp [results,Tryz.results73,go_sem]
end Go.Proofs.YtkndlfdpmpdihaaGreatDoor
namespace Go.Proofs.YtkndlfdpmpdihaaGreatDoor
open Go.RowKit Go.Ev Go.Mv
set_option linter.unusedVariables false
set_option linter.unusedSimpArgs false
set_option maxRecDepth 100000
theorem sfires31 {I:BI} {B:WB} {Z:SB} {a:I.A} {S:WS} {w:World} {lb mb nL m g cap:Nat} {xs:List Value} (h:SvcAt I B Z a S w) (hz:Z.v4=.pointer (some ⟨lb,0,none⟩)) (hL:Blk w lb #[.slice (some ⟨g,0,none⟩) m cap,.map (some mb)] 242) (hv:w.ownsRow nL 71 4 (.slice (some ⟨g,0,none⟩) m cap) m xs) (hm:0<m) (hm2:m<1000000) (h1:∀ u∈xs,u.oneCell'=true) :
 Calls Tryz.prog 31 #[.pointer (some ⟨Z.b,0,none⟩)] w fun e w'=>∃ v,e=.returned v∧w'.ownsRow w.heap.size 71 4 v m xs∧Below w.heap.size w w':=by
 have hf:=fires73 hL hv hm hm2 h1
 have c4:w.cell? ⟨Z.b,4,none⟩=some (.pointer (some ⟨lb,0,none⟩)):=by rw [←hz];exact h.blk.cell 4 rfl
 clear hL hv h1 h hz
 go_enter Tryz.func31,Tryz.ntmps31
 go_wp2_with (go_at_call 73;fail)
 refine hf.mono ?_
 rintro e w2 ⟨v,rfl,hr,hb⟩
 go_wp2
 refine bodyPost_ret (v:=v) ?_ rfl ⟨v,rfl,hr,hb⟩
 simp [results,Tryz.results31,go_sem]
def fireC (x:Nat×Nat×Nat×Int):List Value:=[.int .u64 (x.1:Int),.int .u64 (x.2.1:Int),.int .u64 (x.2.2.1:Int),.int .i64 x.2.2.2]
def fireCells (l:List (Nat×Nat×Nat×Int)):List Value:=l.flatMap fireC
theorem fireCells_app (l l':List (Nat×Nat×Nat×Int)):fireCells (l++l')=fireCells l++fireCells l':=by
 unfold fireCells
 rw [List.flatMap_append]
theorem fireCells_one (l:List (Nat×Nat×Nat×Int)):∀ u∈fireCells l,u.oneCell'=true:=by
 intro u hu
 obtain ⟨x,_,hx⟩:=List.mem_flatMap.1 hu
 unfold fireC at hx
 simp at hx
 rcases hx with rfl | rfl | rfl | rfl<;>rfl
def LogAt (lb mb nL:Nat) (fs:List (Nat×Nat×Nat×Int)) (w:World):Prop:=
 ∃ v f n,Blk w lb #[v,.map (some mb)] 242∧MapIs UP w mb f n∧w.ownsRow nL 71 4 v fs.length (fireCells fs)∧(fs=[]→v=.slice none 0 0)∧(fs≠[]→∃ g cap,v=.slice (some ⟨g,0,none⟩) fs.length cap)∧∀ k,∃ c:Nat,c≤fs.length∧(f k).getD (.int .i64 0)=.int .i64 (c:Int)
section
variable {lb mb nL:Nat} {fs:List (Nat×Nat×Nat×Int)} {w w':World}
theorem LogAt.tch (h:LogAt lb mb nL fs w) {X:Nat→Prop} (ht:Tch X w w') (h1:¬X lb) (h2:¬X mb) (hx:∀ k,X k→nL≤k→w.heap.size≤k):LogAt lb mb nL fs w':=by
 obtain ⟨v,f,n,a,b,c,d,e,g⟩:=h
 exact ⟨v,f,n,(ht.block _ a.lt h1).trans a,b.tch ht h2,rows_keep c ht hx,d,e,g⟩
theorem LogAt.below (h:LogAt lb mb nL fs w) (hb:Below w.heap.size w w'):LogAt lb mb nL fs w':=h.tch (X:=fun _=>False) (Tch.of_below hb) (fun e=>e) (fun e=>e) (fun _ e=>e.elim)
theorem LogAt.set (h:LogAt lb mb nL fs w) {x:Nat} {vs:Array Value} {T:TypeId} (hx:Blk w x vs T) (hT:T≠71) (h1:lb≠x) (h2:mb≠x) (ht:Tch (fun r=>r=x) w w'):LogAt lb mb nL fs w':=by
 obtain ⟨v,f,n,a,b,c,d,e,g⟩:=h
 refine ⟨v,f,n,(ht.block _ a.lt h1).trans a,b.tch ht h2,⟨c.1,?_⟩,d,e,g⟩
 rcases c.2 with h3 | ⟨g',cap,cur,k1,k2,k3,k4⟩
 ·exact .inl h3
 ·refine .inr ⟨g',cap,cur,k1,k2,(ht.block _ (Array.getElem?_eq_some_iff.1 k3).1 ?_).trans k3,k4⟩
  rintro rfl
  rw [show w.heap[g']?=some (.cells vs T (0,0)) from hx] at k3
  cases k3
  exact hT rfl
theorem log0 (nL:Nat) (h:Blk w lb #[.slice none 0 0,.map (some mb)] 242) (hm:w.heap[mb]?=some (.map #[] 0)):LogAt lb mb nL [] w:=
 ⟨_,fun _=>none,0,h,⟨_,_,hm,⟨by simp,List.Pairwise.nil,List.Pairwise.nil,by simp,fun a=>rfl,rfl⟩⟩,World.ownsRow_nil _ _ _ _,fun _=>rfl,fun h=>absurd rfl h,fun k=>⟨0,Nat.le_refl _,rfl⟩⟩
theorem log_add (h:LogAt lb mb nL fs w) (hne:lb≠mb) (hnL:nL≤w.heap.size) (hlb:lb<nL) (hmb:mb<nL) (hl:fs.length<1000000) {hd d t:Nat} (hh:hd<18446744073709551616) :
 Calls Tryz.prog 69 #[.pointer (some ⟨lb,0,none⟩),.int .u64 hd,.int .u64 d,.int .u64 t] w fun e w'=>∃ c:Int,e=.returned (.agg #[.int .u64 hd,.int .u64 d,.int .u64 t,.int .i64 c])∧LogAt lb mb nL (fs++[(hd,d,t,c)]) w'∧Tch (fun r=>r=lb∨r=mb∨nL≤r) w w'∧Kept 71 nL w w':=by
 obtain ⟨v,f,n,a,b,c,_,_,g⟩:=h
 obtain ⟨k,hk1,hk2⟩:=g (((hd / 4096:Nat):Int),((hd % 4096:Nat):Int))
 refine (add69 a b hne b.lt c hnL hlb hmb hl hh (by omega) hk2).mono ?_
 rintro e w' ⟨rfl,gg,cap,n4,r1,r2,r3,r4,r5⟩
 refine ⟨(k:Int)+1,rfl,⟨_,_,n4,r2,r5,?_,fun e=>by simp at e,fun _=>⟨gg,cap,by simp⟩,fun x=>?_⟩,r3,r4⟩
 ·rw [fireCells_app,List.length_append]
  exact r1
 ·by_cases e:x=(((hd / 4096:Nat):Int),((hd % 4096:Nat):Int))
  ·subst e
   rw [fset_same]
   exact ⟨k+1,by simp;omega,by simp⟩
  ·rw [fset_ne _ _ e]
   obtain ⟨c,h1,h2⟩:=g x
   exact ⟨c,by simp;omega,h2⟩
theorem clone0 (w:World):Calls Tryz.prog 129 #[.slice none 0 0] w fun e w'=>e=.returned (.slice none 0 0)∧w'=w:=by
 have heq:∀ w,(binOp BinOp.eql 68 (.slice none 0 0) (.slice none 0 0)).run Tryz.prog w=.ok (.bool true) w:=fun w=>by kernel_rfl
 go_enter Tryz.func129,Tryz.ntmps129
 go_wp2
 refine bodyPost_ret (v:=.slice none 0 0) ?_ rfl ⟨rfl,rfl⟩
 simp [results,Tryz.results129,go_sem]
theorem fires0 (h:Blk w lb #[.slice none 0 0,.map (some mb)] 242):Calls Tryz.prog 73 #[.pointer (some ⟨lb,0,none⟩)] w fun e w'=>e=.returned (.slice none 0 0)∧w'=w:=by
 have ha:=all130 h
 go_enter Tryz.func73,Tryz.ntmps73
 go_wp2_with (first | (go_at_call 130;refine ha.mono ?_;rintro e w1 ⟨rfl,rfl⟩) | (go_at_call 129;refine (clone0 _).mono ?_;rintro e w1 ⟨rfl,rfl⟩))
 refine bodyPost_ret (v:=.slice none 0 0) ?_ rfl ⟨rfl,rfl⟩
 simp [results,Tryz.results73,go_sem]
theorem sfires_log {I:BI} {B:WB} {Z:SB} {a:I.A} {S:WS} (h:SvcAt I B Z a S w) (hz:Z.v4=.pointer (some ⟨lb,0,none⟩)) (hl:LogAt lb mb nL fs w) (hm:fs.length<1000000) :
 Calls Tryz.prog 31 #[.pointer (some ⟨Z.b,0,none⟩)] w fun e w'=>∃ v,e=.returned v∧w'.ownsRow w.heap.size 71 4 v fs.length (fireCells fs)∧Below w.heap.size w w':=by
 obtain ⟨v,f,n,q1,q2,q3,q4,q5,q6⟩:=hl
 by_cases hf:fs=[]
 ·have e4:=q4 hf
  subst e4
  subst hf
  have hf:=fires0 q1
  have c4:w.cell? ⟨Z.b,4,none⟩=some (.pointer (some ⟨lb,0,none⟩)):=by rw [←hz];exact h.blk.cell 4 rfl
  clear q1 q2 q3 q4 q5 q6 h hz
  go_enter Tryz.func31,Tryz.ntmps31
  go_wp2_with (go_at_call 73;refine hf.mono ?_;rintro e w1 ⟨rfl,rfl⟩)
  refine bodyPost_ret (v:=.slice none 0 0) ?_ rfl ⟨_,rfl,World.ownsRow_nil _ _ _ _,Below.refl _ _⟩
  simp [results,Tryz.results31,go_sem]
 ·obtain ⟨g,cap,e5⟩:=q5 hf
  subst e5
  exact sfires31 h hz q1 q3 (List.length_pos_iff.2 hf) hm (fireCells_one fs)
end
theorem minOf_spec:∀ {zs:List Int},zs≠[]→Lib.minOf zs∈zs∧∀ z∈zs,Lib.minOf zs≤z:=by
 intro zs h
 unfold Lib.minOf
 have key:∀ (l:List Int) (i:Int),(l.foldl min i=i∨l.foldl min i∈l)∧l.foldl min i≤i∧∀ z∈l,l.foldl min i≤z:=by
  intro l
  induction l with
  | nil=>exact fun i=>⟨.inl rfl,Int.le_refl _,fun z hz=>by cases hz⟩
  | cons a l ih=>
    intro i
    obtain ⟨h1,h2,h3⟩:=ih (min i a)
    rw [List.foldl_cons]
    refine ⟨?_,Int.le_trans h2 (Int.min_le_left _ _),fun z hz=>?_⟩
    ·rcases h1 with h1 | h1
     ·rw [h1,Int.min_def]
      split
      ·exact .inl rfl
      ·exact .inr (by simp)
     ·exact .inr (List.mem_cons_of_mem _ h1)
    ·rcases List.mem_cons.1 hz with rfl | hz
     ·exact Int.le_trans h2 (Int.min_le_right _ _)
     ·exact h3 z hz
 cases zs with
 | nil=>exact absurd rfl h
 | cons a l=>
   obtain ⟨h1,h2,h3⟩:=key (a::l) a
   exact ⟨h1.elim (fun e=>by rw [show (a::l).headD 0=a from rfl,e];simp) id,h3⟩
def Least (p:PS) (c:Nat):Prop:=(∀ a t,p.ent a=some t→c≤t.d)∧((∃ a t,p.ent a=some t∧t.d=c)∨((∀ a,p.ent a=none)∧c=18446744073709551615))
section
variable {B:WB} {S:WS} {ls:Int×Int→List Nat}
theorem nextV_head {L:Nat→List Nat} {k0:Int×Int} {K:List (Int×Int)} (hK:placesL ls L=k0::K) (h0:ls k0≠[]):nextV S (ls (-1,0)) (ls (lowK L)) (ls (8,0)) (lowK L).1=(Lib.minOf ((ls k0).map (dlOf S)),true):=by
 unfold placesL at hK
 unfold nextV
 by_cases hc:ls (-1,0)=[]
 ·rw [if_neg (by simp [hc])]
  rw [if_pos hc,List.nil_append] at hK
  cases hu:upToL L 8 with
  | nil=>
    have hl:lowK L=(-1,-1):=by unfold lowK;rw [hu]
    rw [hl,if_neg (by decide)]
    rw [hu,List.map_nil,List.nil_append] at hK
    split at hK
    ·cases hK
    ·cases hK
     rename_i h8
     simp [h8]
  | cons x l=>
    have hl:lowK L=((x.1:Int),(x.2:Int)):=by unfold lowK;rw [hu]
    rw [hu,List.map_cons,List.cons_append] at hK
    have e:=(List.cons.inj hK).1
    rw [hl,if_pos (by show (0:Int)≤(x.1:Int);omega),e]
    simp [h0]
 ·rw [if_pos hc]
  rw [if_neg hc] at hK
  have e:(-1,0)=k0:=(List.cons.inj hK).1
  rw [←e]
theorem WMid.nxt (h:WMid B S ls S.base (fun _=>False)) (hn:S.p.n=0↔∀ a,S.p.ent a=none):∃ v b,Nx B S v b∧Least S.p (if b then v else 18446744073709551615):=by
 by_cases hn0:S.p.n=0
 ·have h0:=hn.1 hn0
  refine ⟨0,false,⟨by omega,fun w hw _=>next_none hw hn0⟩,fun a t ha=>?_,.inr ⟨h0,rfl⟩⟩
  rw [h0 a] at ha
  cases ha
 ·obtain ⟨LB,hLB⟩:=h.ok.bits
  have hin:∀ a t,S.p.ent a=some t→a∈ls (placeOf S.base t.d):=fun a t ht=>(h.all a t ht).resolve_left id
  obtain ⟨a0,t0,ht0⟩:∃ a t,S.p.ent a=some t:=by
   apply Classical.byContradiction
   intro hc
   refine hn0 (hn.2 fun a=>?_)
   cases he:S.p.ent a with
   | none=>rfl
   | some t=>exact absurd ⟨a,t,he⟩ hc
  have hmem:∀ k,k∈placesL ls LB↔ls k≠[]:=h.mem_places hLB
  have hsort:=h.sorted hLB
  have hk0:placeOf S.base t0.d∈placesL ls LB:=(hmem _).2 (fun e=>by have:=hin a0 t0 ht0;rw [e] at this;cases this)
  cases hK:placesL ls LB with
  | nil=>rw [hK] at hk0;cases hk0
  | cons k0 K=>
    have h0:ls k0≠[]:=(hmem k0).1 (by rw [hK];simp)
    have hV:=nextV_head (S:=S) hK h0
    obtain ⟨m1,m2⟩:=minOf_spec (zs:=(ls k0).map (dlOf S)) (by simp [h0])
    obtain ⟨a,ha,hm⟩:=List.mem_map.1 m1
    obtain ⟨t,ht,hp⟩:=h.pl k0 a ha
    obtain ⟨t',hL',ht'⟩:=h.ok.live k0 a ha
    have ett:t'=t:=by have:=hL'.ent;rw [ht] at this;cases this;rfl
    rw [ett] at ht'
    have hd:dlOf S a=(t.d:Int):=by unfold dlOf;rw [ht]
    rw [←hm,hd] at m2
    rw [←hm,hd] at hV
    refine ⟨t.d,true,⟨ht',fun w hw hT=>?_⟩,fun a' t' hta=>?_,.inl ⟨a,t,ht,rfl⟩⟩
    ·have:=next_some hw hT h.ok.m hn0 hLB (h.ok.told (-1,0)) (h.ok.told (lowK LB)) (h.ok.told (8,0))
     rw [hV] at this
     exact this
    ·show t.d≤t'.d
     have ha':=hin a' t' hta
     have hk':placeOf S.base t'.d∈placesL ls LB:=(hmem _).2 (fun e=>by rw [e] at ha';cases ha')
     rw [hK,List.mem_cons] at hk'
     rcases hk' with e | hk'
     ·rw [e] at ha'
      have:=m2 _ (List.mem_map.2 ⟨a',ha',rfl⟩)
      have hd':dlOf S a'=(t'.d:Int):=by unfold dlOf;rw [hta]
      rw [hd'] at this
      omega
     ·rw [hK,List.pairwise_cons] at hsort
      have hlt:=hsort.1 _ hk'
      obtain ⟨f,hf,hle⟩:=(pl_of S.base t'.d).span
      have:=hp.ahead hf hlt
      omega
theorem WMid.add (h:WMid B S ls S.base (fun _=>False)) {a d p:Nat} (hd:d<18446744073709551616) (hac:a<B.c.room) (hn:S.p.ent a=none) (hg:S.p.gen a<4294967295) :
 (∀ k,a∉ls k)∧WMid B (S.add a d p) (fset ls (placeOf S.base d) (ls (placeOf S.base d)++[a])) S.base (fun _=>False):=by
 have hroom:=h.ok.room
 have hout:∀ k,a∉ls k:=fun k hk=>by
  obtain ⟨t,ht,_⟩:=h.pl k a hk
  rw [hn] at ht
  cases ht
 have hne:∀ {k x},x∈ls k→x≠a:=fun {k x} hx e=>hout k (e ▸ hx)
 have h1:WMid B { S with p:=⟨fset S.p.ent a (some ⟨d,p,S.order⟩),S.p.gen,S.p.n+1,markW S.p.word a true⟩,order:=S.order+1 } ls S.base (fun x=>x=a):=by
  refine ⟨⟨h.ok.ch,fun k x hx=>?_,h.ok.m,hroom⟩,fun k x hx=>?_,fun x t hx=>?_,fun x hx=>?_,h.bits⟩
  ·obtain ⟨t,hL,ht⟩:=h.ok.live k x hx
   exact ⟨t,⟨(fset_ne _ _ (hne hx)).trans hL.ent,hL.lt,hL.gen⟩,ht⟩
  ·obtain ⟨t,ht,hp⟩:=h.pl k x hx
   exact ⟨t,(fset_ne _ _ (hne hx)).trans ht,hp⟩
  ·by_cases e:x=a
   ·exact .inl e
   ·have hx':S.p.ent x=some t:=(fset_ne _ _ e).symm.trans hx
    exact (h.all x t hx').imp (fun e=>e.elim) id
  ·subst hx
   exact ⟨hout,hac,⟨d,p,S.order⟩,⟨fset_same _ _ _,by omega,hg⟩,hd⟩
 refine ⟨hout,?_⟩
 have h2:=(h1.push rfl (a:=a) rfl (t:=⟨d,p,S.order⟩) (fset_same _ _ _)).2
 exact h2.congr (fun _=>rfl) (fun x=>⟨fun e=>e.elim,fun e=>e.2 e.1⟩)
end
def cntN (f:Nat→Option Tm):Nat→Nat
 | 0=>0
 | r+1=>cntN f r+if (f r).isSome then 1 else 0
theorem cntN_out (f:Nat→Option Tm) (a:Nat) (x:Option Tm):∀ r,r≤a→cntN (fset f a x) r=cntN f r
 | 0,_=>rfl
 | r+1,h=>by
   show cntN (fset f a x) r+_=cntN f r+_
   rw [cntN_out f a x r (by omega),fset_ne _ _ (by omega)]
theorem cntN_in (f:Nat→Option Tm) (a:Nat) (t:Tm) (ha:f a=none):∀ r,a<r→cntN (fset f a (some t)) r=cntN f r+1
 | 0,h=>by omega
 | r+1,h=>by
   show cntN (fset f a (some t)) r+_=cntN f r+_+1
   by_cases e:a=r
   ·subst e
    rw [cntN_out f a (some t) a (Nat.le_refl _),fset_same,ha]
    simp
   ·rw [cntN_in f a t ha r (by omega),fset_ne _ _ (by omega)]
    omega
theorem cntN_off (f:Nat→Option Tm) (a:Nat) (t:Tm) (ha:f a=some t):∀ r,a<r→cntN (fset f a none) r+1=cntN f r
 | 0,h=>by omega
 | r+1,h=>by
   show cntN (fset f a none) r+_+1=cntN f r+_
   by_cases e:a=r
   ·subst e
    rw [cntN_out f a none a (Nat.le_refl _),fset_same,ha]
    simp
   ·have:=cntN_off f a t ha r (by omega)
    rw [fset_ne _ _ (by omega)]
    omega
theorem cntN_zero (f:Nat→Option Tm):∀ r,cntN f r=0↔∀ a,a<r→f a=none
 | 0=>⟨fun _ a h=>by omega,fun _=>rfl⟩
 | r+1=>by
   show cntN f r+_=0↔_
   have ih:=cntN_zero f r
   constructor
   ·intro h a ha
    have h1:cntN f r=0:=by omega
    by_cases e:a=r
    ·subst e
     cases hf:f a with
     | none=>rfl
     | some t=>rw [hf] at h;simp at h
    ·exact ih.1 h1 a (by omega)
   ·intro h
    rw [ih.2 (fun a ha=>h a (by omega)),h r (by omega)]
    rfl
theorem cntN_free (f:Nat→Option Tm):∀ r,cntN f r<r→∃ a,a<r∧f a=none
 | 0,h=>by omega
 | r+1,h=>by
   have h:cntN f r+(if (f r).isSome then 1 else 0)<r+1:=h
   cases hf:f r with
   | none=>exact ⟨r,by omega,hf⟩
   | some t=>
     rw [hf] at h
     simp only [Option.isSome_some,if_true] at h
     obtain ⟨a,h1,h2⟩:=cntN_free f r (by omega)
     exact ⟨a,by omega,h2⟩
theorem mark_on {w a s:Nat} (ha:a<64) (hs:s<64):(markW w a true).testBit s=(decide (s=a) || w.testBit s):=by
 unfold markW
 rw [if_pos rfl,Nat.testBit_or,Nat.testBit_and,drop_bit ha hs,two_bit]
 by_cases e:a=s
 ·subst e;simp
 ·have e':s≠a:=fun h=>e h.symm
  simp [e,e']
theorem mark_off {w a s:Nat} (ha:a<64) (hs:s<64):(markW w a false).testBit s=(decide (s≠a)&&w.testBit s):=by
 unfold markW
 rw [if_neg (by decide),Nat.testBit_and,drop_bit ha hs]
 by_cases e:a=s
 ·subst e;simp
 ·have e':s≠a:=fun h=>e h.symm
  simp [e,e']
theorem markW_lt {w a:Nat} (b:Bool) (ha:a<64) (hw:w<18446744073709551616):markW w a b<18446744073709551616:=by
 have h1:w &&& (2^64-1-2^a)<18446744073709551616:=Nat.lt_of_le_of_lt Nat.and_le_left hw
 have h2:2^a<2^64:=Nat.pow_lt_pow_right (by omega) ha
 unfold markW
 split
 ·exact Nat.or_lt_two_pow (n:=64) h1 h2
 ·exact h1
theorem nt_bit {w s:Nat} (hw:w<18446744073709551616) (hs:s<64):(18446744073709551615-w).testBit s=!w.testBit s:=by
 have:=Nat.testBit_two_pow_sub_succ (n:=64) (x:=w) hw s
 rw [show 2^64-(w+1)=18446744073709551615-w from by omega] at this
 rw [this]
 simp [hs]
structure PoolOk (p:PS) (r:Nat):Prop where
 cnt:p.n=cntN p.ent r
 out:∀ a,r≤a→p.ent a=none
 bit:∀ a,a<64→p.word.testBit a=(p.ent a).isSome
 word:p.word<18446744073709551616
 per:∀ a t,p.ent a=some t→t.p=0
section
variable {p:PS} {r:Nat}
theorem PoolOk.lt (h:PoolOk p r) {a:Nat} {t:Tm} (ha:p.ent a=some t):a<r:=by
 apply Classical.byContradiction
 intro hc
 rw [h.out a (by omega)] at ha
 cases ha
theorem PoolOk.zero (h:PoolOk p r):p.n=0↔∀ a,p.ent a=none:=by
 rw [h.cnt,cntN_zero]
 exact ⟨fun e a=>if ha:a<r then e a ha else h.out a (by omega),fun e a _=>e a⟩
theorem PoolOk.free (h:PoolOk p r) (hr:r≤64) (hn:p.n<r):∃ a,a<r∧p.ent a=none∧(∀ x,x<a→p.ent x≠none)∧firstN (18446744073709551615-p.word) 0=(a:Int):=by
 obtain ⟨x,hx,hf⟩:=cntN_free p.ent r (by rw [←h.cnt];exact hn)
 have hw:=h.word
 have hb:∀ s,s<64→(18446744073709551615-p.word).testBit s=!(p.ent s).isSome:=fun s hs=>by rw [nt_bit hw hs,h.bit s hs]
 have e:nxtN (18446744073709551615-p.word) 0=firstN (18446744073709551615-p.word) 0:=by unfold nxtN;rw [if_pos (by omega)]
 rcases nxt_spec (18446744073709551615-p.word) (by omega) 0 (by omega) with ⟨_,h1⟩ | ⟨a,h0,_,h2,h3,h4⟩
 ·have:=h1 x (Nat.zero_le _) (by omega)
  rw [hb x (by omega),hf] at this
  cases this
 ·rw [hb a h2] at h3
  have hax:a≤x:=by
   apply Classical.byContradiction
   intro hc
   have:=h4 x (Nat.zero_le _) (by omega)
   rw [hb x (by omega),hf] at this
   cases this
  refine ⟨a,by omega,?_,fun y hy hc=>?_,by rw [←e];exact h0⟩
  ·cases he:p.ent a with
   | none=>rfl
   | some t=>rw [he] at h3;cases h3
  ·have:=h4 y (Nat.zero_le _) hy
   rw [hb y (by omega),hc] at this
   cases this
theorem PoolOk.put (h:PoolOk p r) (hr:r≤64) {a d o:Nat} (ha:a<r) (hn:p.ent a=none):PoolOk ⟨fset p.ent a (some ⟨d,0,o⟩),p.gen,p.n+1,markW p.word a true⟩ r:=by
 refine ⟨?_,fun x hx=>?_,fun x hx=>?_,(show markW p.word a true<_ from markW_lt true (by omega) h.word),fun x t hx=>?_⟩
 ·show p.n+1=cntN (fset p.ent a _) r
  rw [cntN_in p.ent a _ hn r ha,h.cnt]
 ·exact (fset_ne _ _ (by omega)).trans (h.out x hx)
 ·show (markW p.word a true).testBit x=(fset p.ent a _ x).isSome
  rw [mark_on (by omega) hx]
  by_cases e:x=a
  ·subst e;rw [fset_same];simp
  ·rw [fset_ne _ _ e,h.bit x hx];simp [e]
 ·by_cases e:x=a
  ·subst e
   rw [show (⟨fset p.ent x (some ⟨d,0,o⟩),p.gen,p.n+1,markW p.word x true⟩:PS).ent x=some ⟨d,0,o⟩ from fset_same _ _ _] at hx
   cases hx
   rfl
  ·exact h.per x t ((fset_ne _ _ e).symm.trans hx)
theorem PoolOk.drop (h:PoolOk p r) (hr:r≤64) {a:Nat} {t:Tm} (hn:p.ent a=some t):PoolOk (p.drop a) r:=by
 have ha:=h.lt hn
 refine ⟨?_,fun x hx=>?_,fun x hx=>?_,(show markW p.word a false<_ from markW_lt false (by omega) h.word),fun x u hx=>?_⟩
 ·show p.n-1=cntN (fset p.ent a _) r
  have:=cntN_off p.ent a t hn r ha
  have:=h.cnt
  omega
 ·exact (fset_ne _ _ (by omega)).trans (h.out x hx)
 ·show (markW p.word a false).testBit x=(fset p.ent a _ x).isSome
  rw [mark_off (by omega) hx]
  by_cases e:x=a
  ·subst e;rw [fset_same];simp
  ·rw [fset_ne _ _ e,h.bit x hx];simp [e]
 ·by_cases e:x=a
  ·subst e
   rw [show (p.drop x).ent x=none from fset_same _ _ _] at hx
   cases hx
  ·exact h.per x u ((fset_ne _ _ e).symm.trans hx)
theorem PoolOk.dropAll (hr:r≤64):∀ {D:List Nat} {p:PS},PoolOk p r→D.Nodup→(∀ a∈D,∃ t,p.ent a=some t)→PoolOk (dropL p D) r
 | [],p,h,_,_=>h
 | a::D,p,h,hn,hD=>by
   obtain ⟨t,ht⟩:=hD a (by simp)
   rw [List.nodup_cons] at hn
   show PoolOk (dropL (p.drop a) D) r
   refine PoolOk.dropAll hr (h.drop hr ht) hn.2 fun x hx=>?_
   obtain ⟨u,hu⟩:=hD x (by simp [hx])
   exact ⟨u,(fset_ne _ _ (fun e=>hn.1 (by rw [←e];exact hx))).trans hu⟩
end
theorem drop_n (p:PS) (a:Nat):(p.drop a).n=p.n-1:=rfl
theorem dropL_n:∀ (D:List Nat) (p:PS),(dropL p D).n=p.n-D.length
 | [],p=>rfl
 | a::D,p=>by
   show (dropL (p.drop a) D).n=_
   rw [dropL_n D,drop_n,List.length_cons]
   omega
theorem poolOk0 (r:Nat):PoolOk ps0 r:=by
 refine ⟨?_,fun a _=>rfl,fun a _=>?_,by show 0<_;omega,fun a t h=>by cases h⟩
 ·exact ((cntN_zero ps0.ent r).2 (fun a _=>rfl)).symm
 ·exact Nat.zero_testBit a
structure WL (B:WB) (r:Nat) (S:WS) (ls:Int×Int→List Nat):Prop where
 mid:WMid B S ls S.base (fun _=>False)
 own2:¬B.own 2
 rp:B.p.room=r
 rc:B.c.room=r
 hr:r≤31
 pool:PoolOk S.p r
section
variable {B:WB} {r:Nat} {S:WS} {ls:Int×Int→List Nat}
theorem WL.nxt (h:WL B r S ls):∃ v b,Nx B S v b∧Least S.p (if b then v else 18446744073709551615):=h.mid.nxt h.pool.zero
theorem WL.add (h:WL B r S ls) (hn:S.p.n<r) {d:Nat} (hd:d<18446744073709551616) (hb:S.base<18446744073709551616) (ho:S.order<4294967296) (hg:∀ a,S.p.gen a<4294967295) :
 ∃ a,a<r∧S.p.ent a=none∧(∀ x,x<a→S.p.ent x≠none)∧Ad B S d 0 (hN S.p a) (S.add a d 0)∧∃ ls',WL B r (S.add a d 0) ls':=by
 have hr:=h.hr
 obtain ⟨a,ha,hf,hm,hw⟩:=h.pool.free (by omega) hn
 have hwd:=h.pool.word
 obtain ⟨h1,h2⟩:=h.mid.add (p:=0) hd (by rw [h.rc];exact ha) hf (hg a)
 refine ⟨a,ha,hf,hm,(h.mid.ok.add h.own2 (a:=a) (nw:=18446744073709551615-S.p.word) (by omega) hw (by omega) (by rw [h.rp];exact ha) (by rw [h.rc];exact ha) hf (hg a) hd hb ho h1).1,_,h2,h.own2,h.rp,h.rc,h.hr,?_⟩
 exact h.pool.put (by omega) ha hf
end
theorem mid0 {B:WB} (hc:B.c.room≤31):WMid B ws0 (fun _=>[]) 0 (fun _=>False):=by
 refine ⟨⟨⟨fun k=>rfl,fun k=>trivial,fun a _=>rfl,fun k a h=>(by cases h),fun k=>List.nodup_nil,fun k k' a h=>(by cases h)⟩,fun k a h=>(by cases h),fun i=>by show 0<_;omega,by omega⟩,fun k a h=>(by cases h),fun a t h=>(by cases h),fun a h=>h.elim,fun l s hl hs=>?_⟩
 show (0:Nat).testBit s=true↔_
 rw [Nat.zero_testBit]
 simp
theorem wl0 {B:WB} {r:Nat} (hp:B.p.room=r) (hc:B.c.room=r) (hr:r≤31) (h2:¬B.own 2):WL B r ws0 (fun _=>[]):=
 ⟨mid0 (by omega),h2,hp,hc,hr,poolOk0 r⟩
end Go.Proofs.YtkndlfdpmpdihaaGreatDoor
