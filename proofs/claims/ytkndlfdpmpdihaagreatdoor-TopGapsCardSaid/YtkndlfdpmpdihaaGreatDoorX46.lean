/- TopGaps: its walk. A list of numbers, read out of the argument. The gaps, read out of the argument. Conditions: those that each statement shows. -/
import Derived.Test.YtkndlfdpmpdihaaGreatDoorX45
import Derived.Deep.CutBlock
import Derived.Test.YtkndlfdpmpdihaaGreatDoorRows
import Derived.Deep.Slices
import Derived.ChangeArms
import Derived.ProofKit
import Derived.WideShapes
namespace Go.Proofs.YtkndlfdpmpdihaaGreatDoor
open Go.RowKit Go.Ev Go.Mv
set_option linter.unusedVariables false
set_option linter.unusedSimpArgs false
set_option maxRecDepth 100000
def GapsRel (W:World) (X Y:Side) (n2 len:Nat) (g:Nat) (i:Value) (wr:World):Prop:=
 ∃ k ds S a b,k≤len∧k≤30∧g=30-k∧i=.int .i64 (k:Int)∧ds.length=k∧(∀ d∈ds,d<36028797018963968)∧GW ds S∧SideAt X n2 [] a S wr∧SideAt Y n2 [] b S wr∧(110≤a.left+3*k∧a.left≤200∧a.s.time≤12884901888*k)∧(110≤b.left+3*k∧b.left≤200∧b.s.time≤12884901888*k)∧Below W.heap.size W wr∧n2≤wr.heap.size
def GapsFull (W:World) (X Y:Side) (n2 m:Nat) (wr:World):Prop:=
 ∃ ds S a b,ds.length=m∧(∀ d∈ds,d<36028797018963968)∧GW ds S∧SideAt X n2 [] a S wr∧SideAt Y n2 [] b S wr∧(20≤a.left∧a.left≤200∧a.s.time≤386547056640)∧(20≤b.left∧b.left≤200∧b.s.time≤386547056640)∧Below W.heap.size W wr∧n2≤wr.heap.size
theorem told_cell {p:PS} {now:Nat}:∀ {D:List Nat} {gs:List (Nat×Nat×Nat×Int)},gs.map cut4=told p now D→gs.length=D.length∧∀ (i k:Nat),D[i]?=some k→(fireCells gs)[i*4]?=some (.int .u64 (hN p k:Nat))∧(fireCells gs)[i*4+1]?=some (.int .u64 (p.tm k).d)∧(fireCells gs)[i*4+2]?=some (.int .u64 (now:Nat))
 | [],[],_=>⟨rfl,fun i k h=>by cases h⟩
 | [],x::l,h=>by cases h
 | k::D,[],h=>by cases h
 | k::D,x::l,h=>by
   unfold told at h
   rw [List.map_cons,List.map_cons] at h
   obtain ⟨h1,h2⟩:=List.cons.inj h
   obtain ⟨q1,q2⟩:=told_cell (p:=p) (now:=now) (D:=D) (gs:=l) h2
   have e1:x.1=hN p k:=congrArg Prod.fst h1
   have e2:x.2.1=(p.tm k).d:=congrArg (fun t=>t.2.1) h1
   have e3:x.2.2.1=now:=congrArg (fun t=>t.2.2) h1
   refine ⟨by simp [q1],fun i y hy=>?_⟩
   cases i with
   | zero=>
     cases hy
     rw [←e1,←e2,←e3]
     exact ⟨rfl,rfl,rfl⟩
   | succ i=>
     obtain ⟨r1,r2,r3⟩:=q2 i y hy
     rw [show (i+1)*4=i*4+4 from by omega]
     exact ⟨r1,r2,r3⟩
theorem row_four {w:World} {base n:Nat} {v:Value} {xs:List Value} (h:w.ownsRow base 71 4 v n xs):∃ (q:Option Addr) (c:Nat),v=.slice q n c∧n<9223372036854775808∧(0<n→∃ g,q=some ⟨g,0,none⟩∧∀ (m:Nat) (u:Value),xs[m]?=some u→w.cell? ⟨g,m,none⟩=some u):=by
 have hxl:=h.1
 rcases h.2 with ⟨rfl,h0⟩ | ⟨g,cap,cur,rfl,hb,hgb,h1,h2,hcs,htk⟩
 ·exact ⟨none,0,by rw [h0],by omega,fun hn=>by omega⟩
 ·refine ⟨_,_,rfl,by unfold maxLen at h2;omega,fun _=>⟨g,rfl,fun m u hm=>?_⟩⟩
  refine Blk.cell (show Blk w g cur 71 from hgb) m ?_
  have hml:=(List.getElem?_eq_some_iff.1 hm).1
  rw [hxl] at hml
  rw [←htk,List.getElem?_take_of_lt hml] at hm
  simpa using hm
theorem cell_of {B:Nat} {w w':World} (h:Below B w w') {a:Addr} {v:Value} (hc:w.cell? a=some v) (hB:w.heap.size≤B):w'.cell? a=some v:=by
 refine (h.cell (Nat.lt_of_lt_of_le ?_ hB)).trans hc
 apply Classical.byContradiction
 intro hn
 unfold World.cell? at hc
 rw [Array.getElem?_eq_none (by omega)] at hc
 cases hc
theorem tch_new2 {Y:Nat→Prop} {n:Nat} {w w':World} (h:Tch Y w w') (hn:n≤w.heap.size) (hx:∀ k,Y k→n≤k):Below n w w':=
 ⟨h.os,h.tape,h.output,h.size,fun k hk=>h.block k (by omega) (fun e=>by have:=hx k e;omega)⟩
set_option maxHeartbeats 8000000 in
theorem gaps_walk (W:World) (hT:Tabs W) (pg:Option Addr) (lg cg:Nat) (gl:List Nat) (hlg:lg≤9223372036854775807) (hcg:lg≤cg) (hgl:gl.length=min lg 64) (hgv:∀ v∈gl,v<4294967296) (hpg:pg=none∨∃ b off,pg=some ⟨b,off,none⟩) (hgin:GapsIn pg gl W)
 (p:Option Addr) (len cap:Nat) (xs:Nat→Nat) (hlen:len≤9223372036854775807) (hxs:∀ j,xs j<18446744073709551616) (hp:0<len→∃ b off,p=some ⟨b,off,none⟩∧b<W.heap.size∧∀ j,j<len→W.cell? ⟨b,off+j,none⟩=some (.int .u64 (xs j))) :
 Calls Tryz.prog 5 #[.slice pg lg cg,.slice p len cap] W fun e w'=>e=.returned (.bool true)∧Below W.heap.size W w':=by
 have h8:=hT.1
 have hm1:=made23 hT (room:=29) (r:=30) (left:=200) (by decide) (by omega) (cap:=cg) hlg hcg hgl hgv hpg hgin
 go_enter Tryz.func5,Tryz.ntmps5
 go_wp2_with (go_at_call 23;fail)
 refine hm1.mono ?_
 rintro e w1 ⟨v1,x1,rfl,hB1,hM1⟩
 obtain ⟨X,a0,rfl,hX,ha1,ha2,ha3,ha4,ha5⟩:=side_made hM1 h8 (by omega)
 have hT1:=hT.below h8 hB1
 have hm2:=made23 hT1 (room:=29) (r:=30) (left:=200) (by decide) (by omega) (p:=none) (len:=0) (cap:=0) (gl:=[]) (by omega) (by omega) rfl (fun v hv=>by cases hv) (.inl rfl) (fun h=>absurd rfl h)
 clear hm1 hM1 hgin hpg
 go_wp2_with (go_at_call 23;fail)
 refine hm2.mono ?_
 rintro e w2 ⟨v2,x2,rfl,hB2,hM2⟩
 obtain ⟨Y,b0,rfl,hY,hb1,hb2,hb3,hb4,hb5⟩:=side_made hM2 (Nat.le_trans h8 hB1.size) (by omega)
 have hX2:=(hX.below hB2).re (n:=w2.heap.size) (fun k e=>Nat.lt_of_lt_of_le (hX.lo k e) hB2.size)
 obtain ⟨n1,hn1⟩:∃ n1,n1=w1.heap.size:=⟨_,rfl⟩
 obtain ⟨n2,hn2⟩:∃ n2,n2=w2.heap.size:=⟨_,rfl⟩
 have hXn:∀ k,X.all k→W.heap.size≤k∧k<n1:=fun k e=>⟨ha5 k e,by rw [hn1];exact hX.lo k e⟩
 have hYn:∀ k,Y.all k→n1≤k∧k<n2:=fun k e=>⟨by rw [hn1];exact hb5 k e,by rw [hn2];exact hY.lo k e⟩
 have hn12:n1≤n2:=by rw [hn1,hn2];exact hB2.size
 have hWn:W.heap.size≤n1:=by rw [hn1];exact hB1.size
 have hB0:Below W.heap.size W w2:=hB1.trans (hB2.mono hB1.size)
 rw [←hn2] at hX2 hY
 have hz2:n2≤w2.heap.size:=by omega
 clear hM2 hm2 hX hT1 hB1 hB2 hn1 hb5 hn2
 obtain ⟨m,hm⟩:∃ m,m=min len 30:=⟨_,rfl⟩
 go_upto_block 0 with fail
 go_cut [9,10,11,12,13] from 36 to 76 (fun _ _ _ _ _ wx=>GapsFull W X Y n2 m wx)
 case first=>
  go_wp2_with fail
  go_loopg [9] 30 (fun g i wr=>GapsRel W X Y n2 len g i wr)
  case atStart=>
   have e1:a0.s.time=0:=by rw [ha1];rfl
   have e2:b0.s.time=0:=by rw [hb1];rfl
   exact ⟨0,[],ws0,a0,b0,Nat.zero_le _,Nat.zero_le _,rfl,rfl,rfl,fun d e=>(by cases e),gw0,hX2,hY,⟨by omega,by omega,by omega⟩,⟨by omega,by omega,by omega⟩,hB0,hz2⟩
  case round=>
   obtain ⟨k,ds,S,a,b,hk,hk30,hg,rfl,hdl,hds,gw,hX,hY,⟨l1,l2,l3⟩,⟨l4,l5,l6⟩,hB,hz⟩:=hrel
   by_cases hlt:k<len
   ·by_cases hlt6:k<30
    ·have ⟨b',off,hpe,hbW,hcs⟩:=hp (by omega)
     subst hpe
     have HC:=Lib.hid hcs
     clear hcs
     have c1:wr.cell? ⟨b',off+k,none⟩=some (.int .u64 (xs k)):=(hB.cell (p:=⟨b',off+k,none⟩) hbW).trans (HC.out k hlt)
     obtain ⟨d,hd⟩:∃ d,d=xs k % 36028797018963968:=⟨_,rfl⟩
     have hrem:(xs k:Int).tmod 36028797018963968=(d:Int):=by rw [Int.tmod_eq_emod_of_nonneg (by omega)];omega
     have hdd:d<36028797018963968:=by omega
     obtain ⟨lsx,hWx⟩:=hX.wl
     obtain ⟨lsy,hWy⟩:=hY.wl
     obtain ⟨hAx,hWx'⟩:=gw.wadd hWx (d:=d) (by omega) (by omega)
     obtain ⟨hAy,hWy'⟩:=gw.wadd hWy (d:=d) (by omega) (by omega)
     have hn:=gw.n hWx (by omega)
     have gw':=gw.add d
     obtain ⟨hv,hhv⟩:∃ hv:Nat,hv=4096+ds.length:=⟨_,rfl⟩
     rw [←hhv] at hAx hAy
     have hx:=side_at hX (by omega) hAx hWx' (by rw [gw'.base];omega) (by omega)
     have hy:=fun w (hY:SideAt Y n2 [] b S w)=>side_at hY (by omega) hAy hWy' (by rw [gw'.base];omega) (by omega)
     have HGW:=Lib.hid gw'
     have HD:=Lib.hid hd
     clear hAx hAy hWx hWx' hWy hWy' gw gw' hn hhv hd lsx lsy
     generalize S.add ds.length d 0=S' at *
     go_wp2_with (go_at_call 26;fail)
     refine hx.mono ?_
     rintro e w5 ⟨rfl,t5,a',hX5,⟨r1,r2⟩,r3,r4⟩
     have r5:=r4 4294967296 (fun n=>Nat.le_of_lt (QB.gap_le hX5.desk.shot.port n))
     have hY5:=hY.tch t5 (fun k e=>⟨fun e2=>by have:=hXn k e;have:=hYn k e2;omega,hX5.hi k e⟩) (fun k e h=>by have:=hXn k e;omega)
     have hB5:=hB.trans (tch_new2 t5 (Nat.le_trans hWn (Nat.le_trans hn12 hz)) (fun k e=>(hXn k e).1))
     have hz5:=Nat.le_trans hz t5.size
     have c5:w5.cell? ⟨b',off+k,none⟩=some (.int .u64 (xs k)):=(hB5.cell (p:=⟨b',off+k,none⟩) hbW).trans (HC.out k hlt)
     clear hx r4 hX hY t5
     go_wp2_with (go_at_call 26;fail)
     refine (hy _ hY5).mono ?_
     rintro e w6 ⟨rfl,t6,b2,hY6,⟨q1,q2⟩,q3,q4⟩
     have q5:=q4 4294967296 (fun n=>Nat.le_of_lt (QB.gap_le hY6.desk.shot.port n))
     have hX6:=hX5.tch t6 (fun k e=>⟨fun e2=>by have:=hXn k e2;have:=hYn k e;omega,hY6.hi k e⟩) (fun k e h=>by have:=hYn k e;omega)
     have hB6:=hB5.trans (tch_new2 t6 (Nat.le_trans hWn (Nat.le_trans hn12 hz5)) (fun k e=>Nat.le_trans hWn (hYn k e).1))
     have hz6:=Nat.le_trans hz5 t6.size
     clear hy q4 hX5 hY5 t6 c1 c5 hB hB5
     go_wp2
     go_roundg (30-(k+1))
     case measure=>rw [hg];exact Nat.sub_lt_sub_left hlt6 (Nat.lt_succ_self k)
     case rel=>
      refine ⟨k+1,ds++[d],S',a',b2,hlt,hlt6,rfl,by simp,by simp;exact hdl,fun x hx=>?_,HGW.out,hX6,hY6,⟨by omega,by omega,by omega⟩,⟨by omega,by omega,by omega⟩,hB6,hz6⟩
      rw [List.mem_append,List.mem_singleton] at hx
      rcases hx with hx | rfl
      ·exact hds x hx
      ·exact hdd
    ·go_wp2
     go_meet
     exact ⟨ds,S,a,b,by omega,hds,gw,hX,hY,⟨by omega,by omega,by omega⟩,⟨by omega,by omega,by omega⟩,hB,hz⟩
   ·go_wp2
    go_meet
    exact ⟨ds,S,a,b,by omega,hds,gw,hX,hY,⟨by omega,by omega,by omega⟩,⟨by omega,by omega,by omega⟩,hB,hz⟩
 case rest=>
  obtain ⟨ds,S,a,b,hdl,hds,gw,hX,hY,⟨l1,l2,l3⟩,⟨l4,l5,l6⟩,hB,hz⟩:=hcut
  have HM:=Lib.hid hm
  clear hm
  have h8n:8≤n2:=Nat.le_trans h8 (Nat.le_trans hWn hn12)
  have hrX:ds.length≤X.Z.room:=by have:=HM.out;omega
  have hrY:ds.length≤Y.Z.room:=by have:=HM.out;omega
  clear hX2 hB0 hz2 ha1 ha2 ha3 hb1 hb2 hb3 hp hxs hT
  go_wp2_with (first | (go_at_call 24;refine (side_port hX).mono ?_;rintro e w6 ⟨rfl,rfl⟩) | (go_at_call 25;refine (side_bd hX).mono ?_;rintro e w6 ⟨rfl,rfl⟩) | (go_at_call 15;fail))
  refine (side_tick hX (n:=36028797018963968) (by omega)).mono ?_
  rintro e w7 ⟨rfl,t7,a7,hX7,e1,e2,e3⟩
  have hY7:=hY.tch t7 (fun k e=>⟨fun e2=>by have:=hXn k e;have:=hYn k e2;omega,hX.hi k e⟩) (fun k e h=>by have:=hXn k e;omega)
  have hB7:=hB.trans (tch_new2 t7 (Nat.le_trans hWn (Nat.le_trans hn12 hz)) (fun k e=>(hXn k e).1))
  have hz7:=Nat.le_trans hz t7.size
  clear hX hY hB hz t7
  go_wp2_with (first | (go_at_call 24;refine (side_port hY7).mono ?_;rintro e w8 ⟨rfl,rfl⟩) | (go_at_call 25;refine (side_bd hY7).mono ?_;rintro e w8 ⟨rfl,rfl⟩) | (go_at_call 15;fail))
  refine (side_tick hY7 (n:=36028797018963968) (by omega)).mono ?_
  rintro e w8 ⟨rfl,t8,b8,hY8,f1,f2,f3⟩
  have hX8:=hX7.tch t8 (fun k e=>⟨fun e2=>by have:=hXn k e2;have:=hYn k e;omega,hY7.hi k e⟩) (fun k e h=>by have:=hYn k e;omega)
  have hB8:=hB7.trans (tch_new2 t8 (Nat.le_trans hWn (Nat.le_trans hn12 hz7)) (fun k e=>Nat.le_trans hWn (hYn k e).1))
  have hz8:=Nat.le_trans hz7 t8.size
  clear hX7 hY7 hB7 hz7 t8
  have hsx:=gaps_serve (hX8.re (n:=w8.heap.size) (fun k e=>hX8.lt k e)) gw hds hrX (Nat.le_refl _) (by omega) (by omega) (by omega)
  go_wp2_with (go_at_call 29;fail)
  refine hsx.mono ?_
  rintro e w9 ⟨a9,S9,D,now,gs,rfl,t9,hX9,g1,g2,g3,g4,g5,g6,g7⟩
  have hlo:∀ r,(X.all r∨w8.heap.size≤r)→W.heap.size≤r∧8≤r:=by
   rintro r (e | e)
   ·have:=hXn r e;have:=hX8.hi r e;omega
   ·omega
  have hY9:=hY8.tch t9 (fun k e=>⟨fun e2=>by have:=hYn k e2;rcases e with e | e;have:=hXn k e;omega;omega,(hlo k e).2⟩) (fun k e h=>by rcases e with e | e;have:=hXn k e;omega;exact e)
  have hB9:=hB8.trans (tch_new2 t9 (Nat.le_trans hWn (Nat.le_trans hn12 hz8)) (fun k e=>(hlo k e).1))
  have hz9:=Nat.le_trans hz8 t9.size
  have hz89:=t9.size
  have hsy:=gaps_serve (hY9.re (n:=w9.heap.size) (fun k e=>hY9.lt k e)) gw hds hrY (Nat.le_refl _) (by omega) (by omega) (by omega)
  clear hX8 hY8 hB8 hsx t9 hlo
  go_wp2_with (go_at_call 29;fail)
  refine hsy.mono ?_
  rintro e w10 ⟨b10,S10,D',now',hs,rfl,t10,hY10,i1,i2,i3,i4,i5,i6,i7⟩
  have hDD:D'=D:=due_same gw i2 g2 i3 g3 i4 g4 (fun d hd=>⟨i5 d hd,g5 d hd⟩)
  subst hDD
  have hlo:∀ r,(Y.all r∨w9.heap.size≤r)→W.heap.size≤r∧8≤r:=by
   rintro r (e | e)
   ·have:=hYn r e;have:=hY9.hi r e;omega
   ·omega
  have hX10:=hX9.tch t10 (fun k e=>⟨fun e2=>by have:=hXn k e2;rcases e with e | e;have:=hYn k e;omega;omega,(hlo k e).2⟩) (fun k e h=>by rcases e with e | e;have:=hYn k e;omega;exact e)
  have hB10:=hB9.trans (tch_new2 t10 (Nat.le_trans hWn (Nat.le_trans hn12 hz9)) (fun k e=>(hlo k e).1))
  have hz10:=Nat.le_trans hz9 t10.size
  have hDm:D'.length=m:=(due_all gw g2 g4 g5).1.trans hdl
  have hdm:m≤30:=by have:=HM.out;omega
  clear hX9 hY9 hB9 hsy t10 hlo i2 i3 i4 i5
  obtain ⟨o1,o2⟩:=told_cell g1
  obtain ⟨o3,o4⟩:=told_cell i1
  have hfx:=side_fires hX10 (by omega)
  go_wp2_with (go_at_call 31;fail)
  refine hfx.mono ?_
  rintro e w11 ⟨v,rfl,hrx,hb11⟩
  have hY11:=hY10.below hb11
  have hX11:=hX10.below hb11
  have hfy:=side_fires hY11 (by omega)
  clear hfx hX10 hY10
  go_wp2_with (go_at_call 31;fail)
  refine hfy.mono ?_
  rintro e w12 ⟨v',rfl,hry,hb12⟩
  have hX12:=hX11.below hb12
  have hrx2:=rows_keep hrx (Tch.of_below (S:=fun _=>False) hb12) (fun k e=>e.elim)
  have hz11:=Nat.le_trans hz10 hb11.size
  have hB12:=hB10.trans ((hb11.trans (hb12.mono hb11.size)).mono hB10.size)
  clear hfy hX11 hY11 hrx hb11 hb12 hB10
  rw [o1,hDm] at hrx2
  rw [o3,hDm] at hry
  obtain ⟨qx,cx,rfl,hnl,_⟩:=row_four hrx2
  obtain ⟨qy,cy,rfl,_,_⟩:=row_four hry
  have hlv:=side_live hX12
  rw [g6] at hlv
  have hmin:min (len:Int) 30=(m:Int):=by have:=HM.out;omega
  have HRX:=Lib.hid hrx2
  have HRY:=Lib.hid hry
  have HO2:=Lib.hid o2
  have HO4:=Lib.hid o4
  have HDM:=Lib.hid hDm
  have HDL:=Lib.hid hdl
  clear hrx2 hry o1 o2 o3 o4 hDm hdl g1 g2 g4 g5 i1
  go_wp2_with (go_at_call 30;fail)
  refine hlv.mono ?_
  rintro e w13 ⟨rfl,t13,hX13⟩
  have hrx3:=rows_keep HRX.out t13 (fun k e h=>by have:=hXn k e;omega)
  have hry3:=rows_keep HRY.out t13 (fun k e h=>by have:=hXn k e;omega)
  have hB13:=hB12.trans (tch_new2 t13 hB12.size (fun k e=>(hXn k e).1))
  obtain ⟨qx',cx',hex,_,hcx⟩:=row_four hrx3
  obtain ⟨qy',cy',hey,_,hcy⟩:=row_four hry3
  cases hex
  cases hey
  have hso:∀ j:Nat,j<m→∃ (h d p:Nat),(0<j→p≤d)∧∃ gx gy,qx=some ⟨gx,0,none⟩∧qy=some ⟨gy,0,none⟩∧w13.cell? ⟨gx,j*4,none⟩=some (.int .u64 h)∧w13.cell? ⟨gy,j*4,none⟩=some (.int .u64 h)∧w13.cell? ⟨gx,j*4+1,none⟩=some (.int .u64 d)∧w13.cell? ⟨gy,j*4+1,none⟩=some (.int .u64 d)∧(0<j→w13.cell? ⟨gx,(j-1)*4+1,none⟩=some (.int .u64 p)):=by
   intro j hjm
   have hj:j<D'.length:=by rw [HDM.out];exact hjm
   have hk:=List.getElem?_eq_getElem hj
   obtain ⟨gx,rfl,hx⟩:=hcx (by omega)
   obtain ⟨gy,rfl,hy⟩:=hcy (by omega)
   obtain ⟨p1,p2,_⟩:=HO2.out j _ hk
   obtain ⟨p3,p4,_⟩:=HO4.out j _ hk
   by_cases h0:0<j
   ·have hj1:j-1<D'.length:=by omega
    obtain ⟨_,p5,_⟩:=HO2.out (j-1) _ (List.getElem?_eq_getElem hj1)
    refine ⟨_,_,_,fun _=>?_,gx,gy,rfl,rfl,hx _ _ p1,hy _ _ p3,hx _ _ p2,hy _ _ p4,fun _=>hx _ _ p5⟩
    have:=List.pairwise_iff_getElem.1 g3 (j-1) j hj1 hj (by omega)
    rw [ltF,decide_eq_false_iff_not] at this
    omega
   ·exact ⟨_,_,0,fun h=>absurd h h0,gx,gy,rfl,rfl,hx _ _ p1,hy _ _ p3,hx _ _ p2,hy _ _ p4,fun h=>absurd h h0⟩
  have HSO:=Lib.hid hso
  clear hso hrx3 hry3 hcx hcy t13 hX12 hB12 HRX HRY HO2 HO4 hlv g3 hXn hYn
  go_upto_block 2 with fail
  go_cut [20] from 130 to 177 (fun _ wx=>Below w13.heap.size w13 wx)
  case first=>
   go_wp2_with fail
   go_loopg [20] m (fun g i wr=>∃ j,j≤m∧g=m-j∧i=.int .i64 (j:Int)∧Below w13.heap.size w13 wr)
   case atStart=>exact ⟨0,Nat.zero_le _,rfl,rfl,Below.refl _ _⟩
   case round=>
    obtain ⟨j,hj,hg,rfl,hbw⟩:=hrel
    by_cases hlt:j<m
    ·obtain ⟨h,d,p,hpd,gx,gy,rfl,rfl,c1,c2,c3,c4,c5⟩:=HSO.out j hlt
     have hltm:decide ((j:Int)<(m:Int))=true:=by simp;exact hlt
     have d1:=cell_of hbw c1 (Nat.le_refl _)
     have d2:=cell_of hbw c2 (Nat.le_refl _)
     have d3:=cell_of hbw c3 (Nat.le_refl _)
     have d4:=cell_of hbw c4 (Nat.le_refl _)
     clear c1 c2 c3 c4
     by_cases h0:0<j
     ·obtain ⟨q,hq⟩:∃ q,q=j-1:=⟨_,rfl⟩
      have hjq:(j:Int)-1=(q:Int):=by omega
      have c6:=c5 h0
      rw [←hq] at c6
      have d6:=cell_of hbw c6 (Nat.le_refl _)
      have hdd:decide ((d:Int)<(p:Int))=false:=by simp;exact hpd h0
      have h0d:decide ((0:Int)<(j:Int))=true:=by simp;exact h0
      have hpd0:=hpd h0
      clear c5 c6 hq hpd
      go_wp2
      go_quiet (fail)
      go_wp2
      all_goals first | (exfalso;omega) | skip
      go_roundg (m-(j+1))
      case measure=>rw [hg];exact Nat.sub_lt_sub_left hlt (Nat.lt_succ_self j)
      case rel=>exact ⟨j+1,hlt,rfl,by simp,below_drewN hbw _⟩
     ·have h0d:decide ((0:Int)<(j:Int))=false:=by simp;omega
      clear c5 hpd
      go_wp2
      go_quiet (fail)
      go_wp2
      go_roundg (m-(j+1))
      case measure=>rw [hg];exact Nat.sub_lt_sub_left hlt (Nat.lt_succ_self j)
      case rel=>exact ⟨j+1,hlt,rfl,by simp,below_drewN hbw _⟩
    ·have hltm:decide ((j:Int)<(m:Int))=false:=by simp;omega
     go_wp2
     go_meet
     exact hbw
  case rest=>
   have hX14:=hX13.below hcut
   have hB14:=hB13.trans (hcut.mono hB13.size)
   have hlv:=side_lives hX14
   clear hX13 hB13 hcut HSO
   go_wp2_with (go_at_call 21;fail)
   refine hlv.mono ?_
   rintro e w15 ⟨rfl,hb15⟩
   have hX15:=hX14.below hb15
   have hB15:=hB14.trans (hb15.mono hB14.size)
   have hcm:=side_cmp hX15
   rw [g7] at hcm
   clear hlv hX14 hB14 hb15
   go_wp2_with (first | (go_at_call 24;refine (side_port hX15).mono ?_;rintro e w16 ⟨rfl,rfl⟩) | (go_at_call 25;refine (side_bd hX15).mono ?_;rintro e w16 ⟨rfl,rfl⟩) | (go_at_call 28;fail))
   refine hcm.mono ?_
   rintro e w17 ⟨rfl,t17,_⟩
   have hB17:=hB15.trans (tch_new2 t17 hB15.size (fun k e=>ha5 k e))
   go_wp2
   refine bodyPost_ret (v:=.bool true) ?_ rfl ⟨rfl,hB17⟩
   simp [results,Tryz.results5,go_sem]
end Go.Proofs.YtkndlfdpmpdihaaGreatDoor
namespace Go.Proofs.YtkndlfdpmpdihaaGreatDoor
open Go.ChangeShapes Go.WideShapes Go.Deep Go.RowKit
set_option linter.unusedVariables false
set_option maxRecDepth 100000
theorem wf_u64' {n:Int} (h:(Lit.int .u64 n).wf=true):0≤n∧n≤18446744073709551615:=by
 simp [Lit.wf,IntKind.min,IntKind.max,IntKind.signed,IntKind.bits] at h;omega
theorem nums56 {H:Type} {enc:TypeId×Value→H} {W:World} {v:Value} {d:DataW H} {p:List MemPlace} (hv:∃ a len cap,v=.slice a len cap) (h:DataW.Trod enc Tryz.prog W 0 (fun _=>true) true 56 v d p) :
 ∃ (A:Option Addr) (len cap:Nat) (xs:Nat→Nat),v=.slice A len cap∧len≤maxLen∧(∀ j,xs j<18446744073709551616)∧(0<len→∃ b off,A=some ⟨b,off,none⟩∧b<W.heap.size∧∀ j,j<len→W.cell? ⟨b,off+j,none⟩=some (.int .u64 (xs j))):=by
 obtain ⟨fuel,hf⟩:=h
 obtain ⟨A,l0,c0,rfl⟩:=hv
 rcases open_slice Tryz.underlying56 hf with ⟨hcs,_⟩ | ⟨a,len,cap,m,n,D,Pl,hcs,_,hl,hm,hmm,_,hi'⟩
 ·simp [Value.cells] at hcs
  obtain ⟨rfl,rfl,rfl⟩:=hcs
  exact ⟨_,_,_,fun _=>0,rfl,Nat.zero_le _,fun _=>Nat.zero_lt_succ _,fun h=>absurd h (by omega)⟩
 ·simp [Value.cells] at hcs
  obtain ⟨rfl,rfl,rfl⟩:=hcs
  rw [show Tryz.prog.cellsOf 37=1 by kernel_rfl] at hi'
  have cellAt:∀ i,i<l0→∃ x:Nat,x<18446744073709551616∧W.cell? (a.add (i*1))=some (.int .u64 x):=fun i hil=>by
   obtain ⟨cs,hc,ht'⟩:=hi' i (by rw [hmm];simp;omega)
   obtain ⟨x,g,_,wx⟩:=DataW.trod_int Tryz.underlying37 ht'
   subst g
   obtain ⟨_,_,hcell⟩:=World.cells?_some hc
   have c0:=hcell 0 (by omega)
   have b:=wf_u64' wx
   refine ⟨x.toNat,by omega,?_⟩
   rw [show ((x.toNat:Nat):Int)=x by omega]
   simpa [Addr.add] using c0
  refine ⟨_,_,_,fun i=>if h:i<l0 then Classical.choose (cellAt i h) else 0,rfl,Nat.le_trans hl hm,fun j=>?_,fun h0=>?_⟩
  ·by_cases h:j<l0
   ·simp only [dif_pos h]
    exact (Classical.choose_spec (cellAt j h)).1
   ·simp only [dif_neg h]
    omega
  ·obtain ⟨x0,_,hx0⟩:=cellAt 0 h0
   obtain ⟨sb,so,spot⟩:=a
   have hspot:spot=none:=by simpa [Addr.add] using World.cell?_spot hx0
   subst hspot
   refine ⟨sb,so,rfl,?_,fun j hj=>?_⟩
   ·exact World.block_lt_of_cell? W _ hx0
   ·simp only [dif_pos hj]
    have hx:=(Classical.choose_spec (cellAt j hj)).2
    generalize Classical.choose (cellAt j hj)=y at *
    rw [Addr.add_lit,Nat.mul_one] at hx
    exact hx
end Go.Proofs.YtkndlfdpmpdihaaGreatDoor
namespace Go.Proofs.YtkndlfdpmpdihaaGreatDoor
open Go.ChangeShapes Go.WideShapes Go.Deep Go.RowKit
set_option linter.unusedVariables false
set_option linter.unusedSimpArgs false
set_option maxRecDepth 100000
theorem wf_u32' {n:Int} (h:(Lit.int .u32 n).wf=true):0≤n∧n≤4294967295:=by
 simp [Lit.wf,IntKind.min,IntKind.max,IntKind.signed,IntKind.bits] at h;omega
theorem slice40 {W:World} {base:Nat} {v:Value} (h:Value.okWide Tryz.prog W .any base 40 v):∃ (A:Option Addr) (len cap:Nat),v=.slice A len cap∧len≤cap∧cap≤9223372036854775807∧(A=none∨∃ b off,A=some ⟨b,off,none⟩):=by
 simp only [Value.okWide,Tryz.underlying40,Cell.okWide] at h
 obtain ⟨A,l,c,rfl⟩:∃ A l c,v=.slice A l c:=by cases v<;>simp_all [Cell.ok]
 refine ⟨A,l,c,rfl,?_⟩
 cases A with
 | none=>
   simp only [Cell.ok,Tryz.underlying40] at h
   split at h<;>simp_all
 | some a=>
   simp only [Cell.ok,Tryz.underlying40] at h
   obtain ⟨h1,h2,_,h3,_⟩:=h
   obtain ⟨b,off,sp⟩:=a
   simp only at h3
   subst h3
   exact ⟨h1,by simp [IntKind.max,IntKind.signed,IntKind.bits] at h2;omega,.inr ⟨_,_,rfl⟩⟩
theorem gaps40 {H:Type} {enc:TypeId×Value→H} {W:World} {base:Nat} {v:Value} {d:DataW H} {p:List MemPlace} (hk:Value.okWide Tryz.prog W .any base 40 v) (h:DataW.Trod enc Tryz.prog W 0 (fun _=>true) true 40 v d p) :
 ∃ (A:Option Addr) (len cap:Nat) (gl:List Nat),v=.slice A len cap∧len≤cap∧cap≤9223372036854775807∧gl.length=min len 64∧(∀ x∈gl,x<4294967296)∧(A=none∨∃ b off,A=some ⟨b,off,none⟩)∧GapsIn A gl W:=by
 obtain ⟨A,l0,c0,rfl,k1,k2,k3⟩:=slice40 hk
 obtain ⟨fuel,hf⟩:=h
 have key:∃ xs:Nat→Nat,∀ i,i<l0→xs i<4294967296∧∃ b off,A=some ⟨b,off,none⟩∧W.cell? ⟨b,off+i,none⟩=some (.int .u32 (xs i)):=by
  rcases open_slice Tryz.underlying40 hf with ⟨hcs,_⟩ | ⟨a,len,cap,m,n,D,Pl,hcs,_,hl,hm,hmm,_,hi'⟩
  ·simp [Value.cells] at hcs
   obtain ⟨rfl,rfl,rfl⟩:=hcs
   exact ⟨fun _=>0,fun i hi=>absurd hi (by omega)⟩
  ·simp [Value.cells] at hcs
   obtain ⟨rfl,rfl,rfl⟩:=hcs
   rw [show Tryz.prog.cellsOf 22=1 by kernel_rfl] at hi'
   rcases k3 with k3 | ⟨b,off,k3⟩
   ·cases k3
   ·cases k3
    have cellAt:∀ i,i<l0→∃ x:Nat,x<4294967296∧W.cell? ⟨b,off+i,none⟩=some (.int .u32 x):=fun i hil=>by
     obtain ⟨cs,hc,ht'⟩:=hi' i (by rw [hmm];simp;omega)
     obtain ⟨x,g,_,wx⟩:=DataW.trod_int Tryz.underlying22 ht'
     subst g
     obtain ⟨_,_,hcell⟩:=World.cells?_some hc
     have c0:=hcell 0 (by omega)
     have b:=wf_u32' wx
     refine ⟨x.toNat,by omega,?_⟩
     rw [show ((x.toNat:Nat):Int)=x by omega]
     simp [Addr.add] at c0
     split at c0
     ·rename_i e0
      subst e0
      simpa using c0
     ·exact c0
    refine ⟨fun i=>if h:i<l0 then Classical.choose (cellAt i h) else 0,fun i hi=>?_⟩
    simp only [dif_pos hi]
    exact ⟨(Classical.choose_spec (cellAt i hi)).1,b,off,rfl,(Classical.choose_spec (cellAt i hi)).2⟩
 obtain ⟨xs,hxs⟩:=key
 refine ⟨A,l0,c0,(List.range (min l0 64)).map xs,rfl,k1,k2,by simp,fun x hx=>?_,k3,fun hne=>?_⟩
 ·obtain ⟨i,hi,rfl⟩:=List.mem_map.1 hx
  rw [List.mem_range] at hi
  exact (hxs i (by omega)).1
 ·have h0:0<l0:=by
   apply Classical.byContradiction
   intro hc
   have e:l0=0:=by omega
   subst e
   simp at hne
  obtain ⟨_,b,off,rfl,hc⟩:=hxs 0 h0
  refine ⟨b,off,rfl,World.block_lt_of_cell? W _ hc,fun j v hj=>?_⟩
  rw [List.getElem?_map] at hj
  obtain ⟨i,hi,rfl⟩:=Option.map_eq_some_iff.1 hj
  obtain ⟨hl,he⟩:=List.getElem?_eq_some_iff.1 hi
  rw [List.getElem_range] at he
  subst he
  simp at hl
  obtain ⟨_,b',off',e,hc'⟩:=hxs j (by omega)
  cases e
  exact hc'
end Go.Proofs.YtkndlfdpmpdihaaGreatDoor
