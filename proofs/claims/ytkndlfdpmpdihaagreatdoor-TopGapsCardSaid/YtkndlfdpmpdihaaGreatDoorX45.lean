/- The interrupt is served: what is due is told. The interrupt is served, whole. The wheel as TopGaps fills it; what is due in its order; plain law. The service as TopGaps uses it. made: a service and a feeder. Conditions: those that each statement shows. -/
import Derived.Test.YtkndlfdpmpdihaaGreatDoorX44
import Derived.Test.YtkndlfdpmpdihaaGreatDoorX21
import Derived.Test.YtkndlfdpmpdihaaGreatDoorX43
namespace Go.Proofs.YtkndlfdpmpdihaaGreatDoor
open Go.RowKit Go.Ev Go.Mv
set_option linter.unusedVariables false
set_option linter.unusedSimpArgs false
set_option maxRecDepth 100000
theorem row_due {w:World} {base:Nat} {v:Value} {p:PS} {D:List Nat} (h:w.ownsRow base 140 3 v D.length (dueCells p D)):∃ (q:Option Addr) (c:Nat),v=.slice q D.length c∧∀ (i a:Nat),D[i]?=some a→∃ (g:Nat) (cur:Array Value),q=some ⟨g,0,none⟩∧base≤g∧w.heap[g]?=some (.cells cur 140 (0,0))∧cur[i*3]?=some (.int .u64 (hN p a:Nat))∧cur[i*3+1]?=some (.int .u64 (p.tm a).d):=by
 have hcells:∀ (D:List Nat) (i a:Nat),D[i]?=some a→(dueCells p D)[i*3]?=some (.int .u64 (hN p a:Nat))∧(dueCells p D)[i*3+1]?=some (.int .u64 (p.tm a).d):=by
  intro D
  induction D with
  | nil=>intro i a hj;cases hj
  | cons x l ih=>
    intro i a hj
    cases i with
    | zero=>cases hj;exact ⟨rfl,rfl⟩
    | succ i=>
      have hq:=ih i a hj
      rw [show (i+1)*3=i*3+3 from by omega]
      exact hq
 have hxl:=h.1
 rcases h.2 with ⟨rfl,h0⟩ | ⟨g,cap,cur,rfl,hb,hgb,_,_,hcs,htk⟩
 ·exact ⟨none,0,by rw [h0],fun i a hj=>by have:=(List.getElem?_eq_some_iff.1 hj).1;omega⟩
 ·refine ⟨_,_,rfl,fun i a hj=>?_⟩
  obtain ⟨p1,p2⟩:=hcells D i a hj
  have hcu:∀ (m:Nat) (u:Value),(dueCells p D)[m]?=some u→cur[m]?=some u:=fun m u hm=>by
   have hml:=(List.getElem?_eq_some_iff.1 hm).1
   rw [hxl] at hml
   rw [←htk,List.getElem?_take_of_lt hml] at hm
   simpa using hm
  exact ⟨g,cur,rfl,hb,hgb,hcu _ _ p1,hcu _ _ p2⟩
def KeptX (E:TypeId) (n0 x:Nat) (w w':World):Prop:=∀ (g:Nat) (cur:Array Value) (T:TypeId),T≠E→n0≤g→g≠x→w.heap[g]?=some (.cells cur T (0,0))→w'.heap[g]?=some (.cells cur T (0,0))
theorem Kept.x {E:TypeId} {n0 x:Nat} {w w':World} (h:Kept E n0 w w'):KeptX E n0 x w w':=fun g cur T a b _ c=>h g cur T a b c
theorem KeptX.refl (E:TypeId) (n0 x:Nat) (w:World):KeptX E n0 x w w:=fun _ _ _ _ _ _ h=>h
theorem tch_old {Y:Nat→Prop} {w w':World} (h:Tch (fun r=>Y r∨w.heap.size≤r) w w'):Tch Y w w':=⟨h.os,h.tape,h.output,h.size,fun j hj hn=>h.block j hj (by rintro (e | e);exact hn e;omega)⟩
theorem KeptX.trans {E:TypeId} {n0 x:Nat} {w w1 w2:World} (h:KeptX E n0 x w w1) (h':KeptX E n0 x w1 w2):KeptX E n0 x w w2:=fun g cur T a b c d=>h' g cur T a b c (h g cur T a b c d)
theorem KeptX.tch {E:TypeId} {X:Nat→Prop} {n0 x:Nat} {w w':World} (ht:Tch X w w') (hx:∀ k,X k→n0≤k→k≠x→w.heap.size≤k):KeptX E n0 x w w':=fun g cur T _ b n c=>by
 have hl:=(Array.getElem?_eq_some_iff.1 c).1
 exact (ht.block _ hl (fun e=>by have:=hx g e b n;omega)).trans c
def told (p:PS) (now:Nat) (D:List Nat):List (Nat×Nat×Nat):=D.map fun k=>(hN p k,(p.tm k).d,now)
def cut4 (g:Nat×Nat×Nat×Int):Nat×Nat×Nat:=(g.1,g.2.1,g.2.2.1)
structure Due (S S':WS) (a a':AS) (G now:Nat) (D:List Nat) (gs:List (Nat×Nat×Nat×Int)):Prop where
 p:S'.p=dropL S.p D
 base:S'.base=max S.base now
 order:S'.order=S.order
 nodup:D.Nodup
 sort:D.Pairwise fun x y=>ltOf (cfF S.p) y x=false
 mem:∀ k,k∈D↔∃ t,S.p.ent k=some t∧t.d≤now
 gs:gs.map cut4=told S.p now D
 left:a.left≤a'.left+12
 left2:a'.left≤a.left
 t1:a.s.time≤now
 t2:now≤a'.s.time
 t3:a'.s.time≤a.s.time+G*12
section
variable {X:Side} {nL:Nat} {fs:List (Nat×Nat×Nat×Int)} {a:AS} {S:WS} {w:World}
theorem serve66_idle (h:SideAt X nL fs a S w) (hp:a.s.time<a.s.cmp) {x0 x1:Nat} (h0:Blk w x0 #[.pointer (some ⟨X.Z.b,0,none⟩)] 57):Calls Tryz.prog 66 #[.pointer (some ⟨x0,0,none⟩),.pointer (some ⟨x1,0,none⟩)] w fun e w'=>e=.returned (.int .i64 0)∧Tch (DF X.Q X.hb) w w'∧SideAt X nL fs a S w':=by
 have hpd:=h.desk.pend
 rw [show decide (a.s.cmp≤a.s.time)=false from by simp;omega] at hpd
 have c0:w.cell? ⟨x0,0,none⟩=some (.pointer (some ⟨X.Z.b,0,none⟩)):=h0.cell 0 rfl
 have c2:w.cell? ⟨X.Z.b,2,none⟩=some (.pointer (some ⟨X.hb,0,none⟩)):=h.svc.blk.cell 2 rfl
 have hb:=fun w' t d=>(side_board (w':=w') h (Y:=DF X.Q X.hb) t (fun k e=>e) (a':=a) d rfl rfl).2
 clear h h0
 go_enter Tryz.func66,Tryz.ntmps66
 go_wp2
 go_step3
 go_wp2_with (go_at_call 63;fail)
 refine hpd.mono ?_
 rintro e w1 ⟨rfl,t1,d1⟩
 have s1:=hb _ t1 d1
 go_wp2
 rw [Exit.noGoto_ret]
 refine bodyPost_ret (v:=.int .i64 0) ?_ rfl ⟨rfl,t1,s1⟩
 simp [results,Tryz.results66,go_sem]
set_option maxHeartbeats 8000000 in
theorem serve66 (h:SideAt X nL fs a S w) {G:Nat} (hG:∀ n,X.Q.gap n≤G) (hG2:G≤4294967296) (hz:nL≤w.heap.size) (hp:a.s.cmp≤a.s.time) (hl:12≤a.left) (hfs:fs.length<900000) {x0 x1:Nat} (h0:Blk w x0 #[.pointer (some ⟨X.Z.b,0,none⟩)] 57) (h1:Blk w x1 #[.int .i64 0] 3) (n0:nL≤x0) (n1:nL≤x1) :
 Calls Tryz.prog 66 #[.pointer (some ⟨x0,0,none⟩),.pointer (some ⟨x1,0,none⟩)] w fun e w'=>e=.returned (.int .i64 0)∧Tch (fun r=>X.all r∨nL≤r) w w'∧∃ a' S' D now gs,SideAt X nL (fs++gs) a' S' w'∧Due S S' a a' G now D gs∧Blk w' x1 #[.int .i64 ((D.length:Nat):Int)] 3∧KeptX 71 nL x1 w w':=by
 have HF:=Lib.hid h
 obtain ⟨X1,X2,⟨last,X3⟩,⟨ls,X4⟩,X5,X6,X7,X8,X9,X10⟩:=h
 have hr:=X4.hr
 have hdk:DeskAt X.Q X.hb a w:=X1.board
 have htm:=hdk.time
 have hA1:∀ k,DF X.Q X.hb k→k<nL:=fun k e=>X10 k (.inl e)
 have hA2:∀ k,X.B.all k→k<nL:=fun k e=>X10 k (.inr (.inl e))
 have hA3:X.Z.b<nL:=X10 _ (.inr (.inr (.inl rfl)))
 have hA4:X.kb<nL:=X10 _ (.inr (.inr (.inr (.inl rfl))))
 have hA5:X.lb<nL:=X10 _ (.inr (.inr (.inr (.inr (.inl rfl)))))
 have hA6:X.mb<nL:=X10 _ (.inr (.inr (.inr (.inr (.inr rfl)))))
 have n01:x0≠x1:=Blk.ne_ h0 h1 (by decide)
 have c0:w.cell? ⟨x0,0,none⟩=some (.pointer (some ⟨X.Z.b,0,none⟩)):=h0.cell 0 rfl
 have c2:w.cell? ⟨X.Z.b,2,none⟩=some (.pointer (some ⟨X.hb,0,none⟩)):=X1.blk.cell 2 rfl
 have hpd:=hdk.pend
 rw [show decide (a.s.cmp≤a.s.time)=true from by simp;exact hp] at hpd
 have HW:=Lib.hid X4
 have HE:=Lib.hid X2
 have HLG:=Lib.hid X7
 have HLO:=Lib.hid X10
 clear X4 X5 X7 X9 X10 hdk
 go_enter Tryz.func66,Tryz.ntmps66
 go_wp2
 go_step3
 go_wp2_with (go_at_call 63;fail)
 refine hpd.mono ?_
 rintro e w1 ⟨rfl,t1,d1⟩
 have s1:=X1.boardT t1 d1
 have k1:Blk w1 X.kb #[.pointer (some ⟨X.Q.pb,0,none⟩),last] 207:=(t1.block _ X3.lt HE.out.k.1).trans X3
 have z0:Blk w1 x0 #[.pointer (some ⟨X.Z.b,0,none⟩)] 57:=(t1.block _ h0.lt (fun e=>by have:=hA1 _ e;omega)).trans h0
 have b0:w1.cell? ⟨x0,0,none⟩=some (.pointer (some ⟨X.Z.b,0,none⟩)):=z0.cell 0 rfl
 have b1:w1.cell? ⟨X.Z.b,1,none⟩=some (.pointer (some ⟨X.kb,0,none⟩)):=by rw [←HE.out.v1];exact s1.blk.cell 1 rfl
 have hnw:=snow67 s1 hG hG2 (by omega) k1 HE.out.k
 clear c0 c2 hpd d1 X3 k1
 go_wp2_with (go_at_call 67;fail)
 refine hnw.mono ?_
 rintro e w2 ⟨now,rfl,t2,k2,a2,s2,q1,q2,q3,q4,q5,q6⟩
 have d2:DeskAt X.Q X.hb a2 w2:=s2.board
 have htm2:=d2.time
 have y0:Blk w2 x0 #[.pointer (some ⟨X.Z.b,0,none⟩)] 57:=(t2.block _ z0.lt (by rintro (e | e);exact absurd (hA1 _ e) (by omega);omega)).trans z0
 have e0:w2.cell? ⟨x0,0,none⟩=some (.pointer (some ⟨X.Z.b,0,none⟩)):=y0.cell 0 rfl
 have e1:w2.cell? ⟨X.Z.b,0,none⟩=some (.pointer (some ⟨X.B.b,0,none⟩)):=s2.blk.cell 0 rfl
 have hT2:TabW w2:=tabW_of d2.tabs
 have hco:=collect68 s2.wheel HW.out.mid hT2 (now:=now) HW.out.pool.per HW.out.pool.word (by omega) X8
 clear b0 b1 hnw z0 hT2
 go_wp2_with (go_at_call 68;fail)
 refine hco.mono ?_
 rintro e w3 ⟨v,rfl,D,S3,l3,hrow,t3,hW3,hM3,hp3,hb3,ho3,hnd,hpw,hmem⟩
 have t3':=tch_old t3
 have s3:=s2.wheelT t3' hW3
 have tA:Tch (fun r=>DF X.Q X.hb r∨r=X.kb∨X.B.own r) w w3:=((t1.mono fun r e=>.inl e).trans (t2.mono fun r e=>e.imp id .inl)).trans (t3'.mono fun r e=>.inr (.inr e))
 have hAn:∀ x,nL≤x→¬(DF X.Q X.hb x∨x=X.kb∨X.B.own x):=by
  rintro x hx (e | e | e)
  ·have:=hA1 _ e;omega
  ·omega
  ·have:=hA2 _ (.inl e);omega
 have hK3:∀ {x:Nat} {vs:Array Value} {T:TypeId},nL≤x→Blk w x vs T→Blk w3 x vs T:=fun hx hb=>(tA.block _ hb.lt (hAn _ hx)).trans hb
 have y0:=hK3 n0 h0
 have y1:=hK3 n1 h1
 have hlg3:LogAt X.lb X.mb nL fs w3:=HLG.out.tch tA (by rintro (e | e | e);exact HE.out.l.1 e;exact HE.out.kl e.symm;exact HE.out.l.2.1 (.inl e)) (by rintro (e | e | e);exact HE.out.m.1 e;exact HE.out.km e.symm;exact HE.out.m.2.1 (.inl e)) (fun k e hk=>absurd e (hAn k hk))
 have hx1s:=h1.lt
 have hw2s:w.heap.size≤w2.heap.size:=Nat.le_trans t1.size t2.size
 have k3:Blk w3 X.kb #[.pointer (some ⟨X.Q.pb,0,none⟩),.int .u64 now] 207:=(t3'.block _ k2.lt (fun e=>HE.out.k.2.1 (.inl e))).trans k2
 have hDl:D.length≤31:=Nat.le_trans (nodup_le hnd fun k hk=>by
  obtain ⟨t,ht,_⟩:=(hmem k).1 hk
  exact HW.out.pool.lt ht) hr
 have hDn:∀ k∈D,(S.p.tm k).d≤now∧hN S.p k<18446744073709551616:=fun k hk=>by
  obtain ⟨t,ht,hle⟩:=(hmem k).1 hk
  obtain ⟨u,hL,_⟩:=HW.out.mid.ok.live _ k ((HW.out.mid.all k t ht).resolve_left id)
  have h1:=hL.lt
  have h2:=hL.gen
  rw [PS.tm_eq ht]
  exact ⟨hle,by unfold hN;omega⟩
 have hpool3:PoolOk S3.p X.Z.room:=by
  rw [hp3]
  exact PoolOk.dropAll (by omega) HW.out.pool hnd fun k hk=>by obtain ⟨t,ht,_⟩:=(hmem k).1 hk;exact ⟨t,ht⟩
 have hWL3:WL X.B X.Z.room S3 l3:=⟨by rw [hb3];exact hM3,HW.out.own2,HW.out.rp,HW.out.rc,HW.out.hr,hpool3⟩
 obtain ⟨qd,cd,rfl,hcd⟩:=row_due hrow
 have HCD:=Lib.hid hcd
 have HWL:=Lib.hid hWL3
 have HS3:=Lib.hid s3
 have HK3:=Lib.hid k3
 have HTA:=Lib.hid tA
 have HMEM:=Lib.hid hmem
 have HPW:=Lib.hid hpw
 clear hcd hWL3 s3 k3 tA hmem hpw hrow t3 hW3 hM3 hpool3 t1 t2 s1 s2 k2 hco e0 e1 h0 hK3 X1 d2
 obtain ⟨nd,hnd'⟩:∃ nd,nd=D.length:=⟨_,rfl⟩
 rw [←hnd'] at hDl ⊢
 have HND:=Lib.hid hnd'
 clear hnd'
 go_wp2
 go_step3
 go_wp2
 go_loopg [35] nd (fun g i wr=>∃ j gs,j≤nd∧g=nd-j∧i=.int .i64 (j:Int)∧LogAt X.lb X.mb nL (fs++gs) wr∧gs.map cut4=told S.p now (D.take j)∧Blk wr x1 #[.int .i64 (j:Int)] 3∧KeptX 71 nL x1 w3 wr∧Tch (fun r=>r=X.lb∨r=X.mb∨nL≤r) w3 wr)
 case atStart=>exact ⟨0,[],Nat.zero_le _,rfl,rfl,by simpa using hlg3,rfl,y1,KeptX.refl _ _ _ _,Tch.refl _ _⟩
 case round=>
  obtain ⟨j,gs,hj,hg,rfl,hlg,hgs,hx1,hkx,htx⟩:=hrel
  have hgl:gs.length=j:=by
   have:=congrArg List.length hgs
   unfold told at this
   rw [List.length_map,List.length_map,List.length_take,←HND.out] at this
   omega
  have x0c:wr.cell? ⟨x0,0,none⟩=some (.pointer (some ⟨X.Z.b,0,none⟩)):=Blk.cell (hkx x0 _ 57 (by decide) n0 n01 y0) 0 rfl
  have hzs:w3.heap.size≤wr.heap.size:=htx.size
  have hzn:nL≤wr.heap.size:=by have:=hx1.lt;omega
  have sr:SvcAt (deskBI X.Q X.hb) X.B X.Z a2 S3 wr:=HS3.out.tch htx (by rintro (e | e | e);exact HE.out.l.2.2.1 e.symm;exact HE.out.m.2.2.1 e.symm;omega) (by
   rintro k hk (e | e | e)
   ·exact HE.out.l.2.1 (e ▸ hk)
   ·exact HE.out.m.2.1 (e ▸ hk)
   ·have:=hA2 k hk;omega) (by
   have h8:=HE.out.l.2.2.2
   rintro k (e | e | e)
   ·exact e ▸ ⟨HE.out.l.1,HE.out.l.2.2.2⟩
   ·exact e ▸ ⟨HE.out.m.1,HE.out.m.2.2.2⟩
   ·exact ⟨fun h=>by have:=hA1 k h;omega,by omega⟩)
  by_cases hlt:j<nd
  ·obtain ⟨k,hk⟩:∃ k,D[j]?=some k:=⟨D[j]'(by rw [←HND.out];exact hlt),List.getElem?_eq_getElem _⟩
   obtain ⟨gb,cur,rfl,hge,hcu,c0,c1⟩:=HCD.out j k hk
   obtain ⟨hle,hhn⟩:=hDn k (List.mem_of_getElem? hk)
   have hc5:=hkx gb cur 140 (by decide) (by omega) (by omega) hcu
   have hadd:∀ W,Below wr.heap.size wr W→Calls Tryz.prog 69 #[.pointer (some ⟨X.lb,0,none⟩),.int .u64 (hN S.p k:Nat),.int .u64 (S.p.tm k).d,.int .u64 now] W fun e w'=>∃ c:Int,e=.returned (.agg #[.int .u64 (hN S.p k:Nat),.int .u64 (S.p.tm k).d,.int .u64 now,.int .i64 c])∧LogAt X.lb X.mb nL (fs++gs++[(hN S.p k,(S.p.tm k).d,now,c)]) w'∧Tch (fun r=>r=X.lb∨r=X.mb∨nL≤r) wr w'∧Kept 71 nL wr w':=fun W hW=>
    (log_add (hlg.below hW) HE.out.lm (Nat.le_trans hzn hW.size) hA5 hA6 (by simp;omega) hhn).mono fun e w' ⟨c,h1,h2,h3,h4⟩=>⟨c,h1,h2,(Tch.of_below hW).trans h3,(Kept.tch (Tch.of_below (S:=fun _=>False) hW) (fun k e=>e.elim)).trans h4⟩
   have hts:told S.p now (D.take (j+1))=told S.p now (D.take j)++[(hN S.p k,(S.p.tm k).d,now)]:=by
    rw [take_at_ hk]
    unfold told
    rw [List.map_append]
    rfl
   generalize hN S.p k=hn at *
   generalize (S.p.tm k).d=td at *
   have b0:wr.cell? ⟨gb,j*3,none⟩=some (.int .u64 hn):=Blk.cell hc5 (j*3) c0
   have b1:wr.cell? ⟨gb,j*3+1,none⟩=some (.int .u64 td):=Blk.cell hc5 (j*3+1) c1
   have b4:wr.cell? ⟨X.Z.b,4,none⟩=some (.pointer (some ⟨X.lb,0,none⟩)):=by rw [←HE.out.v4];exact sr.blk.cell 4 rfl
   have hgt:decide ((now:Int)<(td:Int))=false:=by simp;exact hle
   have HX1:=Lib.hid hx1
   have HKX:=Lib.hid hkx
   have HTX:=Lib.hid htx
   have HHK:=Lib.hid hk
   clear hx1 hkx htx hk hc5 c0 c1 hcu sr hlg
   go_wp2
   go_cut [] from 36 to 63 (fun wx=>∃ c:Int,LogAt X.lb X.mb nL (fs++gs++[(hn,td,now,c)]) wx∧Tch (fun r=>r=X.lb∨r=X.mb∨nL≤r) wr wx∧Kept 71 nL wr wx)
   case first=>
    go_region_with (go_at_call 69;refine (hadd _ (by first | exact (Below.refl _ _).drew | exact Below.refl _ _)).mono ?_;rintro e w8 ⟨c,rfl,p1,p2,p3⟩)
    all_goals (go_wp2_with fail)
    all_goals go_meet
    all_goals exact ⟨c,p1,p2,p3⟩
   case rest=>
    obtain ⟨c,p1,p2,p3⟩:=hcut
    have hx2:Blk wc x1 #[.int .i64 (j:Int)] 3:=p3 x1 _ 3 (by decide) n1 HX1.out
    have d1:wc.cell? ⟨x1,0,none⟩=some (.int .i64 (j:Int)):=hx2.cell 0 rfl
    have f1:=hx2.free 0
    have z1:=hx2.set 0 (.int .i64 ((j:Int)+1))
    have hts1:Tch (fun r=>r=x1) wc (wc.setCell ⟨x1,0,none⟩ (.int .i64 ((j:Int)+1))):=(Tch.refl _ wc).setCell _ (.inl rfl)
    have p4:=p1.set hx2 (by decide) (by omega) (by omega) hts1
    have p5:KeptX 71 nL x1 w3 (wc.setCell ⟨x1,0,none⟩ (.int .i64 ((j:Int)+1))):=(HKX.out.trans p3.x).trans (KeptX.tch hts1 (fun k e _ hn=>absurd e hn))
    have p6:Tch (fun r=>r=X.lb∨r=X.mb∨nL≤r) w3 (wc.setCell ⟨x1,0,none⟩ (.int .i64 ((j:Int)+1))):=(HTX.out.trans p2).trans (hts1.mono fun r e=>.inr (.inr (by omega)))
    have P4:=Lib.hid p4
    have P5:=Lib.hid p5
    have P6:=Lib.hid p6
    have Z1:=Lib.hid z1
    clear p1 p2 p3 p4 p5 p6 z1 hadd hts1
    go_wp2
    go_roundg (nd-(j+1))
    case measure=>rw [hg];exact Nat.sub_lt_sub_left hlt (Nat.lt_succ_self j)
    case rel=>exact ⟨j+1,gs++[(hn,td,now,c)],hlt,rfl,by simp,by rw [←List.append_assoc];exact P4.out,by rw [hts,List.map_append,hgs];rfl,by simpa using Z1.out,P5.out,P6.out⟩
  ·have hjn:j=nd:=by omega
   subst hjn
   obtain ⟨vv,bb,hx,hL3⟩:=HWL.out.nxt
   have hst:=set_at sr hx (by show 3≤a2.left;omega)
   go_wp2_with (go_at_call 70;fail)
   refine hst.mono ?_
   rintro e w5 ⟨rfl,t5,a',s5,hR⟩
   obtain ⟨r1,r2,r3,r4,r5⟩:=least_of hL3 (by rw [q5,q4];exact X6) hR
   have r5':=r5 G hG
   go_wp2
   have hx5:Blk w5 x1 #[.int .i64 (j:Int)] 3:=(t5.block _ hx1.lt (fun e=>by have:=hA1 _ e;omega)).trans hx1
   have hk5:Blk w5 X.kb #[.pointer (some ⟨X.Q.pb,0,none⟩),.int .u64 now] 207:=by
    have h1:Blk wr X.kb #[.pointer (some ⟨X.Q.pb,0,none⟩),.int .u64 now] 207:=(htx.block _ HK3.out.lt (by rintro (e | e | e);exact HE.out.kl e;exact HE.out.km e;omega)).trans HK3.out
    exact (t5.block _ h1.lt HE.out.k.1).trans h1
   have hl5:LogAt X.lb X.mb nL (fs++gs) w5:=hlg.tch t5 HE.out.l.1 HE.out.m.1 (fun k e hk=>by have:=hA1 k e;omega)
   have hkk:KeptX 71 nL x1 w w5:=((KeptX.tch HTA.out (fun k e hk _=>absurd e (hAn k hk))).trans hkx).trans (KeptX.tch t5 (fun k e hk _=>by have:=hA1 k e;omega))
   have htt:Tch (fun r=>X.all r∨nL≤r) w w5:=((HTA.out.mono fun r e=>.inl (by rcases e with e | e | e;exact .inl e;exact .inr (.inr (.inr (.inl e)));exact .inr (.inl (.inl e)))).trans (htx.mono fun r e=>by rcases e with e | e | e;exact .inl (.inr (.inr (.inr (.inr (.inl e)))));exact .inl (.inr (.inr (.inr (.inr (.inr e)))));exact .inr e)).trans (t5.mono fun r e=>.inl (.inl e))
   rw [HND.out,List.take_length] at hgs
   rw [Exit.noGoto_ret]
   refine bodyPost_ret (v:=.int .i64 0) ?_ rfl ⟨rfl,htt,a',S3,D,now,gs,⟨s5,HE.out,⟨_,hk5⟩,⟨l3,HWL.out⟩,r1,r2,hl5,by rw [hb3];omega,HF.out.hi,HLO.out⟩,⟨hp3,hb3,ho3,hnd,HPW.out,HMEM.out,hgs,by omega,by omega,q1,by omega,by omega⟩,by rw [←HND.out];exact hx5,hkk⟩
   simp [results,Tryz.results66,go_sem]
end
theorem call65 {I:BI} {B:WB} {Z:SB} {a:I.A} {S:WS} {w:World} (h:SvcAt I B Z a S w) {f:Nat} {caps:Array Value} {Y:Nat→Prop} {P:I.A→WS→World→Prop}
 (hf:∀ w,(callFunc f caps).run Tryz.prog w=.ok (.enter f caps) w)
 (hc:∀ w1,Tch I.ft w w1→SvcAt I B Z a S w1→Calls Tryz.prog f caps w1 fun e w2=>e=.returned (.int .i64 0)∧Tch Y w1 w2∧∃ a' S',SvcAt I B Z a' S' w2∧P a' S' w2)
 (hP:∀ a' S' w1 w2,P a' S' w1→Tch I.ft w1 w2→SvcAt I B Z a' S' w2→P a' S' w2) :
 Calls Tryz.prog 65 #[.pointer (some ⟨Z.b,0,none⟩),.func (.func f) #[] caps] w fun e w'=>e=.returned (.int .i64 0)∧Tch (fun r=>I.ft r∨Y r) w w'∧∃ a' S',P a' S' w':=by
 go_enter Tryz.func65,Tryz.ntmps65
 go_wp2_with (go_at_call 71;fail)
 refine (sync_at h).mono ?_
 rintro e w1 ⟨rfl,ht1,hs1⟩
 go_wp2_with (fail)
 refine (hc w1 ht1 hs1).mono ?_
 rintro e w2 ⟨rfl,ht2,a',S',hs2,hp2⟩
 go_wp2_with (go_at_call 71;fail)
 refine (sync_at hs2).mono ?_
 rintro e w3 ⟨rfl,ht3,hs3⟩
 go_wp2
 refine bodyPost_ret (v:=.int .i64 0) ?_ rfl ⟨rfl,((ht1.mono fun r hr=>.inl hr).trans (ht2.mono fun r hr=>.inr hr)).trans (ht3.mono fun r hr=>.inl hr),a',S',hP _ _ _ _ hp2 ht3 hs3⟩
 simp [results,Tryz.results65,go_sem]
section
variable {X:Side} {nL:Nat} {fs:List (Nat×Nat×Nat×Int)} {a:AS} {S:WS} {w:World}
theorem SideAt.sync (h:SideAt X nL fs a S w) {w':World} (ht:Tch (DF X.Q X.hb) w w') (hs:SvcAt (deskBI X.Q X.hb) X.B X.Z a S w'):SideAt X nL fs a S w':=(side_board h ht (fun k e=>e) hs.board rfl rfl).2
def boxes (w:World) (z:Nat):World:=(w.alloc (.cells #[.pointer (some ⟨z,0,none⟩)] 57)).alloc (.cells #[.int .i64 0] 3)
theorem boxes_law (w:World) (z:Nat):Below w.heap.size w (boxes w z)∧Blk (boxes w z) w.heap.size #[.pointer (some ⟨z,0,none⟩)] 57∧Blk (boxes w z) (w.heap.size+1) #[.int .i64 0] 3:=by
 refine ⟨((Below.refl _ w).alloc (Nat.le_refl _) _).alloc (by simp) _,(Blk.new w _ _).alloc _,?_⟩
 have:=Blk.new (w.alloc (.cells #[.pointer (some ⟨z,0,none⟩)] 57)) #[.int .i64 0] 3
 unfold boxes
 simpa using this
theorem e66 (x y:Nat) (w:World):(callFunc 66 #[.pointer (some ⟨x,0,none⟩),.pointer (some ⟨y,0,none⟩)]).run Tryz.prog w=.ok (.enter 66 #[.pointer (some ⟨x,0,none⟩),.pointer (some ⟨y,0,none⟩)]) w:=by kernel_rfl
set_option maxHeartbeats 2000000 in
theorem serve29 (h:SideAt X nL fs a S w) {G:Nat} (hG:∀ n,X.Q.gap n≤G) (hG2:G≤4294967296) (hz:nL≤w.heap.size) (hp:a.s.cmp≤a.s.time) (hl:12≤a.left) (hfs:fs.length<900000) :
 Calls Tryz.prog 29 #[.pointer (some ⟨X.Z.b,0,none⟩)] w fun e w'=>∃ a' S' D now gs,e=.returned (.tuple #[.int .i64 ((D.length:Nat):Int),.int .i64 0])∧Tch (fun r=>X.all r∨nL≤r) w w'∧Kept 71 nL w w'∧SideAt X nL (fs++gs) a' S' w'∧Due S S' a a' G now D gs:=by
 obtain ⟨hB,z0,z1⟩:=boxes_law w X.Z.b
 have h2:=h.below hB
 have hlt:∀ k,DF X.Q X.hb k→k<nL:=fun k e=>h.lo k (.inl e)
 have hc:=call65 h2.svc (f:=66) (caps:=#[.pointer (some ⟨w.heap.size,0,none⟩),.pointer (some ⟨w.heap.size+1,0,none⟩)]) (Y:=fun r=>X.all r∨nL≤r)
  (P:=fun a' S' w'=>∃ D now gs,SideAt X nL (fs++gs) a' S' w'∧Due S S' a a' G now D gs∧Blk w' (w.heap.size+1) #[.int .i64 ((D.length:Nat):Int)] 3∧KeptX 71 nL (w.heap.size+1) (boxes w X.Z.b) w')
  (e66 _ _) (fun w1 t1 s1=>?_) (fun a' S' w1 w2 hP t1 s1=>?_)
 ·have HB:=Lib.hid hB
  clear z0 z1 h2 h
  unfold boxes at hc HB
  go_enter Tryz.func29,Tryz.ntmps29
  go_wp2_with (go_at_call 65;fail)
  refine hc.mono ?_
  rintro e w3 ⟨rfl,t3,a',S',D,now,gs,q1,q2,q3,q4⟩
  have c3:w3.cell? ⟨w.heap.size+1,0,none⟩=some (.int .i64 ((D.length:Nat):Int)):=q3.cell 0 rfl
  obtain ⟨nd,hnd⟩:∃ nd,nd=D.length:=⟨_,rfl⟩
  rw [←hnd] at c3
  have HND:=Lib.hid hnd
  clear hc q3 hnd
  go_wp2
  refine bodyPost_ret (v:=.tuple #[.int .i64 (nd:Int),.int .i64 0]) ?_ rfl ⟨a',S',D,now,gs,by rw [HND.out],(Tch.of_below HB.out).trans (t3.mono fun r e=>e.elim (fun e=>.inl (.inl e)) id),fun g cur T hT hg hcg=>?_,q1,q2⟩
  ·simp [results,Tryz.results29,go_sem]
  ·have hgl:=(Array.getElem?_eq_some_iff.1 hcg).1
   exact q4 g cur T hT hg (by omega) ((HB.out.block g hgl).trans hcg)
 ·have k1:=h2.sync t1 s1
  have n1:∀ x,nL≤x→¬DF X.Q X.hb x:=fun x hx e=>by have:=hlt x e;omega
  have hzb:=hB.size
  refine (serve66 k1 hG hG2 (Nat.le_trans (Nat.le_trans hz hzb) t1.size) hp hl hfs ((t1.block _ z0.lt (n1 _ hz)).trans z0) ((t1.block _ z1.lt (n1 _ (by omega))).trans z1) hz (by omega)).mono ?_
  rintro e w4 ⟨rfl,t4,a',S',D,now,gs,q1,q2,q3,q4⟩
  exact ⟨rfl,t4,a',S',q1.svc,D,now,gs,q1,q2,q3,(KeptX.tch t1 (fun k e hk _=>absurd e (n1 k hk))).trans q4⟩
 ·obtain ⟨D,now,gs,q1,q2,q3,q4⟩:=hP
  have n1:∀ x,nL≤x→¬DF X.Q X.hb x:=fun x hx e=>by have:=hlt x e;omega
  exact ⟨D,now,gs,q1.sync t1 s1,q2,(t1.block _ q3.lt (n1 _ (by omega))).trans q3,q4.trans (KeptX.tch t1 (fun k e hk _=>absurd e (n1 k hk)))⟩
set_option maxHeartbeats 2000000 in
theorem serve29_idle (h:SideAt X nL fs a S w) (hp:a.s.time<a.s.cmp):Calls Tryz.prog 29 #[.pointer (some ⟨X.Z.b,0,none⟩)] w fun e w'=>e=.returned (.tuple #[.int .i64 0,.int .i64 0])∧Tch X.all w w'∧SideAt X nL fs a S w':=by
 obtain ⟨hB,z0,z1⟩:=boxes_law w X.Z.b
 have h2:=h.below hB
 have hlt:∀ k,DF X.Q X.hb k→k<w.heap.size:=fun k e=>h.lt k (.inl e)
 have n1:∀ x,w.heap.size≤x→¬DF X.Q X.hb x:=fun x hx e=>by have:=hlt x e;omega
 have hc:=call65 h2.svc (f:=66) (caps:=#[.pointer (some ⟨w.heap.size,0,none⟩),.pointer (some ⟨w.heap.size+1,0,none⟩)]) (Y:=DF X.Q X.hb)
  (P:=fun a' S' w'=>a'=a∧S'=S∧SideAt X nL fs a S w'∧Blk w' (w.heap.size+1) #[.int .i64 0] 3)
  (e66 _ _) (fun w1 t1 s1=>?_) (fun a' S' w1 w2 hP t1 s1=>?_)
 ·have HB:=Lib.hid hB
  clear z0 z1 h2 h
  unfold boxes at hc HB
  go_enter Tryz.func29,Tryz.ntmps29
  go_wp2_with (go_at_call 65;fail)
  refine hc.mono ?_
  rintro e w3 ⟨rfl,t3,a',S',rfl,rfl,q1,q3⟩
  have c3:w3.cell? ⟨w.heap.size+1,0,none⟩=some (.int .i64 0):=q3.cell 0 rfl
  clear hc q3
  go_wp2
  refine bodyPost_ret (v:=.tuple #[.int .i64 0,.int .i64 0]) ?_ rfl ⟨rfl,(Tch.of_below HB.out).trans (t3.mono fun r e=>e.elim .inl .inl),q1⟩
  simp [results,Tryz.results29,go_sem]
 ·have k1:=h2.sync t1 s1
  refine (serve66_idle k1 hp (x1:=w.heap.size+1) ((t1.block _ z0.lt (n1 _ (Nat.le_refl _))).trans z0)).mono ?_
  rintro e w4 ⟨rfl,t4,q1⟩
  exact ⟨rfl,t4,a,S,q1.svc,rfl,rfl,q1,((t1.trans t4).block _ z1.lt (n1 _ (by omega))).trans z1⟩
 ·obtain ⟨rfl,rfl,q1,q3⟩:=hP
  exact ⟨rfl,rfl,q1.sync t1 s1,(t1.block _ q3.lt (n1 _ (by omega))).trans q3⟩
end
structure GW (ds:List Nat) (S:WS):Prop where
 ent:∀ a,S.p.ent a=(ds[a]?).map fun d=>(⟨d,0,a⟩:Tm)
 gen:∀ a,S.p.gen a=0
 base:S.base=0
 order:S.order=ds.length
theorem gw0:GW [] ws0:=⟨fun a=>rfl,fun a=>rfl,rfl,rfl⟩
theorem cntN_all (f:Nat→Option Tm) (n:Nat) (h1:∀ a,a<n→(f a).isSome=true) (h2:∀ a,n≤a→f a=none):∀ r,n≤r→cntN f r=n:=by
 have key:∀ r,cntN f r=min n r:=by
  intro r
  induction r with
  | zero=>simp [cntN]
  | succ r ih=>
    show cntN f r+_=_
    rw [ih]
    by_cases h:r<n
    ·rw [h1 r h];simp;omega
    ·rw [h2 r (by omega)];simp;omega
 intro r hr
 rw [key r]
 omega
section
variable {B:WB} {r:Nat} {S:WS} {ls:Int×Int→List Nat} {ds:List Nat}
theorem GW.off (g:GW ds S) (a:Nat):S.p.ent a=none↔ds.length≤a:=by
 rw [g.ent]
 simp
theorem GW.n (g:GW ds S) (h:WL B r S ls) (hn:ds.length≤r):S.p.n=ds.length:=by
 rw [h.pool.cnt]
 refine cntN_all _ _ (fun a ha=>?_) (fun a ha=>(g.off a).2 ha) r hn
 cases he:S.p.ent a with
 | none=>have:=(g.off a).1 he;omega
 | some t=>rfl
theorem GW.add (g:GW ds S) (d:Nat):GW (ds++[d]) (S.add ds.length d 0):=by
 refine ⟨fun a=>?_,g.gen,g.base,?_⟩
 ·show fset S.p.ent ds.length (some ⟨d,0,S.order⟩) a=_
  by_cases e:a=ds.length
  ·subst e
   rw [fset_same,g.order]
   simp
  ·rw [fset_ne _ _ e,g.ent]
   by_cases e2:a<ds.length
   ·rw [List.getElem?_append_left e2]
   ·rw [List.getElem?_eq_none (by omega),List.getElem?_eq_none (by simp;omega)]
 ·show S.order+1=_
  rw [g.order]
  simp
theorem GW.wadd (g:GW ds S) (h:WL B r S ls) (hn:ds.length<r) {d:Nat} (hd:d<18446744073709551616):Ad B S d 0 (4096+ds.length) (S.add ds.length d 0)∧∃ ls',WL B r (S.add ds.length d 0) ls':=by
 have hr:=h.hr
 obtain ⟨a,ha,hf,hm,hA,ls',hW⟩:=h.add (by rw [g.n h (by omega)];exact hn) hd (by rw [g.base];omega) (by rw [g.order];omega) (fun a=>by rw [g.gen];omega)
 have e:a=ds.length:=by
  have h1:=(g.off a).1 hf
  apply Nat.le_antisymm _ h1
  apply Classical.byContradiction
  intro hc
  exact hm ds.length (by omega) ((g.off _).2 (Nat.le_refl _))
 subst e
 have hh:hN S.p ds.length=4096+ds.length:=by unfold hN;rw [g.gen]
 rw [hh] at hA
 exact ⟨hA,ls',hW⟩
end
theorem sorted_same {R:Nat→Nat→Prop}:∀ {D D':List Nat},D.Nodup→D'.Nodup→D.Pairwise R→D'.Pairwise R→(∀ x y,x∈D→y∈D→R x y→R y x→x=y)→(∀ a,a∈D↔a∈D')→D=D'
 | [],[],_,_,_,_,_,_=>rfl
 | [],y::l,_,_,_,_,_,h=>by have:=(h y).2 (by simp);cases this
 | x::l,[],_,_,_,_,_,h=>by have:=(h x).1 (by simp);cases this
 | x::l,y::l',n1,n2,p1,p2,ha,h=>by
   rw [List.nodup_cons] at n1 n2
   rw [List.pairwise_cons] at p1 p2
   have e:x=y:=by
    apply Classical.byContradiction
    intro hne
    have hx:x∈l':=by
     have:=(h x).1 (by simp)
     rw [List.mem_cons] at this
     exact this.resolve_left hne
    have hy:y∈l:=by
     have:=(h y).2 (by simp)
     rw [List.mem_cons] at this
     exact this.resolve_left (fun e=>hne e.symm)
    exact hne (ha x y (by simp) (by simp [hy]) (p1.1 y hy) (p2.1 x hx))
   subst e
   have:=sorted_same n1.2 n2.2 p1.2 p2.2 (fun a b h1 h2=>ha a b (by simp [h1]) (by simp [h2])) (fun a=>by
    have:=h a
    rw [List.mem_cons,List.mem_cons] at this
    constructor
    ·intro hm
     exact (this.1 (.inr hm)).resolve_left (fun e=>n1.1 (e ▸ hm))
    ·intro hm
     exact (this.2 (.inr hm)).resolve_left (fun e=>n2.1 (e ▸ hm)))
   rw [this]
theorem due_same {ds:List Nat} {S:WS} (g:GW ds S) {D D':List Nat} {now now':Nat} (n1:D.Nodup) (n2:D'.Nodup) (p1:D.Pairwise fun x y=>ltOf (cfF S.p) y x=false) (p2:D'.Pairwise fun x y=>ltOf (cfF S.p) y x=false)
 (h1:∀ a,a∈D↔∃ t,S.p.ent a=some t∧t.d≤now) (h2:∀ a,a∈D'↔∃ t,S.p.ent a=some t∧t.d≤now') (hs:∀ d∈ds,d≤now∧d≤now'):D=D':=by
 have ht:∀ a t,S.p.ent a=some t→t.d≤now∧t.d≤now'∧t.o=a:=by
  intro a t hat
  rw [g.ent] at hat
  obtain ⟨d,hd,rfl⟩:=Option.map_eq_some_iff.1 hat
  obtain ⟨q1,q2⟩:=hs d (List.mem_of_getElem? hd)
  exact ⟨q1,q2,rfl⟩
 refine sorted_same n1 n2 p1 p2 (fun x y hx hy hxy hyx=>?_) (fun a=>?_)
 ·obtain ⟨t,htx,_⟩:=(h1 x).1 hx
  obtain ⟨u,huy,_⟩:=(h1 y).1 hy
  rw [ltF,decide_eq_false_iff_not,PS.tm_eq htx,PS.tm_eq huy] at hxy hyx
  have e1:=(ht x t htx).2.2
  have e2:=(ht y u huy).2.2
  omega
 ·rw [h1,h2]
  exact ⟨fun ⟨t,a1,a2⟩=>⟨t,a1,(ht a t a1).2.1⟩,fun ⟨t,a1,a2⟩=>⟨t,a1,(ht a t a1).1⟩⟩
theorem all_le:∀ (n:Nat) (D:List Nat),(∀ a,a<n→a∈D)→n≤D.length
 | 0,_,_=>Nat.zero_le _
 | n+1,D,h=>by
   have h1:=all_le n (D.erase n) (fun a ha=>(List.mem_erase_of_ne (by omega)).2 (h a (by omega)))
   have h2:=List.length_erase_of_mem (h n (by omega))
   have h3:=List.length_pos_of_mem (h n (by omega))
   omega
theorem due_all {ds:List Nat} {S:WS} (g:GW ds S) {D:List Nat} {now:Nat} (n1:D.Nodup) (h1:∀ a,a∈D↔∃ t,S.p.ent a=some t∧t.d≤now) (hs:∀ d∈ds,d≤now):D.length=ds.length∧∀ a,a∈D↔a<ds.length:=by
 have hm:∀ a,a∈D↔a<ds.length:=by
  intro a
  rw [h1]
  constructor
  ·rintro ⟨t,ht,_⟩
   apply Classical.byContradiction
   intro hc
   rw [(g.off a).2 (by omega)] at ht
   cases ht
  ·intro ha
   have hd:=List.getElem?_eq_getElem ha
   exact ⟨⟨ds[a],0,a⟩,by rw [g.ent,hd];rfl,hs _ (List.getElem_mem ha)⟩
 refine ⟨Nat.le_antisymm (nodup_le n1 fun a ha=>(hm a).1 ha) ?_,hm⟩
 exact all_le _ _ fun a ha=>(hm a).2 ha
section
variable {X:Side} {nL:Nat} {a:AS} {S:WS} {w:World} {ds:List Nat}
theorem GW.least (g:GW ds S) {c:Nat} (h:Least S.p c) (hd:∀ d∈ds,d<36028797018963968):(ds=[]→c=18446744073709551615)∧(ds≠[]→c<36028797018963968):=by
 obtain ⟨h1,h2⟩:=h
 constructor
 ·intro e
  subst e
  rcases h2 with ⟨k,t,hk,_⟩ | ⟨_,e⟩
  ·rw [(g.off k).2 (Nat.zero_le _)] at hk
   cases hk
  ·exact e
 ·intro hne
  have h0:0<ds.length:=List.length_pos_iff.2 hne
  have e0:S.p.ent 0=some ⟨ds[0],0,0⟩:=by rw [g.ent,List.getElem?_eq_getElem h0];rfl
  have:=h1 0 _ e0
  have:=hd _ (List.getElem_mem h0)
  simp only at *
  omega
theorem gaps_serve (h:SideAt X nL [] a S w) (g:GW ds S) (hd:∀ d∈ds,d<36028797018963968) (hr:ds.length≤X.Z.room) (hz:nL≤w.heap.size) (ht:36028797018963968≤a.s.time) (ht2:a.s.time<72057594037927936) (hl:12≤a.left) :
 Calls Tryz.prog 29 #[.pointer (some ⟨X.Z.b,0,none⟩)] w fun e w'=>∃ a' S' D now gs,e=.returned (.tuple #[.int .i64 ((D.length:Nat):Int),.int .i64 0])∧Tch (fun r=>X.all r∨nL≤r) w w'∧SideAt X nL gs a' S' w'∧gs.map cut4=told S.p now D ∧
  D.Nodup∧(D.Pairwise fun x y=>ltOf (cfF S.p) y x=false)∧(∀ k,k∈D↔∃ t,S.p.ent k=some t∧t.d≤now)∧(∀ d∈ds,d≤now)∧S'.p.n=0∧a'.s.cmp=18446744073709551615:=by
 obtain ⟨ls,hW⟩:=h.wl
 obtain ⟨g1,g2⟩:=g.least h.lst hd
 by_cases hne:ds=[]
 ·have hc:=g1 hne
  have hn0:S.p.n=0:=by rw [g.n hW hr,hne];rfl
  have hnone:∀ k,S.p.ent k=none:=fun k=>(g.off k).2 (by rw [hne];exact Nat.zero_le _)
  refine (serve29_idle h (by omega)).mono ?_
  rintro e w' ⟨rfl,t1,s1⟩
  refine ⟨a,S,[],0,[],rfl,t1.mono fun r e=>.inl e,s1,rfl,List.nodup_nil,List.Pairwise.nil,fun k=>⟨fun e=>(by cases e),fun ⟨t,e,_⟩=>(by rw [hnone k] at e;cases e)⟩,fun d e=>(by rw [hne] at e;cases e),hn0,hc⟩
 ·have hc:=g2 hne
  have hgap:∀ n,X.Q.gap n≤4294967296:=fun n=>Nat.le_of_lt (QB.gap_le h.desk.shot.port n)
  refine (serve29 h hgap (Nat.le_refl _) hz (by omega) hl (by show 0<_;omega)).mono ?_
  rintro e w' ⟨a',S',D,now,gs,rfl,t1,_,s1,q⟩
  have hnow:∀ d∈ds,d≤now:=fun d e=>by have:=hd d e;have:=q.t1;omega
  have hall:=due_all g q.nodup q.mem hnow
  have hn':S'.p.n=0:=by rw [q.p,dropL_n,hall.1,g.n hW hr];omega
  have hnone:∀ k,S'.p.ent k=none:=by
   obtain ⟨ls',hW'⟩:=s1.wl
   exact hW'.pool.zero.1 hn'
  refine ⟨a',S',D,now,gs,rfl,t1,s1,q.gs,q.nodup,q.sort,q.mem,hnow,hn',?_⟩
  rcases s1.lst.2 with ⟨k,t,e,_⟩ | ⟨_,e⟩
  ·rw [hnone k] at e
   cases e
  ·exact e
end
theorem MadeW.below {n0 r left:Nat} {gl:List Nat} {v:Value} {w w':World} (h:MadeW n0 r left gl v w) (hb:Below w.heap.size w w'):MadeW n0 r left gl v w':=by
 obtain ⟨Q,hb',B,Z,kb,lb,mb,a,x1,hs,x2,x3,x4,x5,x6,x7,x8,x9,x10,x11,z0,z1,z2,x12,x13,x14⟩:=h
 exact ⟨Q,hb',B,Z,kb,lb,mb,a,x1,hs.below hb,x2,x3,x4,x5,x6,x7,x8,x9,x10,x11,z0.below hb z0.lt,z1.below hb z1.lt,(hb.block _ (Array.getElem?_eq_some_iff.1 z2).1).trans z2,x12,x13,x14⟩
section
variable {w:World}
set_option maxHeartbeats 1000000 in
theorem made23 (hT:Tabs w) {room:Int} {r left:Nat} (hr:(r:Int)=1+IntKind.u64.wrap room % 30) (hleft:left≤536870912) {p:Option Addr} {len cap:Nat} {gl:List Nat} (hlen:len≤9223372036854775807) (hcap:len≤cap) (hl:gl.length=min len 64) (hv:∀ v∈gl,v<4294967296) (hp:p=none∨∃ b off,p=some ⟨b,off,none⟩) (hin:GapsIn p gl w) :
 Calls Tryz.prog 23 #[.int .i64 room,.slice p len cap] w fun e w'=>∃ (v:Value) (x:Nat),e=.returned (.tuple #[v,.pointer (some ⟨x,0,none⟩)])∧Below w.heap.size w w'∧MadeW w.heap.size r left gl v w':=by
 have hu0:0≤IntKind.u64.wrap room:=by rw [IntKind.wrap_u64];omega
 obtain ⟨u,hu⟩:∃ u:Int,u=IntKind.u64.wrap room:=⟨_,rfl⟩
 rw [←hu] at hr hu0
 obtain ⟨q,hq⟩:∃ q:Nat,r=1+q:=⟨r-1,by omega⟩
 have hq30:q<30:=by omega
 have e1:IntKind.u64.wrap room=u:=hu.symm
 have e2:u.tmod 30=(q:Int):=by rw [Int.tmod_eq_emod_of_nonneg hu0];omega
 have e3:u % 30=(q:Int):=by omega
 have e4:IntKind.i64.wrap (q:Int)=(q:Int):=IntWalk.i64_in _ ⟨by omega,by omega⟩
 have e5:IntKind.i64.wrap (1+(q:Int))=(r:Int):=by rw [IntWalk.i64_in _ ⟨by omega,by omega⟩];omega
 have hr1:1≤r:=by omega
 have hr31:r≤31:=by omega
 have HM:=fun (w:World) hT hin=>made60 (w:=w) hT hr1 hr31 hleft (cap:=cap) (by rw [hl];omega) hv hp hin
 obtain ⟨m,hm⟩:∃ m,m=gl.length:=⟨_,rfl⟩
 rw [←hm] at HM hl
 have hmc:m≤cap:=by omega
 have hmin:min (len:Int) 64=(m:Int):=by rw [hl];omega
 clear hu hr hm hq
 have HH:=Lib.hid hin
 have HTT:=Lib.hid hT
 clear hin hT
 go_enter Tryz.func23,Tryz.ntmps23
 rcases hp with rfl | ⟨b,off,rfl⟩
 ·go_wp2_with (go_at_call 60;fail)
  rw [←hl]
  refine (HM _ HTT.out HH.out).mono ?_
  rintro e w1 ⟨v,rfl,hb1,hM⟩
  have ⟨Q,hb,B,Z,kb,lb,mb,a,hv1,hs,_⟩:=hM
  subst hv1
  go_wp2_with (go_at_call 24;fail)
  refine (port_at hs).mono ?_
  rintro e w2 ⟨rfl,rfl⟩
  go_wp2_with (go_at_call 9;fail)
  refine (dnew9 Q.pb).mono ?_
  rintro e w3 ⟨x,rfl,hb3⟩
  have hM3:=hM.below hb3
  go_wp2
  refine bodyPost_ret (v:=.tuple #[.pointer (some ⟨Z.b,0,none⟩),.pointer (some ⟨x,0,none⟩)]) ?_ rfl ⟨_,x,rfl,hb1.trans (hb3.mono hb1.size),hM3⟩
  simp [results,Tryz.results23,go_sem]
 ·go_wp2_with (go_at_call 60;fail)
  rw [←hl]
  refine (HM _ HTT.out HH.out).mono ?_
  rintro e w1 ⟨v,rfl,hb1,hM⟩
  have ⟨Q,hb,B,Z,kb,lb,mb,a,hv1,hs,_⟩:=hM
  subst hv1
  go_wp2_with (go_at_call 24;fail)
  refine (port_at hs).mono ?_
  rintro e w2 ⟨rfl,rfl⟩
  go_wp2_with (go_at_call 9;fail)
  refine (dnew9 Q.pb).mono ?_
  rintro e w3 ⟨x,rfl,hb3⟩
  have hM3:=hM.below hb3
  go_wp2
  refine bodyPost_ret (v:=.tuple #[.pointer (some ⟨Z.b,0,none⟩),.pointer (some ⟨x,0,none⟩)]) ?_ rfl ⟨_,x,rfl,hb1.trans (hb3.mono hb1.size),hM3⟩
  simp [results,Tryz.results23,go_sem]
end
end Go.Proofs.YtkndlfdpmpdihaaGreatDoor
