/- Collect. Conditions: those that each statement shows. -/
import Derived.Test.YtkndlfdpmpdihaaGreatDoorY20
namespace Go.Proofs.YtkndlfdpmpdihaaGreatDoor
open Go.RowKit Go.Ev Go.Mv
set_option linter.unusedVariables false
set_option linter.unusedSimpArgs false
set_option maxRecDepth 100000
section
variable {B:WB} {S:WS} {ls:Int×Int→List Nat} {w:World}
set_option maxHeartbeats 8000000 in
theorem collect68 (h:WheelAt B S w) (hm:WMid B S ls S.base (fun _=>False)) (hT:TabW w) {now:Nat} (hper:∀a t,S.p.ent a=some t→t.p=0) (hword:S.p.word<18446744073709551616) (hnow:now<9223372036854775808) (hbase:S.base<9223372036854775808) :
 Calls Tryz.prog 68 #[.pointer (some ⟨B.b,0,none⟩),.int .u64 now] w fun e w'=>∃v,e=.returned v∧Collected B S w.heap.size (max S.base now) now w w' v:=by
 obtain⟨LB,hLB⟩:=hm.ok.bits;obtain⟨K,hK⟩:∃K,K=placesL ls LB:=⟨_,rfl⟩;have hpl:=places107 h hm.ok hT hLB;rw[←hK] at hpl;have HK:=Lib.hid hK;clear hK;obtain⟨tt,htt⟩:∃tt,tt=max S.base now:=⟨_,rfl⟩
 have htt1:S.base≤tt:=by omega
 have htt2:now≤tt:=by omega
 have htt3:tt<9223372036854775808:=by omega
 have hmx:max (S.base:Int) (now:Int)=(tt:Int):=by omega
 have hmx2:max S.base now=tt:=htt.symm;have HMX:=Lib.hid hmx2;clear hmx2;clear htt;have hlw:=h.lt;have c10:w.cell? ⟨B.b,10,none⟩=some (.int .u64 S.base):=h.blk.cell 10 rfl;obtain⟨i0,ji,js0,js1,js2⟩:=info_parts infoD37;go_enter Tryz.func68,Tryz.ntmps68;go_wp2;go_step3;go_wp2;go_step3
 go_wp2_with (go_at_call 107;fail)
 refine hpl.mono ?_;rintro e w1 ⟨vk,rfl,hvk,hb1⟩;obtain⟨n0,hn0⟩:∃n0,n0=w.heap.size:=⟨_,rfl⟩;rw[←hn0] at hvk hb1 hlw;have HN0:=Lib.hid hn0;have hKl:=row_le hvk;obtain⟨pk,ck,rfl,hcell⟩:=row_pair hvk;clear c10 hn0;have hB1:Below n0 w w1:=hb1;have HC:=Lib.hid hcell;clear hcell hpl
 have hBw:Below w.heap.size w w1:=by rw[←HN0.out];exact hb1
 have hW1:=h.below hBw (by rw[←HN0.out];exact hlw)
 have hz1:n0≤w1.heap.size:=by rw[HN0.out];exact hb1.size
 have hown:∀r,B.own r→r<n0:=by
  obtain⟨l0,⟨l1,l2,l3,l4⟩,l5,l6,l7⟩:=hlw
  rintro r (rfl|(rfl|rfl|rfl)|(rfl|rfl))<;>assumption
 have hall:∀r,B.all r→r<n0:=by
  obtain⟨l0,⟨l1,l2,l3,l4⟩,l5,l6,l7⟩:=hlw;rintro r (h|rfl|rfl)
  ·exact hown r h
  ·exact l1
  ·exact l5
 have hks:K.Pairwise keyLt:=by rw[HK.out];exact hm.sorted hLB
 go_wp2;rename_i K1 a1
 have key:∀(x8 x10 u30 u31 u32 u33 u34 u35 u36 u37 u38 u39 u40 u41 u42 u43 u44 u45 u46 u47 u48 u49 u50 u51 u52 u53 u54 u55 u56 u57 u58 u59 u60 u61 u62 u63 u64 u65 u66 u67:Value) (v:Value) (wf:World) (j:Nat) (S':WS),WheelAt B S' wf→Taken B S ls K j S'→(∀k',(if k'∈K.take j then[] else ls k')≠[]→∃f',Sp S.base k' f'∧tt<f')→wf.ownsRow n0 37 1 v ((K.take j).flatMap ls).length (hCells S.p ((K.take j).flatMap ls))→Tch (fun r=>B.own r∨n0≤r) w wf→n0≤wf.heap.size→K1 { tmps:=#[.pointer (some ⟨B.b,0,none⟩),.int .u64 (now:Int),undef,undef,.slice none 0 0,.int .u64 (tt:Int),v,undef,x8,undef,x10,undef,undef,undef,undef,undef,undef,undef,undef,.pointer (some ⟨B.b,0,none⟩),.bool false,.pointer (some ⟨B.b,0,none⟩),.pointer (some ⟨B.b,0,none⟩),.pointer (some ⟨B.b,10,none⟩),.int .u64 (S.base:Int),.int .u64 (now:Int),.int .u64 (tt:Int),.pointer (some ⟨B.b,0,none⟩),.slice pk K.length ck,.int .i64 (K.length:Int),u30,u31,u32,u33,u34,u35,u36,u37,u38,u39,u40,u41,u42,u43,u44,u45,u46,u47,u48,u49,u50,u51,u52,u53,u54,u55,u56,u57,u58,u59,u60,u61,u62,u63,u64,u65,u66,u67,undef,undef,undef,undef,undef,undef,undef,undef,undef,undef,undef,undef,undef,undef,undef,undef,undef,undef,undef,undef,undef,undef,undef,undef,undef,undef,undef,undef,undef,undef,undef,undef,undef,undef,undef,undef,undef,undef,undef,undef,undef,undef,undef,undef,undef,undef,undef,undef,undef,undef,undef,undef,undef,undef,undef,undef,undef,undef,undef,undef,undef,undef,undef,undef,undef,undef,undef,undef,undef,undef,undef,undef,undef,undef,undef,undef,undef,undef,undef,undef,undef,undef,undef],defers:=[] } wf:=by
  intro x8 x10 u30 u31 u32 u33 u34 u35 u36 u37 u38 u39 u40 u41 u42 u43 u44 u45 u46 u47 u48 u49 u50 u51 u52 u53 u54 u55 u56 u57 u58 u59 u60 u61 u62 u63 u64 u65 u66 u67 v wf j S' hW hTk hrest hrow ht hz;obtain⟨l1,hmid,hdue⟩:=hTk.stop htt1 hrest;have hpS:S'.p=S.p:=hTk.p;have hAn:=flat_nodup (K:=K.take j) hm.ok.ch (hks.sublist (List.take_sublist _ _));have hAl:=flat_len (K:=K.take j) hm.ok.ch hm.ok.room (hks.sublist (List.take_sublist _ _));have hord:=hTk.order;obtain⟨A,hA⟩:∃A,A=(K.take j).flatMap ls:=⟨_,rfl⟩;rw[←hA] at hmid hdue hrow hAn hAl;clear hTk hrest hA HC HK hm hLB hks hvk hKl;have hH0:Held B S.p S.order tt now A 0 { S' with base:=tt } l1:=Held.zero hmid hpS rfl hord;have HM:=Lib.hid hH0
  have HPE:=Lib.hid (show ∀a∈A,S.p.ent a=some (S.p.tm a) from fun a ha=>by
   obtain⟨_,_,t,hL,_⟩:=hmid.out a ha;rw[show S'.p=S.p from hpS] at hL;rw[PS.tm_eq hL.ent]
   exact hL.ent)
  have HPER:=Lib.hid (show ∀a∈A,(S.p.tm a).p=0∧a<64 from fun a ha=>by
   exact⟨hper a _ (HPE.out a ha),by
    obtain⟨_,h2,_⟩:=hmid.out a ha;have:=hmid.ok.room
    omega⟩)
  have HD:=Lib.hid hdue;clear hmid hdue hH0;have c10:wf.cell? ⟨B.b,10,none⟩=some (.int .u64 S'.base):=hW.blk.cell 10 rfl;have f10:=hW.blk.free 10;have hs2:Blk (wf.setCell ⟨B.b,10,none⟩ (.int .u64 tt)) B.b (wheelV B { S' with base:=tt }) 215:=hW.blk.set 10 (.int .u64 tt);have htS:Tch (fun r=>r=B.b) wf (wf.setCell ⟨B.b,10,none⟩ (.int .u64 tt)):=(Tch.refl _ wf).setCell _ (.inl rfl);have hW2:=hW.selfT (m:=S'.m) (base:=tt) (order:=S'.order) htS hs2;have hbn:B.b<n0:=hown _ (.inl rfl);have hr2:=rows_keep hrow htS (fun r e hr=>by subst e;omega);have ht2:Tch (fun r=>B.own r∨n0≤r) w (wf.setCell ⟨B.b,10,none⟩ (.int .u64 tt)):=ht.trans (htS.mono fun r e=>.inl (.inl e));have hz2:n0≤(wf.setCell ⟨B.b,10,none⟩ (.int .u64 tt)).heap.size:=Nat.le_trans hz htS.size;obtain⟨pm,cm,rfl,hcm⟩:=row_cell hr2;obtain⟨w2,hw2⟩:∃w2,w2=wf.setCell ⟨B.b,10,none⟩ (.int .u64 tt):=⟨_,rfl⟩;rw[←hw2] at hW2 ht2 hz2 hcm;have HCM:=Lib.hid hcm;clear hrow hs2 htS hr2 hcm;obtain⟨N,hN⟩:∃N,N=A.length:=⟨_,rfl⟩;rw[←hN];rw[←hN] at hAl;have HN:=Lib.hid hN;clear hN;refine a1 _ _ ?_;clear a1;go_wp2;rw[←hw2];clear hw2 c10 f10 hW ht hz;obtain⟨k0,kj,ks0,ks1,ks2⟩:=info_parts info230;rename_i K2 a2
  go_loopg [11,74] N (fun g v i wr=>∃j S' l',j≤N∧g=N-j∧i=.int .i64 (j:Int)∧WheelAt B S' wr∧Held B S.p S.order tt now A j S' l'∧wr.ownsRow n0 230 4 v ((A.take j).filter (S.p.due now)).length (foundCells S.p ((A.take j).filter (S.p.due now)))∧Tch (fun r=>B.own r∨n0≤r) w wr∧n0≤wr.heap.size∧Kept 230 n0 w2 wr)
  case atStart=>exact⟨0,_,_,Nat.zero_le _,rfl,rfl,hW2,HM.out,World.ownsRow_nil _ _ _ _,ht2,hz2,Kept.refl _ _ _⟩
  case round=>
   obtain⟨i,S3,l3,hi1,hg,rfl,hW3,hH3,hrow3,ht3,hz3,hk3⟩:=hrel;have HR3:=Lib.hid hrow3;have HK3:=Lib.hid hk3;have HH3:=Lib.hid hH3;clear hrow3 hk3 hH3
   by_cases hlt:i<N
   ·obtain⟨a,ha⟩:∃a,A[i]?=some a:=⟨A[i]'(by rw[←HN.out];exact hlt),List.getElem?_eq_getElem _⟩
    obtain⟨g,cur,rfl,hge,hcu,hcm⟩:=HCM.out i (.int .u64 (hN S.p a:Nat)) (by unfold hCells;rw[List.getElem?_map,ha];rfl);have hc5:=HK3.out g cur 37 (by decide) hge hcu;have c1:wr.cell? ⟨g,i,none⟩=some (.int .u64 (hN S.p a:Nat)):=Blk.cell hc5 i hcm;have c2:wr.cell? ⟨B.b,0,none⟩=some (.pointer (some ⟨B.p.b,0,none⟩)):=hW3.blk.cell 0 rfl;obtain⟨hLv,hdl⟩:=HH3.out.live ha;have hgl:=get_live hW3.pool (a:=a) (t:=S.p.tm a) (by rw[HH3.out.p];exact hLv);rw[HH3.out.p] at hgl;obtain⟨hn,hhn⟩:∃hn:Nat,hn=hN S.p a:=⟨_,rfl⟩;obtain⟨td,htd⟩:∃td:Tm,td=S.p.tm a:=⟨_,rfl⟩;rw[←hhn] at hgl c1;rw[←htd] at hgl hdl;have HHN:=Lib.hid hhn;have HTD:=Lib.hid htd;have HA:=Lib.hid ha;clear hhn htd ha hc5 hcu hcm hLv
    go_wp2_with (go_at_call 112;fail)
    refine hgl.mono ?_;rintro e w4 ⟨rfl,hb4⟩;obtain⟨xe,hxe⟩:∃xe,xe=w4.heap.size:=⟨_,rfl⟩;have hX5:=Blk.new w4 #[.int .u64 td.d,.int .u64 td.p,.int .u64 td.o] 226;have hB5:Below wr.heap.size wr (w4.alloc (.cells #[.int .u64 td.d,.int .u64 td.p,.int .u64 td.o] 226)):=hb4.alloc hb4.size _;have e0:(w4.alloc (.cells #[.int .u64 td.d,.int .u64 td.p,.int .u64 td.o] 226)).cell? ⟨w4.heap.size,0,none⟩=some (.int .u64 td.d):=hX5.cell 0 rfl;have hW5:=hW3.below hB5 hW3.lt;have hr5:=rows_keep HR3.out (Tch.of_below (S:=fun _=>False) hB5) (fun k e=>e.elim);have hk5:Kept 230 n0 w2 (w4.alloc (.cells #[.int .u64 td.d,.int .u64 td.p,.int .u64 td.o] 226)):=HK3.out.trans (Kept.tch (Tch.of_below (S:=fun _=>False) hB5) (fun k e=>e.elim));have ht5:Tch (fun r=>B.own r∨n0≤r) w (w4.alloc (.cells #[.int .u64 td.d,.int .u64 td.p,.int .u64 td.o] 226)):=ht3.trans (Tch.of_below hB5);have hz5:n0≤(w4.alloc (.cells #[.int .u64 td.d,.int .u64 td.p,.int .u64 td.o] 226)).heap.size:=Nat.le_trans hz3 hB5.size;have e1:(w4.alloc (.cells #[.int .u64 td.d,.int .u64 td.p,.int .u64 td.o] 226)).cell? ⟨w4.heap.size,1,none⟩=some (.int .u64 td.p):=hX5.cell 1 rfl;have e2:(w4.alloc (.cells #[.int .u64 td.d,.int .u64 td.p,.int .u64 td.o] 226)).cell? ⟨w4.heap.size,2,none⟩=some (.int .u64 td.o):=hX5.cell 2 rfl;have HR5:=Lib.hid hr5;have HK5:=Lib.hid hk5;have hfl:((A.take i).filter (S.p.due now)).length≤i:=Nat.le_trans (List.length_filter_le _ _) (by simp;omega);clear hr5 hk5 HR3 HK3 hX5 hxe xe
    by_cases hdu:td.d≤now
    ·have hdue:S.p.due now a=true:=by
      unfold PS.due;rw[←HTD.out];simp[hdu]
     have HF:=Lib.hid (filter_snoc_true (p:=S.p) HA.out hdue);have HHn:=Lib.hid (HH3.out.keep HA.out hdue);clear hdue;obtain⟨fd,hfd⟩:∃fd,fd=(A.take i).filter (S.p.due now):=⟨_,rfl⟩;rw[←hfd] at HR5 HF hfl;clear hfd
     go_wp2_with (at_builtin;refine wpList_append_own _ rfl _ _ 224 rfl n0 230 k0 (.agg #[.int .u64 0,.int .u64 0,.int .u64 0,.int .u64 0]) 4 32 under224 kj ks0 ks1 ks2 rfl (by decide) _ _ _ rfl (HR5.out.alloc _) ⟨w4.heap.size+1,0,none⟩ 1 1 [.int .u64 hn,.int .u64 td.d,.int .u64 td.p,.int .u64 td.o] rfl rfl ?c1 (four_ok _ _ _ _) (by unfold maxLen;omega) (by omega) (by simp at hz5 ⊢;omega) ?_)
     case c1=>
      have:=four_new (w4.alloc (.cells #[.int .u64 td.d,.int .u64 td.p,.int .u64 td.o] 226)) 230 (.int .u64 hn) (.int .u64 td.d) (.int .u64 td.p) (.int .u64 td.o);simpa using this
     intro v' w7 hown7 hg7 _
     have hr7:w7.ownsRow n0 230 4 v' ((A.take (i+1)).filter (S.p.due now)).length (foundCells S.p ((A.take (i+1)).filter (S.p.due now))):=by
      rw[HF.out,List.length_append,foundCells_app]
      have hfc:foundCells S.p [a]=[.int .u64 hn,.int .u64 td.d,.int .u64 td.p,.int .u64 td.o]:=by
       unfold foundCells;rw[List.flatMap_singleton];unfold foundC;rw[←HTD.out,←HHN.out]
      rw[hfc];exact hown7
     have hrA:=HR5.out.alloc (Obj.cells #[.int .u64 (hn:Int),.int .u64 td.d,.int .u64 td.p,.int .u64 td.o] 230);have hrl:=hrA.lt;have hBa7:Below wr.heap.size wr ((w4.alloc (.cells #[.int .u64 td.d,.int .u64 td.p,.int .u64 td.o] 226)).alloc (Obj.cells #[.int .u64 (hn:Int),.int .u64 td.d,.int .u64 td.p,.int .u64 td.o] 230)):=hB5.alloc hB5.size _;have htg:=(Tch.of_below (S:=fun r=>n0≤r) hBa7).trans (tch_grown hg7 fun r e=>(hrl r e).1);have ht7:Tch (fun r=>B.own r∨n0≤r) w w7:=ht3.trans (htg.mono fun r e=>.inr e);have hW7:=hW3.tch htg (fun k e hk=>by have:=hall k e;omega);have hk7:Kept 230 n0 w2 w7:=HK5.out.trans ((Kept.tch (Tch.of_below (S:=fun _=>False) ((Below.refl _ _).alloc (Nat.le_refl _) _)) (fun k e=>e.elim)).trans (Kept.grown hrA hg7));have hz7:n0≤w7.heap.size:=Nat.le_trans hz3 htg.size;have HR7:=Lib.hid hr7;have HK7:=Lib.hid hk7;clear hown7 hg7 hr7 hk7 hrA hrl hBa7 htg;go_wp2
     go_roundg (N-(i+1))
     case measure=>rw[hg];exact Nat.sub_lt_sub_left hlt (Nat.lt_succ_self i)
     case rel=>exact⟨i+1,S3,l3,hlt,rfl,by simp,hW7,HHn.out,HR7.out,ht7,hz7,HK7.out⟩
    ·have hdue:S.p.due now a=false:=by
      unfold PS.due;rw[←HTD.out];simp[hdu]
     obtain⟨hpk,hHn⟩:=HH3.out.push hAn HA.out hdue;have hlv:=(HH3.out.live HA.out).1;rw[←HTD.out] at hpk hHn hlv;have hps:=push_at hW5 (a:=a) (t:=td) (by rw[HH3.out.p];exact hlv) hdl (by rw[HH3.out.base];omega) HH3.out.mid.ok.m hpk;rw[HH3.out.p,←HHN.out] at hps;have HF:=Lib.hid (filter_snoc_false (p:=S.p) HA.out hdue);have HHn:=Lib.hid hHn;clear hdue hpk hHn hlv;obtain⟨S6,hS6⟩:∃S6,S6={ S3 with c:=S3.c.push (placeOf S3.base td.d) a,m:=occSet S3.m (placeOf S3.base td.d) }:=⟨_,rfl⟩;rw[←HH3.out.p,←hS6] at hps;rw[←hS6] at HHn;clear hS6
     go_wp2_with (go_at_call 113;fail)
     refine hps.mono ?_;rintro e w7 ⟨rfl,htp,hW7⟩
     have hTX:∀(r:Nat),B.own r→n0≤r→(w4.alloc (.cells #[.int .u64 td.d,.int .u64 td.p,.int .u64 td.o] 226)).heap.size≤r:=fun r e hr=>by have:=hown r e;omega
     have hr7:w7.ownsRow n0 230 4 u11 ((A.take (i+1)).filter (S.p.due now)).length (foundCells S.p ((A.take (i+1)).filter (S.p.due now))):=by
      rw[HF.out];exact rows_keep HR5.out htp hTX
     have hk7:Kept 230 n0 w2 w7:=HK5.out.trans (Kept.tch htp hTX);have ht7:Tch (fun r=>B.own r∨n0≤r) w w7:=ht5.trans (htp.mono fun r e=>.inl e);have hz7:n0≤w7.heap.size:=Nat.le_trans hz5 htp.size;have HR7:=Lib.hid hr7;have HK7:=Lib.hid hk7;clear hr7 hk7 hps;go_wp2
     go_roundg (N-(i+1))
     case measure=>rw[hg];exact Nat.sub_lt_sub_left hlt (Nat.lt_succ_self i)
     case rel=>exact⟨i+1,S6,_,hlt,rfl,by simp,hW7,HHn.out,HR7.out,ht7,hz7,HK7.out⟩
   ·have hiN:i=N:=by omega
    subst hiN;have hHl:Held B S.p S.order tt now A A.length S3 l3:=HN.out ▸ HH3.out;have hml:=hHl.last
    have hAA:A.take i=A:=by rw[HN.out,List.take_length]
    have hr3:=HR3.out;rw[hAA] at hr3;have hfl:(A.filter (S.p.due now)).length≤64:=Nat.le_trans (List.length_filter_le _ _) (by rw[←HN.out];exact hAl);have hst:=sort114 hr3 hfl;have hrl:=fun k e=>(hr3.lt k e).1;have hS3p:S3.p=S.p:=hHl.p;have hS3b:S3.base=tt:=hHl.base;have hS3o:S3.order=S.order:=hHl.order;have HRL:=Lib.hid hrl;clear hrl hr3 hAA HR3 HH3 hHl HM HK3
    go_wp2_with (go_at_call 114;fail)
    refine hst.mono ?_;rintro e w4 ⟨rfl,D,hpm,hpw,hrow4,hg4⟩;have htg:=tch_grown (X:=fun r=>n0≤r) hg4 HRL.out;have hW4:=hW3.tch htg (fun k e hk=>by have:=hall k e;omega);have ht4:Tch (fun r=>B.own r∨n0≤r) w w4:=ht3.trans (htg.mono fun r e=>.inr e);have hz4:n0≤w4.heap.size:=Nat.le_trans hz3 htg.size;have hDn:D.Nodup:=hpm.nodup_iff.2 (hAn.filter _)
    have hDl:D.length≤64:=by rw[hpm.length_eq];exact hfl
    have hDA:∀a∈D,a∈A:=fun a ha=>(List.mem_filter.1 (hpm.mem_iff.1 ha)).1;have hF0:Fired B S.p S.order tt D 0 S3 l3:=Fired.zero (hml.congr (fun _=>rfl) (fun x=>hpm.mem_iff)) hS3p hS3b hS3o
    have hDall:∀a,a∈D↔∃t,S.p.ent a=some t∧t.d≤now:=by
     intro a;rw[hpm.mem_iff,List.mem_filter];constructor
     ·rintro ⟨h1,h2⟩
      refine⟨S.p.tm a,HPE.out a h1,?_⟩;unfold PS.due at h2;simpa using h2
     ·rintro ⟨t,h1,h2⟩
      refine⟨HD.out a t h1 (Nat.le_trans h2 htt2),?_⟩;unfold PS.due;rw[PS.tm_eq h1];simpa using h2
    obtain⟨qd,cd,rfl,hcd⟩:=row_found hrow4;have HCD:=Lib.hid hcd;have HF0:=Lib.hid hF0;have HDALL:=Lib.hid hDall;clear hcd hF0 hDall hrow4 hg4 HRL htg hst hml hpm HD HCM hfl hS3p hS3b hS3o;obtain⟨nd,hnd⟩:∃nd,nd=D.length:=⟨_,rfl⟩;rw[←hnd] at hDl;rw[←hnd];have HND:=Lib.hid hnd;clear hnd;obtain⟨d0,dj,ds0,ds1,ds2⟩:=info_parts info140;go_wp2
    go_loopg [16,106] nd (fun g v i wr=>∃j S',j≤nd∧g=nd-j∧i=.int .i64 (j:Int)∧WheelAt B S' wr∧Fired B S.p S.order tt D j S' l3∧wr.ownsRow n0 140 3 v j (dueCells S.p (D.take j))∧Tch (fun r=>B.own r∨n0≤r) w wr∧n0≤wr.heap.size∧Kept 140 n0 w4 wr)
    case atStart=>exact⟨0,_,Nat.zero_le _,rfl,rfl,hW4,HF0.out,World.ownsRow_nil _ _ _ _,ht4,hz4,Kept.refl _ _ _⟩
    case round=>
     obtain⟨j,S5,hj1,hg5,rfl,hW5,hF5,hrow5,ht5,hz5,hk5⟩:=hrel;have HR5:=Lib.hid hrow5;have HK5:=Lib.hid hk5;have HF5:=Lib.hid hF5;clear hrow5 hk5 hF5
     by_cases hlt5:j<nd
     ·obtain⟨a,ha⟩:∃a,D[j]?=some a:=⟨D[j]'(by rw[←HND.out];exact hlt5),List.getElem?_eq_getElem _⟩
      obtain⟨g,cur,rfl,hge,hcu,q0,q1,q2,q3⟩:=HCD.out j a ha;have hc5:=HK5.out g cur 230 (by decide) hge hcu;obtain⟨hLv,hhn5,_⟩:=HF5.out.live hDn ha;have haA:=hDA a (List.mem_of_getElem? ha);obtain⟨hp0,ha64⟩:=HPER.out a haA;have hdr:=fun W (hW:PoolAt B.p S5.p W)=>drop_live hW hLv ha64 (Nat.lt_of_le_of_lt (by rw[HF5.out.p];exact dropL_word _ _) hword);rw[hhn5] at hdr;obtain⟨hn,hhn⟩:∃hn:Nat,hn=hN S.p a:=⟨_,rfl⟩;obtain⟨td,htd⟩:∃td:Tm,td=S.p.tm a:=⟨_,rfl⟩;rw[←hhn] at q0 hdr;rw[←htd] at q1 q2 q3 hp0;rw[hp0] at q2;have b0:wr.cell? ⟨g,j*4,none⟩=some (.int .u64 hn):=Blk.cell hc5 (j*4) q0;have b1:wr.cell? ⟨g,j*4+1,none⟩=some (.int .u64 td.d):=Blk.cell hc5 (j*4+1) q1;have b2:wr.cell? ⟨g,j*4+2,none⟩=some (.int .u64 0):=Blk.cell hc5 (j*4+2) q2;have b3:wr.cell? ⟨g,j*4+3,none⟩=some (.int .u64 td.o):=Blk.cell hc5 (j*4+3) q3
      have hsn:dueCells S.p (D.take (j+1))=dueCells S.p (D.take j)++[.int .u64 hn,.int .u64 td.d,.int .u64 0]:=by
       rw[take_at_ ha,dueCells_app];unfold dueCells;rw[List.flatMap_singleton];unfold dueC;rw[←htd,←hhn,hp0];rfl
      have HSN:=Lib.hid hsn;have HA:=Lib.hid ha;have HDR:=Lib.hid hdr;clear hsn ha hdr hc5 hcu q0 q1 q2 q3 hhn htd hp0 hLv hhn5;obtain⟨xf,hxf⟩:∃xf,xf=wr.heap.size:=⟨_,rfl⟩;have hX6:=Blk.new wr #[.int .u64 hn,.int .u64 td.d,.int .u64 0,.int .u64 td.o] 230;have hB6:Below wr.heap.size wr (wr.alloc (.cells #[.int .u64 hn,.int .u64 td.d,.int .u64 0,.int .u64 td.o] 230)):=(Below.refl _ wr).alloc (Nat.le_refl _) _
      have hxz:n0≤xf:=by omega
      have e0:(wr.alloc (.cells #[.int .u64 hn,.int .u64 td.d,.int .u64 0,.int .u64 td.o] 230)).cell? ⟨wr.heap.size,0,none⟩=some (.int .u64 hn):=hX6.cell 0 rfl;have e1:(wr.alloc (.cells #[.int .u64 hn,.int .u64 td.d,.int .u64 0,.int .u64 td.o] 230)).cell? ⟨wr.heap.size,1,none⟩=some (.int .u64 td.d):=hX6.cell 1 rfl;have e2:(wr.alloc (.cells #[.int .u64 hn,.int .u64 td.d,.int .u64 0,.int .u64 td.o] 230)).cell? ⟨wr.heap.size,2,none⟩=some (.int .u64 0):=hX6.cell 2 rfl;have hr6:=rows_keep HR5.out (Tch.of_below (S:=fun _=>False) hB6) (fun k e=>e.elim)
      go_wp2_with (at_builtin;refine wpList_append_own _ rfl _ _ 137 rfl n0 140 d0 (.agg #[.int .u64 0,.int .u64 0,.int .u64 0]) 3 24 under137 dj ds0 ds1 ds2 rfl (by decide) _ _ _ rfl (hr6.alloc _) ⟨wr.heap.size+1,0,none⟩ 1 1 [.int .u64 hn,.int .u64 td.d,.int .u64 0] rfl rfl ?c1 (three_ok _ _ _) (by unfold maxLen;omega) (by omega) (by simp;omega) ?_)
      case c1=>
       have:=three_new (wr.alloc (.cells #[.int .u64 hn,.int .u64 td.d,.int .u64 0,.int .u64 td.o] 230)) 140 (.int .u64 hn) (.int .u64 td.d) (.int .u64 0);simpa using this
      intro v' w7 hown7 hg7 _
      have hr7:w7.ownsRow n0 140 3 v' (j+1) (dueCells S.p (D.take (j+1))):=by
       rw[HSN.out];exact hown7
      have hrA:=hr6.alloc (Obj.cells #[.int .u64 (hn:Int),.int .u64 td.d,.int .u64 0] 140);have hrl:=hrA.lt;have hBa7:Below wr.heap.size wr ((wr.alloc (.cells #[.int .u64 hn,.int .u64 td.d,.int .u64 0,.int .u64 td.o] 230)).alloc (Obj.cells #[.int .u64 (hn:Int),.int .u64 td.d,.int .u64 0] 140)):=hB6.alloc hB6.size _;have htg:=(Tch.of_below (S:=fun r=>n0≤r) hBa7).trans (tch_grown hg7 fun r e=>(hrl r e).1);have ht7:Tch (fun r=>B.own r∨n0≤r) w w7:=ht5.trans (htg.mono fun r e=>.inr e);have hW7:=hW5.tch htg (fun k e hk=>by have:=hall k e;omega);have hkg:Kept 140 n0 ((wr.alloc (.cells #[.int .u64 hn,.int .u64 td.d,.int .u64 0,.int .u64 td.o] 230)).alloc (Obj.cells #[.int .u64 (hn:Int),.int .u64 td.d,.int .u64 0] 140)) w7:=Kept.grown hrA hg7;have hk7:Kept 140 n0 w4 w7:=HK5.out.trans ((Kept.tch (Tch.of_below (S:=fun _=>False) hBa7) (fun k e=>e.elim)).trans hkg);have hX7:Blk w7 wr.heap.size #[.int .u64 hn,.int .u64 td.d,.int .u64 0,.int .u64 td.o] 230:=hkg.blk (by decide) hz5 (hX6.below ((Below.refl _ _).alloc (Nat.le_refl _) _) hX6.lt);have hz7:n0≤w7.heap.size:=Nat.le_trans hz5 htg.size;have c0:w7.cell? ⟨B.b,0,none⟩=some (.pointer (some ⟨B.p.b,0,none⟩)):=hW7.blk.cell 0 rfl;have g0:w7.cell? ⟨wr.heap.size,0,none⟩=some (.int .u64 hn):=hX7.cell 0 rfl;have g2:w7.cell? ⟨wr.heap.size,2,none⟩=some (.int .u64 0):=hX7.cell 2 rfl;have hdr:∀W,Below w7.heap.size w7 W→Calls Tryz.prog 118 #[.pointer (some ⟨B.p.b,0,none⟩),.int .u64 hn] W fun e w'=>e=.returned (.bool true)∧Tch B.p.own w7 w'∧PoolAt B.p (S5.p.drop a) w':=fun W hW=>(HDR.out W (hW7.below hW hW7.lt).pool).mono fun e w' h=>⟨h.1,(Tch.of_below hW).trans h.2.1,h.2.2⟩;have HR7:=Lib.hid hr7;have HK7:=Lib.hid hk7;clear hown7 hg7 hr7 hk7 hrA hrl hBa7 htg hkg hX7 hX6 e0 e1 e2 b0 b1 b2 b3 hB6 HR5 HK5;go_wp2;have HF8:=Lib.hid (HF5.out.step hDn HA.out)
      go_region_with (go_at_call 118;refine(hdr _ (by first|exact(Below.refl _ _).drew|exact Below.refl _ _)).mono ?_;rintro e w8 ⟨rfl,q1,q2⟩)
      all_goals (
       have hW8:=hW7.poolT q1 q2
       have hTX:∀(r:Nat),B.p.own r→n0≤r→w7.heap.size≤r:=fun r e hr=>by have:=hown r (.inr (.inl e));omega
       have hr8:=rows_keep HR7.out q1 hTX;have hk8:Kept 140 n0 w4 w8:=HK7.out.trans (Kept.tch q1 hTX);have ht8:Tch (fun r=>B.own r∨n0≤r) w w8:=ht7.trans (q1.mono fun r e=>.inl (.inr (.inl e)));have hz8:n0≤w8.heap.size:=Nat.le_trans hz7 q1.size;have HR8:=Lib.hid hr8;have HK8:=Lib.hid hk8;clear hr8 hk8 q1 q2;go_wp2
       go_roundg (nd-(j+1))
       case measure=>rw[hg5];exact Nat.sub_lt_sub_left hlt5 (Nat.lt_succ_self j)
       case rel=>exact⟨j+1,_,hlt5,rfl,by simp,hW8,HF8.out,HR8.out,ht8,hz8,HK8.out⟩)
     ·have hjn:j=nd:=by omega
      subst hjn;have hFl:Fired B S.p S.order tt D D.length S5 l3:=HND.out ▸ HF5.out
      have hrE:wr.ownsRow n0 140 3 u16 D.length (dueCells S.p D):=by
       have:=HR5.out;rw[HND.out,List.take_length] at this;exact this
      have HFL:=Lib.hid hFl;have HRE:=Lib.hid hrE;clear hFl hrE HR5 HF5;go_wp2;rw[Exit.noGoto_ret];refine bodyPost_ret (v:=u16) ?_ rfl ⟨u16,rfl,?_⟩
      ·simp[results,Tryz.results68,go_sem]
      ·rw[HMX.out,←HN0.out]
       exact⟨D,S5,l3,HRE.out,ht5,hW5,HFL.out.last.1,HFL.out.last.2,HFL.out.base,HFL.out.order,hDn,hpw,HDALL.out⟩
 have KEY:=Lib.hid key;clear key;clear a1
 go_loopg [6,30] K.length (fun g v i wr=>∃j S',j≤K.length∧g=K.length-j∧i=.int .i64 (j:Int)∧WheelAt B S' wr∧Taken B S ls K j S'∧wr.ownsRow n0 37 1 v ((K.take j).flatMap ls).length (hCells S.p ((K.take j).flatMap ls))∧Tch (fun r=>B.own r∨n0≤r) w wr∧n0≤wr.heap.size∧Kept 37 n0 w1 wr)
 case atStart=>exact⟨0,S,Nat.zero_le _,rfl,rfl,hW1,Taken.zero hm K,World.ownsRow_nil _ _ _ _,(Tch.of_below hBw).mono (fun r e=>e),hz1,Kept.refl _ _ _⟩
 case round=>
  obtain⟨j,S',hj,hg,rfl,hW,hTk,hrow,ht,hz,hkp⟩:=hrel;have HR:=Lib.hid hrow;have HKP:=Lib.hid hkp;have HTK:=Lib.hid hTk;clear hrow hkp hTk
  by_cases hlt:j<K.length
  ·obtain⟨k,hk⟩:∃k,K[j]?=some k:=⟨K[j],List.getElem?_eq_getElem hlt⟩
   obtain⟨gk,cur,rfl,hge,hcur,q1,q2⟩:=HC.out j k hk;have hgk:=HKP.out gk cur 219 (by decide) hge hcur;obtain⟨k1,k2⟩:=k;have c1:wr.cell? ⟨gk,j*2,none⟩=some (.int .i64 k1):=Blk.cell hgk (j*2) q1;have c2:wr.cell? ⟨gk,j*2+1,none⟩=some (.int .i64 k2):=Blk.cell hgk (j*2+1) q2;have HX:=Lib.hid hk;have HG:=Lib.hid hgk;clear hgk q1 q2 hcur hk;have hkn:ls (k1,k2)≠[]:=(hm.mem_places hLB (k1,k2)).1 (by rw[←HK.out];exact List.mem_of_getElem? HX.out);obtain⟨f,aa,ta,hsp,_,_,_,_⟩:=hm.spans hkn;have htch:=fun w=>touched_any (tt:=tt) hsp (show S.base<18446462598732840960 by omega) w;have hsb:S'.base=S.base:=HTK.out.base;have hX2:=Blk.new wr #[.int .i64 k1,.int .i64 k2] 219;have hBa:Below wr.heap.size wr (wr.alloc (.cells #[.int .i64 k1,.int .i64 k2] 219)):=(Below.refl _ wr).alloc (Nat.le_refl _) _;have hW2:=hW.below hBa hW.lt;obtain⟨xk,hxk⟩:∃xk,xk=wr.heap.size:=⟨_,rfl⟩
   have hxz:n0≤xk:=by omega
   rw[←hxk] at hX2;have HXK:=Lib.hid hxk;clear hxk;go_wp2;rw[←HXK.out];generalize wr.alloc (.cells #[.int .i64 k1,.int .i64 k2] 219)=w2 at *
   have d10:∀x:WX w2,x.w.cell? ⟨B.b,10,none⟩=some (.int .u64 S.base):=by rw[←hsb];exact hW2.blk.wx 10 rfl
   have e0:∀x:WX w2,x.w.cell? ⟨xk,0,none⟩=some (.int .i64 k1):=hX2.wx 0 rfl;have e1:∀x:WX w2,x.w.cell? ⟨xk,1,none⟩=some (.int .i64 k2):=hX2.wx 1 rfl;obtain⟨q,hq⟩:∃q,q=decide (f≤tt):=⟨_,rfl⟩;rw[←hq] at htch;have HQ:=Lib.hid hq;clear hq c1 c2;refine wp_region_grown (by kernel_rfl) (by kernel_rfl) ?_
   repeat (go_big_quiet_step (first|(go_at_call 108;exact WX.of (htch _))))
   refine wpQuiet_nil ?_;intro w3 hb3;have hW3:=hW2.below hb3 hW2.lt;have hX3:=hX2.below hb3 hX2.lt;clear d10 e0 e1 htch;have hBr:Below wr.heap.size wr w3:=hBa.trans (hb3.mono hBa.size);have hr3:w3.ownsRow n0 37 1 u6 ((K.take j).flatMap ls).length (hCells S.p ((K.take j).flatMap ls)):=rows_keep HR.out (Tch.of_below (S:=fun _=>False) hBr) (fun k e=>e.elim);have hk3:Kept 37 n0 w1 w3:=HKP.out.trans (Kept.tch (Tch.of_below (S:=fun _=>False) hBr) (fun k e=>e.elim));have ht3:Tch (fun r=>B.own r∨n0≤r) w w3:=ht.trans (Tch.of_below hBr);have hz3:n0≤w3.heap.size:=Nat.le_trans hz hBr.size;have HR3:=Lib.hid hr3;have HK3:=Lib.hid hk3;clear hr3 hk3 HR HKP
   cases q with
   |false=>
     go_wp2
     have hff:tt<f:=by
      have:=HQ.out;simp at this;omega
     exact KEY.out _ _ _ _ _ _ _ _ _ _ _ _ _ _ _ _ _ _ _ _ _ _ _ _ _ _ _ _ _ _ _ _ _ _ _ _ _ _ _ _ _ _ _ _ hW3 HTK.out (by rw[HK.out];exact Taken.rest hm hLB (by rw[←HK.out];exact HX.out) hsp hff) HR3.out ht3 hz3
   |true=>
     have c1:w3.cell? ⟨B.b,1,none⟩=some (.pointer (some ⟨B.c.b,0,none⟩)):=hW3.blk.cell 1 rfl;have e0:w3.cell? ⟨xk,0,none⟩=some (.int .i64 k1):=hX3.cell 0 rfl;have e1:w3.cell? ⟨xk,1,none⟩=some (.int .i64 k2):=hX3.cell 1 rfl
     have htk:∀W,Below w3.heap.size w3 W→Calls Tryz.prog 109 #[.pointer (some ⟨B.c.b,0,none⟩),.agg #[.int .i64 k1,.int .i64 k2]] W fun e w'=>∃pt ct C',e=.returned (.slice pt (ls (k1,k2)).length ct)∧(∀(m:Nat) (a:Nat),(ls (k1,k2))[m]?=some a→∃(g:Nat) (cur:Array Value),pt=some ⟨g,0,none⟩∧n0≤g∧w'.heap[g]?=some (.cells cur 3 (0,0))∧cur[m]?=some (.int .i64 (a:Int)))∧WheelAt B { S' with c:=C' } w'∧ChainOk C' (fset (fun k=>if k∈K.take j then[] else ls k) (k1,k2) []) B.c.room∧Tch (fun r=>B.own r∨w3.heap.size≤r) w3 w':=by
      intro W hWb;have hWW:=hW3.below hWb hW3.lt;have hlk:(if (k1,k2)∈K.take j then[] else ls (k1,k2))=ls (k1,k2):=if_neg (not_in_take hks HX.out);refine(take_at k1 k2 hm.ok.room hWW.chain HTK.out.mid.ok.ch).mono ?_;rintro e w' ⟨v,rfl,hv,ht,C',hC',hO'⟩;rw[hlk] at hv;obtain⟨pt,ct,rfl,hcl⟩:=row_cell hv;refine⟨pt,ct,C',rfl,fun m a ha=>?_,hWW.chainT2 (Nat.le_refl _) ht hC',hO',(Tch.of_below hWb).trans (ht.mono fun r e=>e.elim (fun e=>.inl (.inr (.inr e))) (fun e=>.inr (Nat.le_trans hWb.size e)))⟩;obtain⟨g,cur,h1,h2,h3,h4⟩:=hcl m (.int .i64 a) (by rw[List.getElem?_map,ha];rfl);exact⟨g,cur,h1,by have:=hWb.size;omega,h3,h4⟩
     go_wp2
     go_cut [30,47,48,49] from 30 to 67 (fun i v l z wx=>∃pt ct C',i=.int .i64 (j:Int)∧v=.slice pt (ls (k1,k2)).length ct∧l=.int .i64 ((ls (k1,k2)).length:Int)∧z=.int .i64 0∧(∀(m:Nat) (a:Nat),(ls (k1,k2))[m]?=some a→∃(g:Nat) (cur:Array Value),pt=some ⟨g,0,none⟩∧n0≤g∧wx.heap[g]?=some (.cells cur 3 (0,0))∧cur[m]?=some (.int .i64 (a:Int)))∧WheelAt B { S' with c:=C' } wx∧ChainOk C' (fset (fun k=>if k∈K.take j then[] else ls k) (k1,k2) []) B.c.room∧Tch (fun r=>B.own r∨w3.heap.size≤r) w3 wx)
     case first=>
      go_region_with (go_at_call 109;refine(htk _ (by first|exact(Below.refl _ _).drew|exact Below.refl _ _)).mono ?_;rintro e w' ⟨pt,ct,C',rfl,q1,q2,q3,q4⟩)
      all_goals (go_wp2_with fail)
      all_goals go_meet
      all_goals exact⟨pt,ct,C',rfl,rfl,rfl,rfl,q1,q2,q3,q4⟩
     case rest=>
      obtain⟨pt,ct,C',rfl,rfl,rfl,rfl,q1,q2,q3,q4⟩:=hcut;clear htk c1 e0 e1 h;have hTX:∀(r:Nat),(B.own r∨w3.heap.size≤r)→n0≤r→w3.heap.size≤r:=fun r e hr=>e.elim (fun e=>by have:=hown r e;omega) id;have hr4:wc.ownsRow n0 37 1 u6 ((K.take j).flatMap ls).length (hCells S.p ((K.take j).flatMap ls)):=rows_keep HR3.out q4 hTX;have hk4:Kept 37 n0 w1 wc:=HK3.out.trans (Kept.tch q4 hTX);have hX4:Blk wc xk #[.int .i64 k1,.int .i64 k2] 219:=Kept.blk (E:=37) (Kept.tch q4 hTX) (by decide) hxz hX3;have ht4:Tch (fun r=>B.own r∨n0≤r) w wc:=ht3.trans (q4.mono fun r e=>e.imp id (Nat.le_trans hz3));have hz4:n0≤wc.heap.size:=Nat.le_trans hz3 q4.size;obtain⟨P,hP⟩:∃P,P=(K.take j).flatMap ls:=⟨_,rfl⟩;obtain⟨Lk,hLk⟩:∃Lk,Lk=ls (k1,k2):=⟨_,rfl⟩
      have hPL:(K.take (j+1)).flatMap ls=P++Lk:=by
       rw[List.take_add_one,HX.out,Option.toList_some,List.flatMap_append,List.flatMap_singleton,←hP,←hLk]
      have hlen:(P++Lk).length≤64:=by
       rw[←hPL];exact flat_len hm.ok.ch hm.ok.room (hks.sublist (List.take_sublist _ _))
      have hlive:∀a∈Lk,∃t,LiveAt S.p a t:=fun a ha=>by
       obtain⟨t,h1,_⟩:=hm.ok.live (k1,k2) a (by rw[←hLk];exact ha);exact⟨t,h1⟩
      rw[←hLk] at q1;rw[←hP] at hr4;rw[←hLk];have hpS:S'.p=S.p:=HTK.out.p;have HR4:=Lib.hid hr4;have HK4:=Lib.hid hk4;have Q1:=Lib.hid q1;have Q3:=Lib.hid q3;have HPL:=Lib.hid hPL;have HLK:=Lib.hid hLk;have HPP:=Lib.hid hP;clear hr4 hk4 q1 q3 hPL hLk hP HR3 HK3 hTX q4 hX3 hW3 hb3 hBr;obtain⟨nl,hnl⟩:∃nl,nl=Lk.length:=⟨_,rfl⟩;rw[←hnl];have HNL:=Lib.hid hnl
      have hlen2:P.length+nl≤64:=by rw[hnl,←List.length_append];exact hlen
      clear hnl hlen;go_wp2
      go_loopg [6,49] nl (fun g v i wr'=>∃m,m≤nl∧g=nl-m∧i=.int .i64 (m:Int)∧wr'.ownsRow n0 37 1 v (P.length+m) (hCells S.p (P++Lk.take m))∧Tch (fun r=>n0≤r) wc wr'∧Kept 37 n0 wc wr')
      case atStart=>exact⟨0,Nat.zero_le _,rfl,rfl,by simpa using HR4.out,Tch.refl _ _,Kept.refl _ _ _⟩
      case round=>
       obtain⟨m,hm1,hg1,rfl,hrow1,ht5,hk5⟩:=hrel;have HR5:=Lib.hid hrow1;have HK5:=Lib.hid hk5;clear hrow1 hk5;have hW5:=q2.tch ht5 (fun k e hk=>by have:=hall k e;omega);have hz5:n0≤wr.heap.size:=Nat.le_trans hz4 ht5.size
       by_cases hlt2:m<nl
       ·obtain⟨a,ha⟩:∃a,Lk[m]?=some a:=⟨Lk[m]'(by rw[←HNL.out];exact hlt2),List.getElem?_eq_getElem _⟩
        obtain⟨g,cur,rfl,hge,hcu,hcm⟩:=Q1.out m a ha;have hc5:=HK5.out g cur 3 (by decide) hge hcu;have c1:wr.cell? ⟨g,m,none⟩=some (.int .i64 (a:Int)):=Blk.cell hc5 m hcm;have c2:wr.cell? ⟨B.b,0,none⟩=some (.pointer (some ⟨B.p.b,0,none⟩)):=hW5.blk.cell 0 rfl;obtain⟨t,hLv⟩:=hlive a (List.mem_of_getElem? ha);have hh:=handle_live hW5.pool (a:=a) (t:=t) (by show LiveAt S'.p a t;rw[hpS];exact hLv)
        have hhv:hN S'.p a=hN S.p a:=by rw[hpS]
        have hh2:Calls Tryz.prog 110 #[.pointer (some ⟨B.p.b,0,none⟩),.int .i64 (a:Int)] wr fun e w'=>e=.returned (.int .u64 (hN S.p a:Nat))∧Below wr.heap.size wr w':=hhv ▸ hh
        have hlen3:P.length+m<64:=by omega
        have hsn:hCells S.p (P++Lk.take (m+1))=hCells S.p (P++Lk.take m)++[.int .u64 ((hN S.p a:Nat):Int)]:=by
         rw[List.take_add_one,ha,Option.toList_some,←List.append_assoc,hCells_app];rfl
        have HSN:=Lib.hid hsn;have HA:=Lib.hid ha;clear hh hhv hc5 hcu hcm hsn ha;obtain⟨hn,hhn⟩:∃hn:Nat,hn=hN S.p a:=⟨_,rfl⟩;rw[←hhn] at hh2 HSN;clear hhn
        go_wp2_with (go_at_call 110;fail)
        refine hh2.mono ?_;rintro e w5 ⟨rfl,hb5⟩;have hr6:=rows_keep HR5.out (Tch.of_below (S:=fun _=>False) hb5) (fun k e=>e.elim);have hz6:n0≤w5.heap.size:=Nat.le_trans hz5 hb5.size
        go_wp2_with (at_builtin;refine wpList_append_own _ rfl _ _ 56 rfl n0 37 i0 (.int .u64 0) 1 8 underlying56 ji js0 js1 js2 rfl (by decide) _ _ _ rfl (hr6.alloc _) ⟨w5.heap.size,0,none⟩ 1 1 [.int .u64 (hn:Int)] rfl rfl ?c1 ?c2 ?c3 ?c4 ?c5 ?_)
        case c1=>
         intro j u hj
         match j,hj with
         | 0,hj=>simp at hj;subst hj;simp[Addr.add]
        case c2=>intro u hu;simp at hu;subst hu;rfl
        case c3=>unfold maxLen;omega
        case c4=>omega
        case c5=>simp;omega
        ·intro v' w7 hown7 hg7 _
         have hr7:w7.ownsRow n0 37 1 v' (P.length+(m+1)) (hCells S.p (P++Lk.take (m+1))):=by rw[HSN.out];exact hown7
         have hrA:=hr6.alloc (Obj.cells #[.int .u64 (hn:Int)] 37);have hrl:=hrA.lt;have hBa5:Below wr.heap.size wr (w5.alloc (Obj.cells #[.int .u64 (hn:Int)] 37)):=hb5.alloc hb5.size _;have ht7:Tch (fun r=>n0≤r) wc w7:=ht5.trans ((Tch.of_below hBa5).trans (tch_grown hg7 fun r e=>(hrl r e).1));have hk7:Kept 37 n0 wc w7:=HK5.out.trans ((Kept.tch (Tch.of_below (S:=fun _=>False) hBa5) (fun k e=>e.elim)).trans (Kept.grown hrA hg7));have HR7:=Lib.hid hr7;have HK7:=Lib.hid hk7;clear hown7 hg7 hr7 hk7 hrA hrl hBa5 hr6 HSN;go_wp2
         go_roundg (nl-(m+1))
         case measure=>rw[hg1];exact Nat.sub_lt_sub_left hlt2 (Nat.lt_succ_self m)
         case rel=>exact⟨m+1,hlt2,rfl,by simp,HR7.out,ht7,HK7.out⟩
       ·have hmN:m=nl:=by omega
        subst hmN;have hl:=left_at hW5 HTK.out.mid.ok.m (l:=k1) (s:=k2) (hm.keyOk (k:=(k1,k2)) hkn);have hX5:=Kept.blk (E:=37) HK5.out (by decide) hxz hX4;have e0:wr.cell? ⟨xk,0,none⟩=some (.int .i64 k1):=hX5.cell 0 rfl;have e1:wr.cell? ⟨xk,1,none⟩=some (.int .i64 k2):=hX5.cell 1 rfl
        go_wp2_with (go_at_call 111;fail)
        refine hl.mono ?_;rintro e w6 ⟨rfl,ht6,hW6⟩
        have hTX6:∀(r:Nat),B.own r→n0≤r→wr.heap.size≤r:=fun r e hr=>by have:=hown r e;omega
        have hr6:w6.ownsRow n0 37 1 u6 ((K.take (j+1)).flatMap ls).length (hCells S.p ((K.take (j+1)).flatMap ls)):=by
         have:=rows_keep HR5.out ht6 hTX6;rw[HNL.out,List.take_length] at this;rw[HPL.out,List.length_append];exact this
        have hk6:Kept 37 n0 w1 w6:=HK4.out.trans (HK5.out.trans (Kept.tch ht6 hTX6));have ht6':Tch (fun r=>B.own r∨n0≤r) w w6:=ht4.trans ((ht5.mono fun r e=>.inr e).trans (ht6.mono fun r e=>.inl e));have hz6:n0≤w6.heap.size:=Nat.le_trans hz5 ht6.size;have HR6:=Lib.hid hr6;have HK6:=Lib.hid hk6;have HT6:=Lib.hid (HTK.out.step hks HX.out hkn Q3.out);clear hr6 hk6 hl e0 e1 hX5;have hjj:IntKind.i64.wrap ((j:Int)+1)=(j:Int)+1:=IntWalk.i64_in _ ⟨by omega,by omega⟩;go_wp2
        go_roundg (K.length-(j+1))
        case measure=>rw[hg];exact Nat.sub_lt_sub_left hlt (Nat.lt_succ_self j)
        case rel=>exact⟨j+1,_,hlt,rfl,by simp[hjj],hW6,HT6.out,HR6.out,ht6',hz6,HK6.out⟩
  ·have hkN:j=K.length:=by omega
   subst hkN;go_wp2;exact KEY.out _ _ _ _ _ _ _ _ _ _ _ _ _ _ _ _ _ _ _ _ _ _ _ _ _ _ _ _ _ _ _ _ _ _ _ _ _ _ _ _ _ _ _ _ hW HTK.out (by rw[HK.out];exact Taken.none hm hLB) HR.out ht hz
end
end Go.Proofs.YtkndlfdpmpdihaaGreatDoor
