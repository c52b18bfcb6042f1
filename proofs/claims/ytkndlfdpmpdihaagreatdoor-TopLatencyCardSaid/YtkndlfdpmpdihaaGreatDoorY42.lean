/- The clock is read: high word, low word, high word again. The clock tells the time; what a trigger that waits is. The board that the service stands on: what the interface asks. The service: does it wait; its clock. The log of what fired: a handle parted. Maps whose keys are a timer's generation and p Conditions: those that each statement shows. -/
import Derived.Test.YtkndlfdpmpdihaaGreatDoorY41
import Derived.Test.YtkndlfdpmpdihaaGreatDoorY18
import Derived.Test.YtkndlfdpmpdihaaGreatDoorY16
import Derived.Test.YtkndlfdpmpdihaaGreatDoorY05
import Derived.Test.YtkndlfdpmpdihaaGreatDoorY09
import Derived.Test.YtkndlfdpmpdihaaGreatDoorY19
import Derived.Test.YtkndlfdpmpdihaaGreatDoorY11
import Derived.Test.YtkndlfdpmpdihaaGreatDoorY17
import Derived.Deep.RegionHeld3
import Derived.Deep.AppendLies
import Derived.Deep.RegionLaw
namespace Go.Proofs.YtkndlfdpmpdihaaGreatDoor
open Go.RowKit Go.Ev Go.Mv
set_option linter.unusedVariables false
set_option linter.unusedSimpArgs false
set_option maxRecDepth 100000
theorem join170 (a b:Nat) (ha:a<4294967296) (hb:b<4294967296) (w:World):Calls Tryz.prog 170 #[.int .u32 a,.int .u32 b] w fun e w'=>e=.returned (.int .u64 (a*4294967296+b:Nat))∧w'=w:=by
 have g1:IntKind.u64.wrap (a:Int)=(a:Int):=u64n _ (by omega);have g2:IntKind.u64.wrap (b:Int)=(b:Int):=u64n _ (by omega)
 have g3:IntKind.u64.wrap ((a:Int)*4294967296)=((a*4294967296:Nat):Int):=by
  have e:(a:Int)*4294967296=((a*4294967296:Nat):Int):=by omega
  rw[e,u64n _ (by omega)]
 have g4:bits BinOp.or .u64 ((a*4294967296:Nat):Int) (b:Int)=((a*4294967296+b:Nat):Int):=by
  rw[bits_or _ _ (by omega) (by omega)];have:=Nat.shiftLeft_add_eq_or_of_lt (i:=32) (b:=b) (by omega) a;rw[Nat.shiftLeft_eq] at this;rw[show a*4294967296=a*2^32 from rfl,←this]
 obtain⟨F,hF⟩:∃F,F=a*4294967296+b:=⟨_,rfl⟩;rw[←hF] at g4 ⊢;have G4:=Lib.hid g4;have G3:=Lib.hid g3;clear g3 g4 hF;go_enter Tryz.func170,Tryz.ntmps170;go_wp2;refine bodyPost_ret (v:=.int .u64 (F:Nat)) ?_ rfl ⟨rfl,rfl⟩;simp[results,Tryz.results170,go_sem];have e:=G4.out;rw[show ((a*4294967296:Nat):Int)=(a:Int)*4294967296 from by omega] at e;exact e
section
variable {Q:QB} {S:QS} {w w':World}
def ReadD (Q:QB) (S:QS) (G:Nat) (w w':World) (v:Nat):Prop:=
 Tch Q.ft w w'∧∃s2 m2 sp,PortAt Q ⟨s2,m2,sp⟩ w'∧S.s.time≤v∧v≤s2.time∧s2.time≤S.s.time+G*9∧s2.cmp=S.s.cmp∧S.made≤m2∧m2≤S.made+9
set_option maxHeartbeats 4000000 in
theorem read106 (h:PortAt Q S w) {G:Nat} (hG:∀n,Q.gap n≤G) (hm:S.made+9<4611686018427387904) (ht:S.s.time+G*9<9223372036854775808) :
 Calls Tryz.prog 106 #[.pointer (some ⟨Q.pb,0,none⟩)] w fun e w'=>∃v:Nat,e=.returned (.tuple #[.int .u64 v,.int .i64 0])∧ReadD Q S G w w' v:=by
 have hlo:∀t,LdD Q t (t%4294967296) 33603576:=fun t W s hb ht=>ht ▸ bllo hb;have hhi:∀t,LdD Q t (t/4294967296) 33603580:=fun t W s hb ht=>ht ▸ blhi hb
 have hld:∀(S0:QS) (W:World),PortAt Q S0 W→S0.made<4611686018427387904→S0.s.time+G<9223372036854775808→Calls Tryz.prog 44 #[.pointer (some ⟨Q.pb,0,none⟩),.int .u32 33603580] W fun e w'=>∃s2 sp,e=.returned (.tuple #[.int .u32 (s2.time/4294967296:Nat),.int .i64 0])∧Tch Q.ft W w'∧PortAt Q ⟨s2,S0.made+1,sp⟩ w'∧S0.s.time≤s2.time∧s2.time≤S0.s.time+G∧s2.cmp=S0.s.cmp:=by
  intro S0 W h0 h1 h2;have hg:=hG S0.made;refine(load44 h0 h1 (by omega) (hhi _)).mono ?_;rintro e w' ⟨rfl,q1,s2,sp,q2,q3,q4⟩;exact⟨s2,sp,by rw[q3],q1,q2,by omega,by omega,q4⟩
 have hldl:∀(S0:QS) (W:World),PortAt Q S0 W→S0.made<4611686018427387904→S0.s.time+G<9223372036854775808→Calls Tryz.prog 44 #[.pointer (some ⟨Q.pb,0,none⟩),.int .u32 33603576] W fun e w'=>∃s2 sp,e=.returned (.tuple #[.int .u32 (s2.time%4294967296:Nat),.int .i64 0])∧Tch Q.ft W w'∧PortAt Q ⟨s2,S0.made+1,sp⟩ w'∧S0.s.time≤s2.time∧s2.time≤S0.s.time+G∧s2.cmp=S0.s.cmp:=by
  intro S0 W h0 h1 h2;have hg:=hG S0.made;refine(load44 h0 h1 (by omega) (hlo _)).mono ?_;rintro e w' ⟨rfl,q1,s2,sp,q2,q3,q4⟩;exact⟨s2,sp,by rw[q3],q1,q2,by omega,by omega,q4⟩
 clear hlo hhi;have H1:=Lib.hid hld;have H2:=Lib.hid hldl;have HG:=Lib.hid hG;clear hld hldl hG;obtain⟨T0,hT0⟩:∃T0,T0=S.s.time:=⟨_,rfl⟩;have hmf:∀(fn:Fn) (first cap:Array Value) (w:World),(Instr.makeFunc fn first cap).run Tryz.prog w=.ok (.func fn first cap) w:=fun _ _ _ _=>rfl;go_enter Tryz.func106,Tryz.ntmps106;go_wp2;go_step3
 go_wp2_with (go_at_call 44;fail)
 refine(H1.out S w h (by omega) (by omega)).mono ?_;rintro e w1 ⟨s1,sp1,rfl,t1,p1,b1,b2,b3⟩;clear hmf;go_wp2;go_step3;go_wp2;rename_i K1 a1
 have key:∀(u0 u1 u2 u3 u4 u6 u8 u9 u10 u11 u12 u13 u14 u15 u16 u17 u18 u19 u20 u21 u22 u23 u24 u25 u26 u27 u28 u29 u30 u31 u32 u33 u34 u35 u36 u37 u38 u39 u40 u41 u42 u43 u44 u45 u46 u47 u48 u49:Value) (hi lo:Nat) (wf:World),hi<4294967296→lo<4294967296→ReadD Q S G w wf (hi*4294967296+lo)→K1 { tmps:=#[u0,u1,u2,u3,u4,.int .u32 (hi:Int),u6,.int .u32 (lo:Int),u8,u9,u10,u11,u12,u13,u14,u15,u16,u17,u18,u19,u20,u21,u22,u23,u24,u25,u26,u27,u28,u29,u30,u31,u32,u33,u34,u35,u36,u37,u38,u39,u40,u41,u42,u43,u44,u45,u46,u47,u48,u49],defers:=[] } wf:=by
  intro u0 u1 u2 u3 u4 u6 u8 u9 u10 u11 u12 u13 u14 u15 u16 u17 u18 u19 u20 u21 u22 u23 u24 u25 u26 u27 u28 u29 u30 u31 u32 u33 u34 u35 u36 u37 u38 u39 u40 u41 u42 u43 u44 u45 u46 u47 u48 u49 hi lo wf hh hl hD;have hj:=fun W=>join170 hi lo hh hl W;obtain⟨F,hF⟩:∃F,F=hi*4294967296+lo:=⟨_,rfl⟩;rw[←hF] at hD hj;clear hF H1 H2;refine a1 _ _ ?_;clear a1
  go_wp2_with (go_at_call 170;refine(hj _).mono ?_;rintro e w' ⟨rfl,rfl⟩)
  rw[Exit.noGoto_ret];refine bodyPost_ret (v:=.tuple #[.int .u64 F,.int .i64 0]) ?_ rfl ⟨F,rfl,hD⟩;simp[results,Tryz.results106,go_sem]
 have KEY:=Lib.hid key;clear key a1
 go_loopg [5,7,21] 5 (fun g hv lv iv wr=>∃k s sp,k≤4∧g=5-k∧iv=.int .i64 (k:Int)∧hv=.int .u32 (s.time/4294967296:Nat)∧PortAt Q ⟨s,S.made+1+2*k,sp⟩ wr∧Tch Q.ft w wr∧T0≤s.time∧s.time≤T0+G*(1+2*k)∧s.cmp=S.s.cmp∧(0<k→T0≤s.time/4294967296*4294967296))
 case atStart=>exact⟨0,s1,sp1,by omega,rfl,rfl,rfl,p1,t1,by omega,by omega,b3,fun h=>absurd h (by omega)⟩
 case round=>
  obtain⟨k,s,sp,hk,hg,rfl,rfl,hp,htc,hlo,hup,hcm,h0⟩:=hrel
  have hst:s.time/4294967296<4294967296:=by
   have:=Nat.mul_le_mul_left G (show 1+2*k≤9 by omega);omega
  by_cases hk4:k=4
  ·subst hk4
   have hD:ReadD Q S G w wr (s.time/4294967296*4294967296+0):=⟨htc,s,_,sp,hp,by have:=h0 (by omega);omega,by omega,by omega,hcm,by omega,by omega⟩;have HDD:=Lib.hid hD;clear hD hup hlo h0;go_wp2;exact KEY.out _ _ _ _ _ _ _ _ _ _ _ _ _ _ _ _ _ _ _ _ _ _ _ _ _ _ _ _ _ _ _ _ _ _ _ _ _ _ _ _ _ _ _ _ _ _ _ _ _ 0 _ hst (by omega) HDD.out
  ·have hk3:k≤3:=by omega
   have hG3:=Nat.mul_le_mul_left G (show 1+2*k+2≤9 by omega)
   have hGe:G*(1+2*k+2)=G*(1+2*k)+G+G:=by rw[Nat.mul_add,Nat.mul_two];omega
   obtain⟨X,hX⟩:∃X,X=G*(1+2*k):=⟨_,rfl⟩;rw[←hX] at hup hGe;have hc1:=H2.out _ _ hp (by show S.made+1+2*k<_;omega) (by show s.time+G<_;omega);obtain⟨q,hq⟩:∃q,q=s.time/4294967296:=⟨_,rfl⟩;rw[←hq] at h0 hst;rw[←hq]
   have hXB:X+G+G≤G*9:=by omega
   have HXB:=Lib.hid hXB;have HX:=Lib.hid hX;have HGE:=Lib.hid hGe;have HQ:=Lib.hid hq;clear hX hGe hq hG3 hXB
   go_wp2_with (go_at_call 44;fail)
   refine hc1.mono ?_;rintro e w2 ⟨s2,sp2,rfl,t2,p2,d1,d2,d3⟩;have hc2:=H1.out _ _ p2 (by show S.made+1+2*k+1<_;omega) (by show s2.time+G<_;have:=HXB.out;have:s2.time≤s.time+G:=d2;omega);have d1':s.time≤s2.time:=d1;have d2':s2.time≤s.time+G:=d2;clear hc1 d1 d2;obtain⟨lo,hl⟩:∃lo,lo=s2.time%4294967296:=⟨_,rfl⟩;rw[←hl];have HL:=Lib.hid hl;clear hl
   go_wp2_with (go_at_call 44;fail)
   refine hc2.mono ?_;rintro e w3 ⟨s3,sp3,rfl,t3,p3,e1,e2,e3⟩;have e1':s2.time≤s3.time:=e1;have e2':s3.time≤s2.time+G:=e2;have hcmp:s3.cmp=S.s.cmp:=e3.trans (d3.trans hcm);have htt:Tch Q.ft w w3:=(htc.trans t2).trans t3;clear hc2 e1 e2 e3 d3;obtain⟨q3,hq3⟩:∃q3,q3=s3.time/4294967296:=⟨_,rfl⟩;rw[←hq3]
   have hq3l:q3<4294967296:=by have:=HXB.out;omega
   by_cases hqq:q3=q
   ·have hD:ReadD Q S G w w3 (q*4294967296+lo):=by
     have h1:=HQ.out
     have h3:q*4294967296+lo=s2.time:=by have:=HL.out;omega
     rw[h3];exact⟨htt,s3,_,sp3,p3,by omega,by omega,by have:=HXB.out;omega,hcmp,by show S.made≤S.made+1+2*k+1+1;omega,by show S.made+1+2*k+1+1≤_;omega⟩
    have HDD:=Lib.hid hD;subst hqq;clear hD hq3 hup hlo h0
    have hll:lo<4294967296:=by have:=HL.out;omega
    go_wp2;exact KEY.out _ _ _ _ _ _ _ _ _ _ _ _ _ _ _ _ _ _ _ _ _ _ _ _ _ _ _ _ _ _ _ _ _ _ _ _ _ _ _ _ _ _ _ _ _ _ _ _ q3 lo _ hst hll HDD.out
   ·have hqi:¬((q3:Int)=(q:Int)):=by omega
    have hnx:T0≤q3*4294967296:=by have:=HQ.out;omega
    have hkk:IntKind.i64.wrap ((k:Int)+1)=(k:Int)+1:=IntWalk.i64_in _ ⟨by omega,by omega⟩
    have hup3:s3.time≤T0+G*(1+2*(k+1)):=by
     have h1:=HX.out;rw[show 1+2*(k+1)=1+2*k+2 by omega,Nat.mul_add,Nat.mul_two,←h1];omega
    have HU:=Lib.hid hup3
    have hlo3:T0≤s3.time:=by omega
    have HQ3:=Lib.hid hq3;clear hup3 hq3 hup hlo h0;go_wp2
    go_roundg (5-(k+1))
    case measure=>omega
    case rel=>exact⟨k+1,s3,sp3,by omega,rfl,by simp[hkk],by rw[HQ3.out],p3,htt,hlo3,HU.out,hcmp,fun _=>by rw[←HQ3.out];exact hnx⟩
end
section
variable {Q:QB} {S:QS} {w w':World}
set_option maxHeartbeats 4000000 in
theorem now67 (h:PortAt Q S w) {G:Nat} (hG:∀n,Q.gap n≤G) (hm:S.made+9<4611686018427387904) (ht:S.s.time+G*9<9223372036854775808) {kb:Nat} {last:Value} (hK:Blk w kb #[.pointer (some ⟨Q.pb,0,none⟩),last] 207) (hk:¬Q.ft kb) (hk8:8≤kb) :
 Calls Tryz.prog 67 #[.pointer (some ⟨kb,0,none⟩)] w fun e w'=>∃v:Nat,e=.returned (.tuple #[.int .u64 v,.int .i64 0])∧Tch (fun r=>Q.ft r∨r=kb) w w'∧Blk w' kb #[.pointer (some ⟨Q.pb,0,none⟩),.int .u64 v] 207 ∧
  ∃s2 m2 sp,PortAt Q ⟨s2,m2,sp⟩ w'∧S.s.time≤v∧v≤s2.time∧s2.time≤S.s.time+G*9∧s2.cmp=S.s.cmp∧S.made≤m2∧m2≤S.made+9:=by
 have hr:=read106 h hG hm ht;have c0:w.cell? ⟨kb,0,none⟩=some (.pointer (some ⟨Q.pb,0,none⟩)):=hK.cell 0 rfl;go_enter Tryz.func67,Tryz.ntmps67
 go_wp2_with (go_at_call 106;fail)
 refine hr.mono ?_;rintro e w1 ⟨v,rfl,t1,s2,m2,sp,p1,b1,b2,b3,b4,b5,b6⟩;have hK1:Blk w1 kb #[.pointer (some ⟨Q.pb,0,none⟩),last] 207:=(t1.block _ hK.lt hk).trans hK;have c1:w1.cell? ⟨kb,0,none⟩=some (.pointer (some ⟨Q.pb,0,none⟩)):=hK1.cell 0 rfl;have hdn:=down22 p1;clear hr c0
 go_wp2_with (go_at_call 22;fail)
 refine hdn.mono ?_;rintro e w2 ⟨rfl,hb2⟩;have hK2:=hK1.below hb2 hK1.lt;have p2:=p1.below hb2;have f1:=hK2.free 1;have d1:w2.cell? ⟨kb,1,none⟩=some last:=hK2.cell 1 rfl;have hK3:Blk (w2.setCell ⟨kb,1,none⟩ (.int .u64 v)) kb #[.pointer (some ⟨Q.pb,0,none⟩),.int .u64 v] 207:=hK2.set 1 _;have t3:Tch (fun r=>r=kb) w2 (w2.setCell ⟨kb,1,none⟩ (.int .u64 v)):=(Tch.refl _ w2).setCell _ (.inl rfl);have p3:=p2.tch t3 (fun k e=>e ▸ ⟨hk,hk8⟩);have tt:Tch (fun r=>Q.ft r∨r=kb) w (w2.setCell ⟨kb,1,none⟩ (.int .u64 v)):=((t1.mono fun r e=>.inl e).trans (Tch.of_below hb2)).trans (t3.mono fun r e=>.inr e);have P3:=Lib.hid p3;have K3:=Lib.hid hK3;have TT:=Lib.hid tt;clear hdn p3 hK3 tt t3;go_wp2;refine bodyPost_ret (v:=.tuple #[.int .u64 v,.int .i64 0]) ?_ rfl ⟨v,rfl,TT.out,K3.out,s2,m2,sp,P3.out,b1,b2,b3,b4,b5,b6⟩;simp[results,Tryz.results67,go_sem]
set_option maxHeartbeats 4000000 in
theorem pend63 {hb am:Nat} (h:ShotAt Q hb S am w):Calls Tryz.prog 63 #[.pointer (some ⟨hb,0,none⟩)] w fun e w'=>e=.returned (.bool (decide (S.s.cmp≤S.s.time)))∧Tch Q.ft w w'∧ShotAt Q hb S am w':=by
 have c0:w.cell? ⟨hb,0,none⟩=some (.pointer (some ⟨Q.pb,0,none⟩)):=h.blk.cell 0 rfl;have c1:w.cell? ⟨hb,1,none⟩=some (.int .i64 0):=h.blk.cell 1 rfl;have hpb:∀W,Below w.heap.size w W→Calls Tryz.prog 25 #[.pointer (some ⟨Q.pb,0,none⟩)] W fun e w'=>e=.returned (.pointer (some ⟨Q.b 16,0,none⟩))∧w'=W:=fun W hW=>pboard25 (h.port.below hW)
 have hl:∀W,Below w.heap.size w W→Calls Tryz.prog 104 #[.pointer (some ⟨Q.b 16,0,none⟩),.int .i64 0] W fun e w'=>e=.returned (.bool (decide (S.s.cmp≤S.s.time)))∧Tch Q.ft w w'∧ShotAt Q hb S am w':=fun W hW=>by
  have h2:=h.port.below hW;refine(bline h2.board).mono ?_;rintro e w' ⟨rfl,t,b⟩;have tq:Tch Q.ft w w':=(Tch.of_below hW).trans (t.mono (ksB_ft Q));exact⟨rfl,tq,h.portT tq (h2.boardT t b)⟩
 obtain⟨q,hq⟩:∃q,q=decide (S.s.cmp≤S.s.time):=⟨_,rfl⟩;rw[←hq] at hl ⊢;clear hq;go_enter Tryz.func63,Tryz.ntmps63;go_wp2
 go_region_with (first|(go_at_call 25;refine(hpb _ (by first|exact(Below.refl _ _).drew|exact Below.refl _ _)).mono ?_;rintro e w' ⟨rfl,rfl⟩)|(go_at_call 104;refine(hl _ (by first|exact(Below.refl _ _).drew|exact Below.refl _ _)).mono ?_;rintro e w' ⟨rfl,q1,q2⟩))
 all_goals go_wp2
 all_goals (refine bodyPost_ret (v:=.bool q) ?_ rfl ⟨rfl,q1,q2⟩)
 all_goals simp[results,Tryz.results63,go_sem]
end
theorem tabs_tch {X:Nat→Prop} {w w':World} (h:Tabs w) (ht:Tch X w w') (hx:∀k,X k→8≤k):Tabs w':=by
 obtain⟨h8,⟨e,f,h1⟩,⟨e2,f2,h2⟩⟩:=h;exact⟨Nat.le_trans h8 ht.size,⟨e,f,(ht.block 0 (by omega) (fun h=>by have:=hx 0 h;omega)).trans h1⟩,⟨e2,f2,(ht.block 2 (by omega) (fun h=>by have:=hx 2 h;omega)).trans h2⟩⟩
structure AS where
 s:BT
 made:Nat
 sp:Int
 am:Nat
 left:Nat
 amlt:am<18446744073709551616
structure DeskAt (Q:QB) (hb:Nat) (a:AS) (w:World):Prop where
 shot:ShotAt Q hb ⟨a.s,a.made,a.sp⟩ a.am w
 made:a.made+a.left<4611686018427387904
 time:a.s.time+a.left*4294967296<4611686018427387904
 tabs:Tabs w
section
variable {Q:QB} {hb:Nat} {a:AS} {w w':World}
def DF (Q:QB) (hb:Nat):Nat→Prop:=fun r=>Q.ft r∨r=hb
theorem DeskAt.hi (h:DeskAt Q hb a w):∀k,DF Q hb k→8≤k:=by
 rintro k ((hk|rfl|⟨hn,rfl⟩)|rfl)
 ·exact h.shot.port.board.hi k hk
 ·exact h.shot.port.hi
 ·exact(h.shot.port.outg hn).2.2
 ·exact h.shot.hi
theorem DeskAt.lt (h:DeskAt Q hb a w):∀k,DF Q hb k→k<w.heap.size:=by
 rintro k (hk|rfl)
 ·exact h.shot.port.lt k hk
 ·exact h.shot.blk.lt
theorem DeskAt.tch (h:DeskAt Q hb a w) {X:Nat→Prop} (ht:Tch X w w') (hx:∀k,X k→¬DF Q hb k∧8≤k):DeskAt Q hb a w':=
 ⟨h.shot.tch ht hx,h.made,h.time,tabs_tch h.tabs ht (fun k e=>(hx k e).2)⟩
theorem DeskAt.below (h:DeskAt Q hb a w) (ht:Below w.heap.size w w'):DeskAt Q hb a w':=h.tch (X:=fun _=>False) (Tch.of_below ht) (fun k e=>e.elim)
theorem DeskAt.boardT (h:DeskAt Q hb a w) {s':BT} (ht:Tch (FT (ksB Q.b)) w w') (hb':BoardAt Q.b s' w') (hs:s'.time≤a.s.time):DeskAt Q hb { a with s:=s' } w':=by
 have h1:=h.time;exact⟨h.shot.portT (ht.mono fun r hr=>.inl hr) (h.shot.port.boardT ht hb'),h.made,by show s'.time+a.left*4294967296<_;omega,tabs_tch h.tabs ht (fun k e=>h.shot.port.board.hi k e)⟩
def ArmR (Q:QB) (a:AS) (d:Nat) (a':AS):Prop:=a'.am=d∧a'.s.cmp=d∧a.s.time≤a'.s.time∧(∀g,(∀n,Q.gap n≤g)→a'.s.time≤a.s.time+3*g)∧a.left=a'.left+3
theorem DeskAt.arm (h:DeskAt Q hb a w) {d:Nat} (hd:d<18446744073709551616) (hl:3≤a.left):Calls Tryz.prog 124 #[.pointer (some ⟨hb,0,none⟩),.int .u64 d] w fun e w'=>e=.returned (.int .i64 0)∧Tch (DF Q hb) w w'∧∃a',ArmR Q a d a'∧DeskAt Q hb a' w':=by
 have h1:=h.time;have h2:=h.made;have g0:=QB.gap_le h.shot.port a.made;have g1:=QB.gap_le h.shot.port (a.made+1);have g2:=QB.gap_le h.shot.port (a.made+1+1);have h8:=h.hi;refine(arm124 h.shot hd (by show a.made+3<_;omega) (by show a.s.time+(Q.gap a.made+Q.gap (a.made+1)+Q.gap (a.made+1+1))<_;omega)).mono ?_;rintro e w' ⟨rfl,ht,s2,sp,hs,e1,e2⟩;have e1':s2.time=a.s.time+(Q.gap a.made+Q.gap (a.made+1)+Q.gap (a.made+1+1)):=e1;refine⟨rfl,ht,⟨s2,a.made+3,sp,d,a.left-3,hd⟩,⟨rfl,e2,?_,?_,?_⟩,⟨hs,?_,?_,tabs_tch h.tabs ht h8⟩⟩
 ·show a.s.time≤s2.time
  omega
 ·intro g hg
  show s2.time≤_;have b0:=hg a.made;have b1:=hg (a.made+1);have b2:=hg (a.made+1+1);omega
 ·show a.left=a.left-3+3
  omega
 ·show a.made+3+(a.left-3)<_
  omega
 ·show s2.time+(a.left-3)*4294967296<_
  omega
end
def deskBI (Q:QB) (hb:Nat):BI where
 A:=AS
 S:=DeskAt Q hb
 ft:=DF Q hb
 pb:=Q.pb
 hb:=hb
 bb:=Q.b 16
 armed:=AS.am
 time:=fun a=>a.s.time
 cmp:=fun a=>a.s.cmp
 R:=ArmR Q
 left:=AS.left
 lf:=fun h=>by have:=h.2.2.2.2;omega
 alt:=AS.amlt
 tab:=fun h=>tabW_of h.tabs
 lt:=fun h=>h.lt
 keep:=fun h ht hx=>h.tch ht hx
 down:=fun h=>(down22 h.shot.port).mono fun e w' hx=>⟨hx.1,Tch.of_below hx.2,h.below hx.2⟩
 at_:=fun h=>(armed123 h.shot).mono fun e w' hx=>⟨hx.1,by rw[hx.2];exact Tch.refl _ _,by rw[hx.2];exact h⟩
 arm:=fun d hd hl h=>h.arm hd hl
 tm:=fun{a w} h=>(btime h.shot.port.board).mono fun e w' hx=>⟨hx.1,hx.2.1.mono fun r hr=>.inl (.inl hr),h.boardT (s':=a.s) hx.2.1 hx.2.2 (Nat.le_refl _)⟩
 cp:=fun{a w} h=>(bcmp h.shot.port.board).mono fun e w' hx=>⟨hx.1,hx.2.1.mono fun r hr=>.inl (.inl hr),h.boardT (s':=a.s) hx.2.1 hx.2.2 (Nat.le_refl _)⟩
 bd:=fun h=>(pboard25 h.shot.port).mono fun e w' hx=>⟨hx.1,by rw[hx.2];exact Tch.refl _ _,by rw[hx.2];exact h⟩
 lv:=fun{a w} h=>(lives_any w h.tabs).mono fun e w' hx=>⟨hx.1,Tch.of_below hx.2,h.below hx.2⟩
section
variable {Q:QB} {hb:Nat} {B:WB} {Z:SB} {a:AS} {S:WS} {w w':World}
theorem DeskAt.pend (h:DeskAt Q hb a w):Calls Tryz.prog 63 #[.pointer (some ⟨hb,0,none⟩)] w fun e w'=>e=.returned (.bool (decide (a.s.cmp≤a.s.time)))∧Tch (DF Q hb) w w'∧DeskAt Q hb a w':=by
 refine(pend63 h.shot).mono ?_;rintro e w' ⟨rfl,t,hs⟩;have t2:Tch (DF Q hb) w w':=t.mono fun r e=>.inl e;exact⟨rfl,t2,hs,h.made,h.time,tabs_tch h.tabs t2 h.hi⟩
theorem spend27 (h:SvcAt (deskBI Q hb) B Z a S w):Calls Tryz.prog 27 #[.pointer (some ⟨Z.b,0,none⟩)] w fun e w'=>e=.returned (.bool (decide (a.s.cmp≤a.s.time)))∧Tch (DF Q hb) w w'∧SvcAt (deskBI Q hb) B Z a S w':=by
 have c2:w.cell? ⟨Z.b,2,none⟩=some (.pointer (some ⟨hb,0,none⟩)):=h.blk.cell 2 rfl;have hd:DeskAt Q hb a w:=h.board;have hp:=hd.pend;obtain⟨q,hq⟩:∃q,q=decide (a.s.cmp≤a.s.time):=⟨_,rfl⟩;rw[←hq] at hp ⊢;clear hq;go_enter Tryz.func27,Tryz.ntmps27
 go_wp2_with (go_at_call 63;fail)
 refine hp.mono ?_;rintro e w1 ⟨rfl,t1,d1⟩;have hs:=h.boardT t1 d1;clear hp;go_wp2;refine bodyPost_ret (v:=.bool q) ?_ rfl ⟨rfl,t1,hs⟩;simp[results,Tryz.results27,go_sem]
theorem snow67 (h:SvcAt (deskBI Q hb) B Z a S w) {G:Nat} (hG:∀n,Q.gap n≤G) (hG2:G≤4294967296) (hl:9≤a.left) {kb:Nat} {last:Value} (hK:Blk w kb #[.pointer (some ⟨Q.pb,0,none⟩),last] 207) (hk:¬DF Q hb kb∧¬B.all kb∧kb≠Z.b∧8≤kb) :
 Calls Tryz.prog 67 #[.pointer (some ⟨kb,0,none⟩)] w fun e w'=>∃v:Nat,e=.returned (.tuple #[.int .u64 v,.int .i64 0])∧Tch (fun r=>DF Q hb r∨r=kb) w w'∧Blk w' kb #[.pointer (some ⟨Q.pb,0,none⟩),.int .u64 v] 207 ∧
  ∃a':AS,SvcAt (deskBI Q hb) B Z a' S w'∧a.s.time≤v∧v≤a'.s.time∧a'.s.time≤a.s.time+G*9∧a'.s.cmp=a.s.cmp∧a'.am=a.am∧a.left=a'.left+9:=by
 have hd:DeskAt Q hb a w:=h.board;have h1:=hd.time;have h2:=hd.made
 have hG9:G*9≤9*4294967296:=by omega
 refine(now67 hd.shot.port hG (by show a.made+9<_;omega) (by show a.s.time+G*9<_;omega) hK (fun e=>hk.1 (.inl e)) hk.2.2.2).mono ?_;rintro e w' ⟨v,rfl,t,hK',s2,m2,sp,p,b1,b2,b3,b4,b5,b6⟩;have b3':s2.time≤a.s.time+G*9:=b3;have b6':m2≤a.made+9:=b6;have t2:Tch (fun r=>DF Q hb r∨r=kb) w w':=t.mono fun r e=>e.imp .inl id;have hsl:=h.lt;have hsb:ShotAt Q hb ⟨s2,m2,sp⟩ a.am w':=⟨p,(t.block _ hd.shot.blk.lt (by rintro (e|e);exact hd.shot.out e;exact hk.1 (.inr e.symm))).trans hd.shot.blk,hd.shot.out,hd.shot.hi⟩;refine⟨v,rfl,t2,hK',⟨s2,m2,sp,a.am,a.left-9,a.amlt⟩,⟨(t2.block _ hsl (by rintro (e|e);exact h.out e;exact hk.2.2.1 e.symm)).trans h.blk,h.wheel.tch t2 (fun k hk' e=>?_),⟨hsb,?_,?_,tabs_tch hd.tabs t2 (fun k e=>?_)⟩,h.out,h.outs,h.own,h.hi⟩,b1,b2,b3,b4,rfl,?_⟩
 ·rcases e with e|e
  ·exact h.outs k hk' e
  ·exact hk.2.1 (e ▸ hk')
 ·show m2+(a.left-9)<_
  omega
 ·show s2.time+(a.left-9)*4294967296<_
  omega
 ·rcases e with e|e
  ·exact hd.hi k e
  ·exact e ▸ hk.2.2.2
 ·show a.left=a.left-9+9
  omega
end
end Go.Proofs.YtkndlfdpmpdihaaGreatDoor
namespace Go.Proofs.YtkndlfdpmpdihaaGreatDoor
open Go.RowKit Go.Ev Go.Mv
set_option linter.unusedVariables false
set_option linter.unusedSimpArgs false
set_option maxRecDepth 100000
set_option maxHeartbeats 1000000 in
theorem of121 (n:Nat) (hn:n<18446744073709551616) (w:World):Calls Tryz.prog 121 #[.int .u64 n] w fun e w'=>e=.returned (.agg #[.int .u64 (n/4096:Nat),.int .u64 (n%4096:Nat)])∧Below w.heap.size w w':=by
 have hX:=Blk.new w #[.int .u64 0,.int .u64 0] 238;have hB:Below w.heap.size w (w.alloc (.cells #[.int .u64 0,.int .u64 0] 238)):=(Below.refl _ w).alloc (Nat.le_refl _) _;have hs:=split_any n hn (w.alloc (.cells #[.int .u64 0,.int .u64 0] 238));have hu:IntKind.u64.wrap ((n%4096:Nat):Int)=((n%4096:Nat):Int):=u64n _ (by omega);obtain⟨a,ha⟩:∃a,a=n/4096:=⟨_,rfl⟩;obtain⟨b,hb⟩:∃b,b=n%4096:=⟨_,rfl⟩;rw[←ha,←hb] at hs;rw[←hb] at hu;rw[←ha,←hb];clear ha hb;go_enter Tryz.func121,Tryz.ntmps121
 go_wp2_with (go_at_call 189;fail)
 refine hs.mono ?_;rintro e w1 ⟨rfl,rfl⟩;have hY:=Blk.new w #[.int .u64 a,.int .u64 b] 238;have r0:(w.alloc (.cells #[.int .u64 a,.int .u64 b] 238)).cell? ⟨w.heap.size,0,none⟩=some (.int .u64 a):=hY.cell 0 rfl;have r1:(w.alloc (.cells #[.int .u64 a,.int .u64 b] 238)).cell? ⟨w.heap.size,1,none⟩=some (.int .u64 b):=hY.cell 1 rfl;have hB2:Below w.heap.size w (w.alloc (.cells #[.int .u64 a,.int .u64 b] 238)):=(Below.refl _ w).alloc (Nat.le_refl _) _;clear hs;go_wp2;refine bodyPost_ret (v:=.agg #[.int .u64 a,.int .u64 b]) ?_ rfl ⟨rfl,hB2⟩;simp[results,Tryz.results121,go_sem]
end Go.Proofs.YtkndlfdpmpdihaaGreatDoor
namespace Go.Proofs.YtkndlfdpmpdihaaGreatDoor
open Go.RowKit Go.Ev Go.Mv
set_option linter.unusedVariables false
set_option linter.unusedSimpArgs false
def UU (l s:Int):Value:=.agg #[.int .u64 l,.int .u64 s]
theorem eq238 (a b c d:Int) (w:World):(Op.equal 238 (UU a b) (UU c d)).run Tryz.prog w=.ok (a==c&&b==d) w:=by
 have e3:∀(a b:Int) (w:World),(Op.equalIn 9999 37 (.int .u64 a) (.int .u64 b)).run Tryz.prog w=.ok (a==b) w:=fun a b w=>run_equalIn_int w 9998 37 .u64 .u64 _ _ Tryz.underlying37
 have p1:∀(m n:Int) (w:World),(part 37 #[.int .u64 m,.int .u64 n] 0).run Tryz.prog w=.ok (.int .u64 m) w:=fun m n w=>by kernel_rfl
 have p2:∀(m n:Int) (w:World),(part 37 #[.int .u64 m,.int .u64 n] 1).run Tryz.prog w=.ok (.int .u64 n) w:=fun m n w=>by kernel_rfl
 show (Op.equalIn (9999+1) 238 (UU a b) (UU c d)).run Tryz.prog w=_;rw[Op.equalIn];simp only[Sem.run_bind,run_underlying Tryz.underlying238,Result.andThen_ok,UU];simp;have hr:List.range' 0 2=[0,1]:=rfl;rw[hr]
 cases hab:(a==c)<;>cases hcd:(b==d)<;>simp[p1,p2,e3,hab,hcd]
def lookU (a b:Int):List MapEntry→Nat→Option (Nat×Value)
 | [],_=>none
 |e::es,i=>match e.key with
   |.agg ⟨[.int .u64 c,.int .u64 d]⟩=>if a=c∧b=d then some (i,e.val) else lookU a b es (i+1)
   |_=>none
theorem find238 {a b:Int}:∀(es:List MapEntry) (i:Nat) (w:World),(∀e∈es,∃c d,e.key=UU c d)→(Instr.findAsking 238 (UU a b) es i).run Tryz.prog w=.ok (lookU a b es i) w
 | [],i,w,h=>rfl
 |e::es,i,w,h=>by
   obtain⟨c,d,hb⟩:=h e List.mem_cons_self;have ih:=find238 (a:=a) (b:=b) es (i+1) w (fun x hx=>h x (List.mem_cons_of_mem _ hx));unfold Instr.findAsking lookU;rw[Sem.run_bind,hb,eq238];simp only[Result.andThen_ok,UU]
   by_cases hab:a=c∧b=d
   ·obtain⟨rfl,rfl⟩:=hab
    simp
   ·have h1:(a==c&&b==d)=false:=by
     rcases Classical.em (a=c) with h|h
     ·have:b≠d:=fun x=>hab ⟨h,x⟩
      simp[this]
     ·simp[h]
    rw[h1];simp only[if_neg hab];exact ih
theorem findKey238 {a b:Int} (es:List MapEntry) (w:World) (h:∀e∈es,∃c d,e.key=UU c d):(Instr.findKey 238 (UU a b) es).run Tryz.prog w=.ok (lookU a b es 0) w:=by
 unfold Instr.findKey;simp only[Sem.run_bind,run_underlying Tryz.underlying238,Result.andThen_ok]
 cases es with
 |nil=>rfl
 |cons e es=>
   obtain⟨c,d,hb⟩:=h e List.mem_cons_self;simp only[Instr.findNow,hb,UU,Instr.sameNow];exact find238 _ 0 w h
theorem checkKey238 (empty:Bool) (a b:Int) (w:World):(Instr.checkKey empty 10000 238 (UU a b)).run Tryz.prog w=.ok () w:=by
 cases empty<;>kernel_rfl
theorem look_u {t et:TypeId} {r:Nat} {fs:Array MapEntry} {c:Nat} {w:World} {a b:Int} {ok:Bool} {z:Value} (hu:Tryz.prog.underlying t=some (.map 238 et)) (hz:∀w,(zeroValue et).run Tryz.prog w=.ok z w) (hr:w.heap[r]?=some (.map fs c)) (hk:∀e∈fs.toList,∃c d,e.key=UU c d) :
 (Instr.lookup t (.map (some r)) (UU a b) ok).run Tryz.prog w=match lookU a b fs.toList 0 with
  |some (_,v)=>.ok (if ok then .tuple #[v,.bool true] else v) w
  |none=>.ok (if ok then .tuple #[z,.bool false] else z) w:=by
 have hf:=fun w=>findKey238 (a:=a) (b:=b) fs.toList w hk;generalize lookU a b fs.toList 0=q at hf ⊢;rw[run_look hu (.inr ⟨r,c,rfl,hr⟩) (fun w=>checkKey238 _ a b w) hf]
 cases q with
 |some q=>rfl
 |none=>show ((zeroValue et).run Tryz.prog w).andThen _=_;rw[hz];rfl
theorem lookU_key {a b:Int}:∀(es:List MapEntry) (i:Nat) {j:Nat} {v:Value},lookU a b es i=some (j,v)→∃e,i≤j∧es[j-i]?=some e∧e.key=UU a b∧e.val=v
 | [],i,j,v,h=>by simp[lookU] at h
 |e::es,i,j,v,h=>by
   unfold lookU at h;split at h
   ·rename_i c d hb
    by_cases hab:a=c∧b=d
    ·obtain⟨rfl,rfl⟩:=hab
     rw[if_pos ⟨rfl,rfl⟩] at h;injection h with h;injection h with h1 h2;subst h1 h2;exact⟨e,Nat.le_refl _,by simp,hb,rfl⟩
    ·rw[if_neg hab] at h
     obtain⟨x,h1,h2,h3⟩:=lookU_key es (i+1) h;refine⟨x,by omega,?_,h3⟩
     have:j-i=(j-(i+1))+1:=by omega
     rw[this,List.getElem?_cons_succ,h2]
   ·exact absurd h (by simp)
theorem bitsU (a b:Int):Instr.sameBits 10000 (UU a b) (UU a b)=true:=by
 show Instr.sameBits (9998+2) _ _=true;simp[Instr.sameBits,UU]
def UP (k:Int×Int):Value:=UU k.1 k.2
theorem UP_inj (a b:Int×Int) (h:UP a=UP b):a=b:=by
 simp only[UP,UU,Value.agg.injEq] at h;have h1:=congrArg (fun x:Array Value=>x[0]?) h;have h2:=congrArg (fun x:Array Value=>x[1]?) h;simp at h1 h2;exact Prod.ext h1 h2
theorem lookU_none {a b:Int}:∀ {es:List MapEntry} {i:Nat},(∀e∈es,∃k,e.key=UP k)→lookU a b es i=none→valAt es (UU a b)=none
 | [],i,_,_=>rfl
 |e::es,i,hk,h=>by
   obtain⟨⟨c,d⟩,hb⟩:=hk e List.mem_cons_self;unfold lookU at h;rw[hb] at h;simp only[UP,UU] at h
   by_cases hab:a=c∧b=d
   ·rw[if_pos hab] at h;cases h
   ·rw[if_neg hab] at h
    unfold valAt;rw[hb,if_neg (fun q=>hab (by have:=UP_inj (c,d) (a,b) q;cases this;exact⟨rfl,rfl⟩))];exact lookU_none (fun x hx=>hk x (List.mem_cons_of_mem _ hx)) h
theorem findsU {es:List MapEntry} (hk:∀e∈es,∃k,e.key=UP k) (k:Int×Int):Finds UP es k (lookU k.1 k.2 es 0):=by
 cases h:lookU k.1 k.2 es 0 with
 |none=>exact lookU_none hk h
 |some q=>
   obtain⟨i,v⟩:=q;obtain⟨e,_,h1,h2,h3⟩:=lookU_key _ _ h;exact⟨e,by simpa using h1,h2,h3⟩
theorem keysUP {es:List MapEntry} (hk:∀e∈es,∃k,e.key=UP k):∀e∈es,∃c d,e.key=UU c d:=fun e he=>let ⟨k,h⟩:=hk e he;⟨k.1,k.2,h⟩
section
variable {t et:TypeId} {w:World} {r n:Nat} {z:Value}
theorem _root_.Go.Mv.MapIs.lookU {f:Int×Int→Option Value} (h:MapIs UP w r f n) (hu:Tryz.prog.underlying t=some (.map 238 et)) (hz:∀w,(zeroValue et).run Tryz.prog w=.ok z w) (k:Int×Int) (ok:Bool) :
 (Instr.lookup t (.map (some r)) (UU k.1 k.2) ok).run Tryz.prog w=.ok (if ok then .tuple #[(f k).getD z,.bool (f k).isSome] else(f k).getD z) w:=by
 obtain⟨es,c,h1,h2⟩:=h;have hf:=h2.finds (findsU h2.key k);rw[look_u hu hz h1 (keysUP h2.key),←hf]
 cases Go.Proofs.YtkndlfdpmpdihaaGreatDoor.lookU k.1 k.2 es.toList 0<;>rfl
theorem _root_.Go.Mv.MapIs.entU {f:Int×Int→Option Value} (h:MapIs UP w r f n) (hu:Tryz.prog.underlying t=some (.map 238 et)) {inf:TypeInfo} (hz:Tryz.prog.info? et=some inf∧inf.zero=some z) (a:Int×Int) :
 ∃o s,(∀W,W.heap[r]?=w.heap[r]?→(Instr.mapEntry t (.map (some r)) (UP a)).run Tryz.prog W=.ok (.tuple #[(f a).getD z,s]) (putO W r o))∧(∀W,W.heap[r]?=some o→(Instr.lookup t (.map (some r)) (UP a) false).run Tryz.prog W=.ok ((f a).getD z) W) ∧
  ∀v,∃o',(∀w',w'.heap[r]?=some o→(Instr.entryStore t (.map (some r)) s v).run Tryz.prog w'=.ok () (putO w' r o'))∧∀w'',w''.heap[r]?=some o'→MapIs UP w'' r (fset f a (some v)) (if (f a).isSome then n else n+1):=by
 obtain⟨es,c,h1,h2⟩:=h;have hq:=findsU h2.key a;have hf:=h2.finds hq
 have hent:=fun(W:World) (hW:W.heap[r]?=w.heap[r]?)=>run_ent (P:=Tryz.prog) (t:=t) (key:=UP a) (inf:=inf) (z:=z) hu (hW.trans h1) (fun w=>checkKey238 _ a.1 a.2 w) (fun w=>findKey238 (a:=a.1) (b:=a.2) es.toList w (keysUP h2.key)) (by
  intro i u hiu;obtain⟨e,_,h5,h6,_⟩:=lookU_key _ _ hiu;rw[Nat.sub_zero,Array.getElem?_toList] at h5;rw[h5];simp only[Option.map_some,Option.getD_some,h6]
  exact bitsU a.1 a.2) (fun _=>hz)
 generalize Go.Proofs.YtkndlfdpmpdihaaGreatDoor.lookU a.1 a.2 es.toList 0=q at hq hf hent
 cases q with
 |none=>
   have hva:valAt es.toList (UP a)=none:=hq;refine⟨_,_,fun W hW=>by rw[←hf];exact hent W hW,fun W hW=>?_,fun v=>?_⟩
   ·have hp:=h2.push UP_inj (a:=a) hf.symm z
    have h3:MapIs UP W r (fset f a (some z)) (n+1):=⟨_,_,hW,by simpa using hp⟩;have:=h3.lookU hu (run_zero hz.1 hz.2) a false;rw[fset_same] at this;show (Instr.lookup t (.map (some r)) (UU a.1 a.2) false).run Tryz.prog W=_;rw[this,←hf];rfl
   have hidx:(es.push { key:=UP a,val:=z,born:=c }).findIdx? (fun e=>(e.born:Int)==(c:Int))=some es.size:=by
    have hp:=h2.push UP_inj (a:=a) hf.symm z;have:=findIdx_born (es:=es.push { key:=UP a,val:=z,born:=c }) (i:=es.size) (e:={ key:=UP a,val:=z,born:=c }) (by simpa using hp.born) (by simp);exact this
   refine⟨.map ((es.push { key:=UP a,val:=z,born:=c }).modify es.size fun e=>{ e with val:=v }) (c+1),fun w' hw'=>?_,fun w'' hw''=>⟨_,_,hw'',?_⟩⟩
   rotate_left
   ·rw[←hf]
    have hp:=h2.push UP_inj (a:=a) hf.symm z;have:=hp.mod UP_inj (a:=a) (i:=es.size) (e:={ key:=UP a,val:=z,born:=c }) (by simp) rfl (g:=fun e=>{ e with val:=v }) (v:=v) rfl rfl (fun e=>rfl)
    have e1:fset (fset f a (some z)) a (some v)=fset f a (some v):=by
     funext x
     by_cases hx:x=a
     ·subst hx;rw[fset_same,fset_same]
     ·rw[fset_ne _ _ hx,fset_ne _ _ hx,fset_ne _ _ hx]
    rw[e1] at this
    have e2:((es.push { key:=UP a,val:=z,born:=c }).modify es.size fun e=>{ e with val:=v }).toList=(es.toList++[({ key:=UP a,val:=z,born:=c }:MapEntry)]).modify es.size fun e=>{ e with val:=v }:=by simp
    rw[e2];simpa using this
   ·simp only[Instr.entryStore,Sem.run_bind,getObj,Sem.run,hw',asInt,asIntOf,goInt,Sem.run_pure,Result.andThen_ok,hidx]
    exact run_setObj hw' _
 |some q=>
   obtain⟨i,u⟩:=q;obtain⟨e,g1,g2,g3⟩:=hq
   have g1':es[i]?=some e:=by simpa using g1
   have em:(es.modify i fun e=>{ e with key:=UP a })=es:=by
    apply Array.toList_inj.1;rw[Array.toList_modify];apply List.ext_getElem?;intro j;rw[List.getElem?_modify]
    by_cases hij:i=j
    ·subst hij
     rw[g1];cases e;simp at g2;simp[g2]
    ·cases hj:es.toList[j]?<;>simp[hij]
   refine⟨_,_,fun W hW=>by rw[←hf];exact hent W hW,fun W hW=>?_,fun v=>?_⟩
   ·rw[em] at hW
    have h3:MapIs UP W r f n:=⟨_,_,hW,h2⟩;exact h3.lookU hu (run_zero hz.1 hz.2) a false
   have hidx:=findIdx_born h2.born g1;refine⟨.map (es.modify i fun e=>{ e with val:=v }) c,fun w' hw'=>?_,fun w'' hw''=>⟨_,_,hw'',?_⟩⟩
   rotate_left
   ·rw[←hf]
    have:=h2.mod UP_inj g1 g2 (g:=fun e=>{ e with val:=v }) (v:=v) rfl rfl (fun e=>rfl);rw[Array.toList_modify];simpa using this
   ·rw[em] at hw'
    rw[g1'];simp only[Option.map_some,Option.getD_some];simp only[Instr.entryStore,Sem.run_bind,getObj,Sem.run,hw',asInt,asIntOf,goInt,Sem.run_pure,Result.andThen_ok,hidx];exact run_setObj hw' _
end
end Go.Proofs.YtkndlfdpmpdihaaGreatDoor
namespace Go.Proofs.YtkndlfdpmpdihaaGreatDoor
open Go.RowKit Go.Ev Go.Mv
set_option linter.unusedVariables false
set_option linter.unusedSimpArgs false
set_option maxRecDepth 100000
theorem under240:Tryz.prog.underlying 240=some (.map 238 3):=by kernel_rfl
theorem under68:Tryz.prog.underlying 68=some (.slice 71):=by kernel_rfl
theorem info71:(Tryz.prog.info? 71).map (fun i=>(i.zero,i.size,i.bytes))=some (some (.agg #[.int .u64 0,.int .u64 0,.int .u64 0,.int .i64 0]),4,32):=by kernel_rfl
theorem zero3:∀w,(zeroValue 3).run Tryz.prog w=.ok (.int .i64 0) w:=fun w=>by kernel_rfl
theorem info3a:∃inf,Tryz.prog.info? 3=some inf∧inf.zero=some (.int .i64 0):=by
 obtain⟨i0,hi,hz0,_⟩:=info_parts info3;exact⟨i0,hi,hz0⟩
theorem row_far {X:Nat→Prop} {w w':World} {base:Nat} {e:TypeId} {size n g cap:Nat} {xs:List Value} (h:w.ownsRow base e size (.slice (some ⟨g,0,none⟩) n cap) n xs) (ht:Tch X w w') (hx:¬X g):w'.ownsRow base e size (.slice (some ⟨g,0,none⟩) n cap) n xs:=by
 refine⟨h.1,?_⟩;rcases h.2 with⟨e1,_⟩|⟨g',cap',cur,e1,hb,hg,hr⟩
 ·cases e1
 ·cases e1
  exact .inr ⟨_,_,cur,rfl,hb,(ht.block _ (Array.getElem?_eq_some_iff.1 hg).1 hx).trans hg,hr⟩
section
variable {w:World}
set_option maxHeartbeats 8000000 in
theorem add69 {lb mb n h d t c:Nat} {v:Value} {f:Int×Int→Option Value} (hL:Blk w lb #[v,.map (some mb)] 242) (hm:MapIs UP w mb f n) (hne:lb≠mb) (hml:mb<w.heap.size) {nL m:Nat} {xs:List Value} (hv:w.ownsRow nL 71 4 v m xs) (hnL:nL≤w.heap.size) (hlb:lb<nL) (hmb:mb<nL) (hmm:m<1000000) (hh:h<18446744073709551616) (hc:c<4611686018427387904)
 (hf:(f (((h/4096:Nat):Int),((h%4096:Nat):Int))).getD (.int .i64 0)=.int .i64 (c:Int)) :
 Calls Tryz.prog 69 #[.pointer (some ⟨lb,0,none⟩),.int .u64 h,.int .u64 d,.int .u64 t] w fun e w'=>e=.returned (.agg #[.int .u64 h,.int .u64 d,.int .u64 t,.int .i64 ((c:Int)+1)])∧∃gg cap n4,w'.ownsRow nL 71 4 (.slice (some ⟨gg,0,none⟩) (m+1) cap) (m+1) (xs++#[.int .u64 h,.int .u64 d,.int .u64 t,.int .i64 ((c:Int)+1)].toList)∧Blk w' lb #[.slice (some ⟨gg,0,none⟩) (m+1) cap,.map (some mb)] 242 ∧
  Tch (fun r=>r=lb∨r=mb∨nL≤r) w w'∧Kept 71 nL w w'∧MapIs UP w' mb (fset f (((h/4096:Nat):Int),((h%4096:Nat):Int)) (some (.int .i64 ((c:Int)+1)))) n4:=by
 have hof:=of121 h hh;obtain⟨k1,hk1⟩:∃k1:Nat,k1=h/4096:=⟨_,rfl⟩;obtain⟨k2,hk2⟩:∃k2:Nat,k2=h%4096:=⟨_,rfl⟩;rw[←hk1,←hk2] at hof hf;rw[←hk1,←hk2];clear hk1 hk2 hh;have hlw:=hL.lt;go_enter Tryz.func69,Tryz.ntmps69;have hR:=Blk.new w #[.int .u64 0,.int .u64 0,.int .u64 0,.int .i64 0] 71;have hBr:Below w.heap.size w (w.alloc (.cells #[.int .u64 0,.int .u64 0,.int .u64 0,.int .i64 0] 71)):=(Below.refl _ w).alloc (Nat.le_refl _) _;obtain⟨rb,hrb⟩:∃rb,rb=w.heap.size:=⟨_,rfl⟩
 go_wp2_with (go_at_call 121;fail)
 refine(hof _).mono ?_;rintro e w1 ⟨rfl,hb1⟩;have hX2:=Blk.new w1 #[.int .u64 k1,.int .u64 k2] 238;have hR2:Blk (w1.alloc (.cells #[.int .u64 k1,.int .u64 k2] 238)) w.heap.size #[.int .u64 0,.int .u64 0,.int .u64 0,.int .i64 0] 71:=(hR.below hb1 hR.lt).below ((Below.refl _ _).alloc (Nat.le_refl _) _) (hR.below hb1 hR.lt).lt;have hB2:Below w.heap.size w (w1.alloc (.cells #[.int .u64 k1,.int .u64 k2] 238)):=(hBr.trans (hb1.mono hBr.size)).alloc (Nat.le_trans hBr.size hb1.size) _;have hL2:=hL.below hB2 hlw;have hm2:MapIs UP (w1.alloc (.cells #[.int .u64 k1,.int .u64 k2] 238)) mb f n:=hm.at (hB2.block _ hml);have hxw:w.heap.size<w1.heap.size:=Nat.lt_of_lt_of_le hR.lt hb1.size;obtain⟨xk,hxk⟩:∃xk,xk=w1.heap.size:=⟨_,rfl⟩
 have hx1:xk<(w1.alloc (.cells #[.int .u64 k1,.int .u64 k2] 238)).heap.size:=by rw[hxk];exact hX2.lt
 rw[←hxk] at hX2 hxw;have HXK:=Lib.hid hxk;clear hxk hof hR hBr hb1;go_wp2;rw[←HXK.out];generalize w1.alloc (.cells #[.int .u64 k1,.int .u64 k2] 238)=w2 at *;obtain⟨inf,hi1,hi2⟩:=info3a;obtain⟨o1,s,hr1,hlk,hr2⟩:=hm2.entU under240 ⟨hi1,hi2⟩ ((k1:Int),(k2:Int));obtain⟨o2,hr3,hmap⟩:=hr2 (.int .i64 ((c:Int)+1));rw[hf] at hr1 hlk;have hlo:=hm2.lookU under240 zero3 ((k1:Int),(k2:Int)) false;haveI:Nonempty (Thr (EntE w2 mb o1 o2)):=⟨⟨0,w2,Tch.refl _ _,rfl⟩⟩;have c1:∀x:Thr (EntE w2 mb o1 o2),x.w.cell? ⟨lb,1,none⟩=some (.map (some mb)):=EntE.cell hL2 hne 1 rfl
 have hxm:xk≠mb:=by omega
 have c2:∀x:Thr (EntE w2 mb o1 o2),x.w.cell? ⟨xk,0,none⟩=some (.int .u64 k1):=EntE.cell hX2 hxm 0 rfl;have c3:∀x:Thr (EntE w2 mb o1 o2),x.w.cell? ⟨xk,1,none⟩=some (.int .u64 k2):=EntE.cell hX2 hxm 1 rfl
 have hlook:∀(b:Nat) (W:World),b≤1→EntE w2 mb o1 o2 b W→(Instr.lookup 240 (.map (some mb)) (.agg #[.int .u64 k1,.int .u64 k2]) false).run Tryz.prog W=.ok (.int .i64 c) W:=by
  intro b W hb hW;rcases b with _|_|b
  ·have h5:=(hm2.at (w':=W) hW.2).lookU under240 zero3 ((k1:Int),(k2:Int)) false
   rw[hf] at h5;exact h5
  ·exact hlk W hW.2
  ·omega
 have hww:IntKind.i64.wrap ((c:Int)+1)=(c:Int)+1:=IntWalk.i64_in _ ⟨by omega,by omega⟩;have hml2:mb<w2.heap.size:=Nat.lt_of_lt_of_le hml hB2.size;refine wp_region_thr (EntE w2 mb o1 o2) 7 9 (by decide) (by kernel_rfl) (by kernel_rfl) ⟨(Tch.refl _ _).drew,rfl⟩ ?_
 (repeat (first|(refine lexT_skip (by rfl) (by decide) ?_;simp only[Act.put,List.setIfInBounds_toArray,List.set_cons_succ,List.set_cons_zero])|(refine lexT_want (by rfl) (by decide) (by rfl) ?_;intro K hK;go_big_quiet_op;refine hK _ ?_;clear hK K)))
 refine lexT_early (by rfl) (by decide) (by kernel_rfl) (.int .i64 c) (fun x hx=>does_look _ _ rfl x.h ?_) ?_
 ·exact hlook x.b x.w hx x.h
 simp only[Act.put,List.setIfInBounds_toArray,List.set_cons_succ,List.set_cons_zero]
 (repeat (first|(refine lexT_skip (by rfl) (by decide) ?_;simp only[Act.put,List.setIfInBounds_toArray,List.set_cons_succ,List.set_cons_zero])|(refine lexT_want (by rfl) (by decide) (by rfl) ?_;intro K hK;go_big_quiet_op;refine hK _ ?_;clear hK K)))
 refine lexT_turn1 (by rfl) (by rfl) (.tuple #[.int .i64 c,s]) (fun W hW=>?_) ?_
 ·have q0:=hr1 W hW.2
  unfold does
  go_simp
  rw[show Value.agg #[Value.int .u64 (k1:Int),Value.int .u64 (k2:Int)]=UP ((k1:Int),(k2:Int)) from rfl,q0];exact⟨⟨hW.1.put _ (.inl rfl),putO_at (Nat.lt_of_lt_of_le hml2 hW.1.size)⟩,rfl⟩
 simp only[Act.put,List.setIfInBounds_toArray,List.set_cons_succ,List.set_cons_zero]
 (repeat (first|(refine lexT_skip (by rfl) (by decide) ?_;simp only[Act.put,List.setIfInBounds_toArray,List.set_cons_succ,List.set_cons_zero])|(refine lexT_want (by rfl) (by decide) (by rfl) ?_;intro K hK;go_big_quiet_op;refine hK _ ?_;clear hK K)))
 refine lexT_turn2 (by rfl) (by rfl) (by decide) undef (fun W hW=>?_) ?_
 ·have q0:=hr3 W hW.2
  unfold does
  go_simp
  exact⟨⟨hW.1.put _ (.inl rfl),putO_at (Nat.lt_of_lt_of_le hml2 hW.1.size)⟩,rfl⟩
 simp only[Act.put,List.setIfInBounds_toArray,List.set_cons_succ,List.set_cons_zero];refine fun w4 hw4=>?_;have hm4:=hmap w4 hw4.2;obtain⟨n4,hn4⟩:∃n4,n4=(if (f ((k1:Int),(k2:Int))).isSome=true then n else n+1):=⟨_,rfl⟩;rw[←hn4] at hm4;clear hn4;have hL4:Blk w4 lb _ 242:=(hw4.1.block _ hL2.lt hne).trans hL2;have hX4:Blk w4 xk _ 238:=(hw4.1.block _ hX2.lt hxm).trans hX2;clear hr1 hlk hr2 hr3 hmap c1 c2 c3 hlook
 have hS:∀W,Below w4.heap.size w4 W→W.cell? ⟨lb,1,none⟩=some (.map (some mb))∧W.cell? ⟨xk,0,none⟩=some (.int .u64 k1)∧W.cell? ⟨xk,1,none⟩=some (.int .u64 k2)∧(Instr.lookup 240 (.map (some mb)) (.agg #[.int .u64 k1,.int .u64 k2]) false).run Tryz.prog W=.ok (.int .i64 ((c:Int)+1)) W:=by
  intro W hW;have h5:=(hm4.at (w':=W) (hW.block _ (Nat.lt_of_lt_of_le hml2 hw4.1.size))).lookU under240 zero3 ((k1:Int),(k2:Int)) false;rw[fset_same] at h5;exact⟨(hL4.below hW hL4.lt).cell 1 rfl,(hX4.below hW hX4.lt).cell 0 rfl,(hX4.below hW hX4.lt).cell 1 rfl,h5⟩
 have hB4:Tch (fun r=>r=mb) w w4:=(Tch.of_below hB2).trans hw4.1;have hX5:=Blk.new w4.drew #[.int .u64 h,.int .u64 d,.int .u64 t,.int .i64 ((c:Int)+1)] 71;have hY5:=Blk.new w4.drew #[.int .u64 0,.int .u64 0,.int .u64 0,.int .i64 0] 71;have q0:=hY5.cell 0 rfl;have q1:=hY5.cell 1 rfl;have q2:=hY5.cell 2 rfl;have q3:=hY5.cell 3 rfl;have g0:=hY5.free 0;have g1:=hY5.free 1;have g2:=hY5.free 2;have g3:=hY5.free 3;go_wp2
 go_cut [10] from 16 (fun p wx=>p=.pointer (some ⟨w4.heap.size,0,none⟩)∧wx=(w4.alloc (.cells #[.int .u64 h,.int .u64 d,.int .u64 t,.int .i64 ((c:Int)+1)] 71)).drew)
 case first=>
  go_region_held3 (fun W=>W.cell? ⟨lb,1,none⟩=some (.map (some mb))∧W.cell? ⟨xk,0,none⟩=some (.int .u64 k1)∧W.cell? ⟨xk,1,none⟩=some (.int .u64 k2)∧(Instr.lookup 240 (.map (some mb)) (.agg #[.int .u64 k1,.int .u64 k2]) false).run Tryz.prog W=.ok (.int .i64 ((c:Int)+1)) W) (exact hS _ (by first|exact(Below.refl _ _).drew|exact((Below.refl _ _).drew).alloc (Nat.le_refl _) _)) (fail)
  all_goals (go_wp2_with fail)
  all_goals go_meet
  all_goals exact⟨rfl,rfl⟩
 case rest=>
  obtain⟨rfl,rfl⟩:=hcut;clear q0 q1 q2 q3 g0 g1 g2 g3 hX5 hY5 hS;have hR4:Blk w4 w.heap.size #[.int .u64 0,.int .u64 0,.int .u64 0,.int .i64 0] 71:=(hw4.1.block _ hR2.lt (by omega)).trans hR2;have hX6:=Blk.new w4 #[.int .u64 h,.int .u64 d,.int .u64 t,.int .i64 ((c:Int)+1)] 71;have hB6:Below w4.heap.size w4 (w4.alloc (.cells #[.int .u64 h,.int .u64 d,.int .u64 t,.int .i64 ((c:Int)+1)] 71)):=(Below.refl _ _).alloc (Nat.le_refl _) _;have hL6:=hL4.below hB6 hL4.lt;have hv6:=rows_tch (rows_tch hv hB4 (fun k e=>e ▸ hmb)) (Tch.of_below (S:=fun _=>False) hB6) (fun k e=>e.elim);have hR6:=hR4.below hB6 hR4.lt;have hm6:=hm4.at (hB6.block _ (Nat.lt_of_lt_of_le hml2 hw4.1.size));have hB6':Tch (fun r=>r=mb) w (w4.alloc (.cells #[.int .u64 h,.int .u64 d,.int .u64 t,.int .i64 ((c:Int)+1)] 71)):=hB4.trans (Tch.of_below hB6);have HK5:=Lib.hid (show Kept 71 nL w (w4.alloc (.cells #[.int .u64 h,.int .u64 d,.int .u64 t,.int .i64 ((c:Int)+1)] 71)) from Kept.tch hB6' (fun k e=>by subst e;omega));have hz6:nL≤(w4.alloc (.cells #[.int .u64 h,.int .u64 d,.int .u64 t,.int .i64 ((c:Int)+1)] 71)).heap.size:=Nat.le_trans hnL (Nat.le_trans hB4.size hB6.size);generalize w4.alloc (.cells #[.int .u64 h,.int .u64 d,.int .u64 t,.int .i64 ((c:Int)+1)] 71)=w5 at *;obtain⟨i0,ji,js0,js1,js2⟩:=info_parts info71;have b0:w5.cell? ⟨w4.heap.size,0,none⟩=some (.int .u64 h):=hX6.cell 0 rfl;have b1:w5.cell? ⟨w4.heap.size,1,none⟩=some (.int .u64 d):=hX6.cell 1 rfl;have b2:w5.cell? ⟨w4.heap.size,2,none⟩=some (.int .u64 t):=hX6.cell 2 rfl;have b3:w5.cell? ⟨w4.heap.size,3,none⟩=some (.int .i64 ((c:Int)+1)):=hX6.cell 3 rfl;have b4:w5.cell? ⟨lb,0,none⟩=some v:=hL6.cell 0 rfl;have hBA:Below w5.heap.size w5 (w5.drew.alloc (.cells #[.int .u64 h,.int .u64 d,.int .u64 t,.int .i64 ((c:Int)+1)] 71)).drew:=(((Below.refl _ w5).drew).alloc (Nat.le_refl _) _).drew;have hLA:=hL6.below hBA hL6.lt;have hvn:v.ownBlock≠some lb:=fun e=>(ownsRow_apart hv6 (j:=lb) (.inl hlb)).elim (fun e2=>by rw[e2] at e;cases e) (fun e2=>e2 e);have hLAl:=hLA.lt;have hXA:=hX6.below hBA hX6.lt;have hXAl:=hXA.lt;have hRA:=hR6.below hBA hR6.lt;have hRAl:=hRA.lt
  have hvx:v.ownBlock≠some w4.heap.size:=fun e=>by have:=(hv.lt _ e).2;have:=hB4.size;omega
  have hvr:v.ownBlock≠some w.heap.size:=fun e=>by have:=(hv.lt _ e).2;omega
  have b6:(w5.alloc (.cells #[.int .u64 h,.int .u64 d,.int .u64 t,.int .i64 ((c:Int)+1)] 71)).cell? ⟨lb,0,none⟩=some v:=hLA.cell 0 rfl;go_wp2
  go_cut [] from 16 (fun wx=>∃gg cap n4,gg≠w.heap.size∧wx.ownsRow nL 71 4 (.slice (some ⟨gg,0,none⟩) (m+1) cap) (m+1) (xs++#[.int .u64 h,.int .u64 d,.int .u64 t,.int .i64 ((c:Int)+1)].toList)∧Blk wx lb #[.slice (some ⟨gg,0,none⟩) (m+1) cap,.map (some mb)] 242∧Tch (fun r=>r=lb∨r=mb∨nL≤r) w wx∧Kept 71 nL w wx∧MapIs UP wx mb (fset f ((k1:Int),(k2:Int)) (some (.int .i64 ((c:Int)+1)))) n4∧Blk wx w4.heap.size #[.int .u64 h,.int .u64 d,.int .u64 t,.int .i64 ((c:Int)+1)] 71∧Blk wx w.heap.size #[.int .u64 0,.int .u64 0,.int .u64 0,.int .i64 0] 71)
  case first=>
   go_region_law (first|(refine step_append_lies _ (by rfl) _ _ _ (by rfl) nL 71 i0 _ 4 32 under68 ji js0 js1 js2 rfl (by omega) v m xs (by rfl) ((hv6.drew.alloc _).drew) ⟨w5.heap.size,0,none⟩ 1 1 [.int .u64 h,.int .u64 d,.int .u64 t,.int .i64 ((c:Int)+1)] (by rfl) (by rfl) (World.news_of_block (cs:=#[.int .u64 h,.int .u64 d,.int .u64 t,.int .i64 ((c:Int)+1)]) (t:=71) (fr:=(0,0)) (heap_alloc_new w5 _)) (by simp[Value.oneCell']) (by omega) (by unfold maxLen;omega) (by omega) (by simp;omega) (w5.heap.size+1) (by simp) ?_;intro gg cap w1 hown1 hgrow hat hlt;have hL7:Blk w1 lb #[v,.map (some mb)] 242:=(hgrow.block lb hLAl (fun e=>hvn e.symm)).trans hLA;have c7:w1.cell? ⟨lb,0,none⟩=some v:=hL7.cell 0 rfl;have f7:=hL7.free 0;have hX7:Blk w1 w4.heap.size #[.int .u64 h,.int .u64 d,.int .u64 t,.int .i64 ((c:Int)+1)] 71:=(hgrow.block _ hXAl (fun e=>hvx e.symm)).trans hXA;have hR7:Blk w1 w.heap.size #[.int .u64 0,.int .u64 0,.int .u64 0,.int .i64 0] 71:=(hgrow.block _ hRAl (fun e=>hvr e.symm)).trans hRA;have ht7:Tch (fun r=>nL≤r) w5 w1:=(Tch.of_below hBA).trans (tch_grown hgrow (fun r e=>(hv6.lt r e).1));have hk7:Kept 71 nL w w1:=(HK5.out.trans (Kept.tch (Tch.of_below (S:=fun _=>False) hBA) (fun k e=>e.elim))).trans (Kept.grown ((hv6.drew.alloc _).drew) hgrow)))
   all_goals (go_wp2_with fail)
   all_goals go_meet
   all_goals (
    have hts:Tch (fun r=>r=lb) w1 (w1.setCell ⟨lb,0,none⟩ (.slice (some ⟨gg,0,none⟩) (m+1) cap)):=(Tch.refl _ w1).setCell _ (.inl rfl);have hw04:w.heap.size≤w4.heap.size:=hB4.size;have hw05:w.heap.size≤w5.heap.size:=hB6'.size
    have hgw:gg≠w.heap.size:=by
     rintro rfl;rcases hat with e|e
     ·exact hvr e
     ·omega
    have hmb5:mb<w5.heap.size:=by have:=hB6'.size;omega
    exact⟨gg,cap,n4,hgw,rows_tch hown1 hts (fun k e=>by subst e;exact hlb),hL7.set 0 _,((hB6'.mono fun r e=>.inr (.inl e)).trans (ht7.mono fun r e=>.inr (.inr e))).trans (hts.mono fun r e=>.inl e),hk7.trans (Kept.tch hts (fun k e=>by subst e;omega)),(hm6.at (ht7.block _ hmb5 (by omega))).at (hts.block _ (Nat.lt_of_lt_of_le hmb5 ht7.size) (fun e=>hne e.symm)),(hts.block _ hX7.lt (by omega)).trans hX7,(hts.block _ hR7.lt (by omega)).trans hR7⟩)
  case rest=>
   obtain⟨gg,cap,n5,r0,r1,r2,r3,rk,r4,r5,r6⟩:=hcut;have d0:wc.cell? ⟨w4.heap.size,0,none⟩=some (.int .u64 h):=r5.cell 0 rfl;have d1:wc.cell? ⟨w4.heap.size,1,none⟩=some (.int .u64 d):=r5.cell 1 rfl;have d2:wc.cell? ⟨w4.heap.size,2,none⟩=some (.int .u64 t):=r5.cell 2 rfl;have d3:wc.cell? ⟨w4.heap.size,3,none⟩=some (.int .i64 ((c:Int)+1)):=r5.cell 3 rfl;have e0:wc.cell? ⟨w.heap.size,0,none⟩=some (.int .u64 0):=r6.cell 0 rfl;have e1:wc.cell? ⟨w.heap.size,1,none⟩=some (.int .u64 0):=r6.cell 1 rfl;have e2:wc.cell? ⟨w.heap.size,2,none⟩=some (.int .u64 0):=r6.cell 2 rfl;have e3:wc.cell? ⟨w.heap.size,3,none⟩=some (.int .i64 0):=r6.cell 3 rfl;have f0:=r6.free 0;have f1:=r6.free 1;have f2:=r6.free 2;have f3:=r6.free 3;have z9:=(((r6.set 0 (.int .u64 h)).set 1 (.int .u64 d)).set 2 (.int .u64 t)).set 3 (.int .i64 ((c:Int)+1));have t9:=((((Tch.refl (fun r=>r=w.heap.size) wc).setCell (a:=⟨w.heap.size,0,none⟩) (.int .u64 h) (.inl rfl)).setCell (a:=⟨w.heap.size,1,none⟩) (.int .u64 d) (.inl rfl)).setCell (a:=⟨w.heap.size,2,none⟩) (.int .u64 t) (.inl rfl)).setCell (a:=⟨w.heap.size,3,none⟩) (.int .i64 ((c:Int)+1)) (.inl rfl);obtain⟨w9,hw9⟩:∃w9,w9=(((wc.setCell ⟨w.heap.size,0,none⟩ (.int .u64 h)).setCell ⟨w.heap.size,1,none⟩ (.int .u64 d)).setCell ⟨w.heap.size,2,none⟩ (.int .u64 t)).setCell ⟨w.heap.size,3,none⟩ (.int .i64 ((c:Int)+1)):=⟨_,rfl⟩;rw[←hw9] at t9 z9;go_wp2;rw[←hw9];have y0:w9.cell? ⟨w.heap.size,0,none⟩=some (.int .u64 h):=z9.cell 0 rfl;have y1:w9.cell? ⟨w.heap.size,1,none⟩=some (.int .u64 d):=z9.cell 1 rfl;have y2:w9.cell? ⟨w.heap.size,2,none⟩=some (.int .u64 t):=z9.cell 2 rfl;have y3:w9.cell? ⟨w.heap.size,3,none⟩=some (.int .i64 ((c:Int)+1)):=z9.cell 3 rfl;refine bodyPost_ret (v:=.agg #[.int .u64 h,.int .u64 d,.int .u64 t,.int .i64 ((c:Int)+1)]) ?_ rfl ⟨rfl,gg,cap,row_far r1 t9 r0,(t9.block _ r2.lt (by omega)).trans r2,r3.trans (t9.mono fun r e=>.inr (.inr (by omega))),(fun g cur T hT hg hc=>(t9.block g (Nat.lt_of_lt_of_le (Array.getElem?_eq_some_iff.1 hc).1 r3.size) (by have:=(Array.getElem?_eq_some_iff.1 hc).1;omega)).trans (rk g cur T hT hg hc)),n5,r4.at (t9.block _ (Nat.lt_of_lt_of_le hml r3.size) (by omega))⟩;simp[results,Tryz.results69,go_sem,y0,y1,y2,y3]
end
end Go.Proofs.YtkndlfdpmpdihaaGreatDoor
