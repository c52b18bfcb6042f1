/- TopLatency: two rows grow in one statement. TopLatency: its walk. A list of numbers, read out of the argument. The gaps, read out of the argument. Conditions: those that each statement shows. -/
import Derived.Test.YtkndlfdpmpdihaaGreatDoorY44
import Derived.Deep.AppendLies
import Derived.Deep.RegionLaw
import Derived.Deep.CutBlock
import Derived.Test.YtkndlfdpmpdihaaGreatDoorRows
import Derived.Deep.Slices
import Derived.ChangeArms
import Derived.ProofKit
import Derived.WideShapes
namespace Go.Proofs.YtkndlfdpmpdihaaGreatDoor
open Go.RowKit Go.Ev Go.Mv
set_option linter.unusedVariables false
set_option linter.unusedSimpArgs false
set_option maxRecDepth 100000
def u64C (l:List Nat):List Value:=l.map fun n:Nat=>.int .u64 (n:Int)
def Apart (v v':Value):Prop:=∀g,v.ownBlock=some g→v'.ownBlock≠some g
theorem row_kept {E:TypeId} {n0:Nat} {w w':World} {base size n:Nat} {e:TypeId} {v:Value} {xs:List Value} (h:w.ownsRow base e size v n xs) (hk:Kept E n0 w w') (he:e≠E) (hb:n0≤base):w'.ownsRow base e size v n xs:=by
 refine⟨h.1,?_⟩;rcases h.2 with h1|⟨g,cap,cur,h1,h2,h3,h4⟩
 ·exact .inl h1
 ·exact .inr ⟨g,cap,cur,h1,h2,hk g cur e he (by omega) h3,h4⟩
structure Two2 (W:World) (X:Side) (n0:Nat) (fs:List (Nat×Nat×Nat×Int)) (a:AS) (S:WS) (vT vU:Value) (H U:List Nat) (w:World):Prop where
 t:w.ownsRow n0 37 1 vT H.length (u64C H)
 u:w.ownsRow n0 37 1 vU U.length (u64C U)
 ap:Apart vT vU
 side:SideAt X n0 fs a S w
 bel:Below W.heap.size W w
 sz:n0≤w.heap.size
 wn:W.heap.size≤n0
def Keep (m:Nat) (w w':World):Prop:=∀g cs,m≤g→w.heap[g]?=some (.cells cs 37 (0,0))→w'.heap[g]?=some (.cells cs 37 (0,0))
section
variable {W:World} {X:Side} {n0:Nat} {fs:List (Nat×Nat×Nat×Int)} {a:AS} {S:WS} {vT vU:Value} {H U:List Nat} {w w':World}
theorem Two2.drew (h:Two2 W X n0 fs a S vT vU H U w):Two2 W X n0 fs a S vT vU H U w.drew:=
 ⟨h.t.drew,h.u.drew,h.ap,h.side.below (Below.refl _ _).drew,h.bel.drew,h.sz,h.wn⟩
theorem Two2.alloc (h:Two2 W X n0 fs a S vT vU H U w) (o:Obj):Two2 W X n0 fs a S vT vU H U (w.alloc o):=
 have hb:Below w.heap.size w (w.alloc o):=(Below.refl _ _).alloc (Nat.le_refl _) _
 ⟨h.t.alloc o,h.u.alloc o,h.ap,h.side.below hb,h.bel.trans (hb.mono h.bel.size),Nat.le_trans h.sz hb.size,h.wn⟩
theorem Two2.side' (h:Two2 W X n0 fs a S vT vU H U w) {a':AS} {S':WS} {fs':List (Nat×Nat×Nat×Int)} (ht:Tch X.all w w') (hs:SideAt X n0 fs' a' S' w') (hX:∀k,X.all k→W.heap.size≤k):Two2 W X n0 fs' a' S' vT vU H U w':=
 ⟨rows_keep h.t ht (fun k e hk=>by have:=hs.lo k e;omega),rows_keep h.u ht (fun k e hk=>by have:=hs.lo k e;omega),h.ap,hs,h.bel.trans (tch_new2 ht h.bel.size hX),Nat.le_trans h.sz ht.size,h.wn⟩
theorem Two2.below (h:Two2 W X n0 fs a S vT vU H U w) (hb:Below w.heap.size w w'):Two2 W X n0 fs a S vT vU H U w':=
 ⟨rows_keep h.t (Tch.of_below (S:=fun _=>False) hb) (fun k e=>e.elim),rows_keep h.u (Tch.of_below (S:=fun _=>False) hb) (fun k e=>e.elim),h.ap,h.side.below hb,h.bel.trans (hb.mono h.bel.size),Nat.le_trans h.sz hb.size,h.wn⟩
theorem fire_cell:∀(fs:List (Nat×Nat×Nat×Int)) (i:Nat) (f:Nat×Nat×Nat×Int),fs[i]?=some f→(fireCells fs)[i*4]?=some (.int .u64 f.1)∧(fireCells fs)[i*4+2]?=some (.int .u64 f.2.2.1)
 | [],i,f,h=>by cases h
 |x::l,0,f,h=>by cases h;exact⟨rfl,rfl⟩
 |x::l,i+1,f,h=>by
   have:=fire_cell l i f h;rw[show (i+1)*4=i*4+4 from by omega];exact this
theorem Two2.serve (h:Two2 W X n0 fs a S vT vU H U w) {a':AS} {S':WS} {fs':List (Nat×Nat×Nat×Int)} (ht:Tch (fun r=>X.all r∨n0≤r) w w') (hk:Kept 71 n0 w w') (hs:SideAt X n0 fs' a' S' w') (hX:∀k,X.all k→W.heap.size≤k):Two2 W X n0 fs' a' S' vT vU H U w':=
 ⟨row_kept h.t hk (by decide) (Nat.le_refl _),row_kept h.u hk (by decide) (Nat.le_refl _),h.ap,hs,h.bel.trans (tch_new2 ht h.bel.size (fun k e=>e.elim (hX k) (fun e=>Nat.le_trans h.wn e))),Nat.le_trans h.sz ht.size,h.wn⟩
theorem Keep.tch {m:Nat} {Y:Nat→Prop} (ht:Tch Y w w') (hy:∀k,Y k→k<m):Keep m w w':=fun g cs hg h=>(ht.block g (Array.getElem?_eq_some_iff.1 h).1 (fun e=>by have:=hy g e;omega)).trans h
theorem Keep.use {m g:Nat} {cs:Array Value} (h:Keep m w w') (hg:m≤g) (hc:w.heap[g]?=some (.cells cs 37 (0,0))):w'.heap[g]?=some (.cells cs 37 (0,0)):=h g cs hg hc
theorem SideAt.grow (h:SideAt X n0 fs a S w) (ht:Tch (fun r=>n0≤r) w w') (hk:Kept 37 n0 w w'):SideAt X n0 fs a S w':=by
 have hl:=h.lo;have h8:=h.hi X.Z.b (.inr (.inr (.inl rfl)));have hz:=hl X.Z.b (.inr (.inr (.inl rfl)));obtain⟨l,hc⟩:=h.clk;obtain⟨v,f,n,q1,q2,q3,q4,q5,q6⟩:=h.log;have hkb:=hl X.kb (.inr (.inr (.inr (.inl rfl))));have hlb:=hl X.lb (.inr (.inr (.inr (.inr (.inl rfl)))));have hmb:=hl X.mb (.inr (.inr (.inr (.inr (.inr rfl)))))
 exact⟨h.svc.tch ht (by omega) (fun k hk e=>by have:=hl k (.inr (.inl hk));omega) (fun k e=>⟨fun e2=>by have:=hl k (.inl e2);omega,by omega⟩),h.ext,⟨l,(ht.block _ hc.lt (by omega)).trans hc⟩,h.wl,h.lst,h.am,
  ⟨v,f,n,(ht.block _ q1.lt (by omega)).trans q1,q2.tch ht (by omega),row_kept q3 hk (by decide) (Nat.le_refl _),q4,q5,q6⟩,h.base,h.hi,h.lo⟩
theorem row_grown {base e size n m:Nat} {v v2:Value} {xs ys:List Value} (h:w.ownsRow base e size v n xs) (hg:w.grownBy w' v2.ownBlock) (ha:∀g,v.ownBlock=some g→v2.ownBlock≠some g):w'.ownsRow base e size v n xs:=by
 refine⟨h.1,?_⟩;rcases h.2 with h1|⟨g,cap,cur,rfl,h2,h3,h4⟩
 ·exact .inl h1
 ·exact .inr ⟨g,cap,cur,rfl,h2,(hg.block g (Array.getElem?_eq_some_iff.1 h3).1 (fun e=>ha g rfl e.symm)).trans h3,h4⟩
theorem step_told {ops:Array Oper} {o:Oper} {c:Act} {K:Act→World→Prop} {Q:Exit→Act→World→Prop} {E:Prop} (hgd:o.guard=none) (s x:Operand) (ho:o.op=.call { callee:=.builtin .append,args:=#[s,x],argTypes:=#[56,56] })
 (hI:Two2 W X n0 fs a S vT vU H U w) (hn:H.length<1000) (hs:c.eval s=vT) (b n:Nat) (z:Int) (hx:c.eval x=.slice (some ⟨b,0,none⟩) 1 1) (hb:w.heap[b]?=some (.cells #[.int .u64 z] 37 (0,0))) (hz:z=(n:Int)) (m:Nat) (hm:∀g,vT.ownBlock=some g→g<m) (hmw:m≤w.heap.size)
 (h:∀v' w',Two2 W X n0 fs a S v' vU (H++[n]) U w'→Keep m w w'→w.heap.size≤w'.heap.size→K (c.put o.dst v') w') :
 if Region.wanted o (yielded ops c.tmps)=true then Oper.wp Tryz.prog o c w K Q else E:=by
 subst hz;obtain⟨i0,hi,hz0,hz1,hz2⟩:=info_parts infoD37;refine step_append_lies _ hgd s x 56 ho n0 37 i0 (.int .u64 0) 1 8 underlying56 hi hz0 hz1 hz2 rfl (by decide) vT H.length (u64C H) hs hI.t ⟨b,0,none⟩ 1 1 [.int .u64 n] hx rfl (World.news_of_block hb) (by simp[Value.oneCell']) (by omega) (by unfold maxLen;omega) (by omega) hI.sz _ rfl ?_;intro g cap w' hown hgrow hat hlt;have ht:Tch (fun r=>n0≤r) w w':=tch_grown hgrow (fun r e=>(hI.t.lt r e).1);refine h _ w' ⟨by simpa[u64C] using hown,row_grown (m:=0) (ys:=[]) hI.u hgrow (fun g h1 h2=>hI.ap g h2 h1),?_,hI.side.grow ht (Kept.grown hI.t hgrow),hI.bel.trans (tch_new2 ht hI.bel.size (fun k e=>Nat.le_trans hI.wn e)),Nat.le_trans hI.sz ht.size,hI.wn⟩ (fun k cs hk hc=>(hgrow.block k (Array.getElem?_eq_some_iff.1 hc).1 (fun e=>by have:=hm k e.symm;omega)).trans hc) ht.size;intro k hk hk2
 have e:g=k:=by simpa[Value.ownBlock] using hk
 subst e;rcases hat with hat|hat
 ·exact hI.ap g hat hk2
 ·have:=(hI.u.lt g hk2).2
  omega
theorem step_due {ops:Array Oper} {o:Oper} {c:Act} {K:Act→World→Prop} {Q:Exit→Act→World→Prop} {E:Prop} (hgd:o.guard=none) (s x:Operand) (ho:o.op=.call { callee:=.builtin .append,args:=#[s,x],argTypes:=#[56,56] })
 (hI:Two2 W X n0 fs a S vT vU H U w) (hn:U.length<1000) (hs:c.eval s=vU) (b n:Nat) (z:Int) (hx:c.eval x=.slice (some ⟨b,0,none⟩) 1 1) (hb:w.heap[b]?=some (.cells #[.int .u64 z] 37 (0,0))) (hz:z=(n:Int)) (m:Nat) (hm:∀g,vU.ownBlock=some g→g<m) (hmw:m≤w.heap.size)
 (h:∀v' w',Two2 W X n0 fs a S vT v' H (U++[n]) w'→Keep m w w'→w.heap.size≤w'.heap.size→K (c.put o.dst v') w') :
 if Region.wanted o (yielded ops c.tmps)=true then Oper.wp Tryz.prog o c w K Q else E:=by
 subst hz;obtain⟨i0,hi,hz0,hz1,hz2⟩:=info_parts infoD37;refine step_append_lies _ hgd s x 56 ho n0 37 i0 (.int .u64 0) 1 8 underlying56 hi hz0 hz1 hz2 rfl (by decide) vU U.length (u64C U) hs hI.u ⟨b,0,none⟩ 1 1 [.int .u64 n] hx rfl (World.news_of_block hb) (by simp[Value.oneCell']) (by omega) (by unfold maxLen;omega) (by omega) hI.sz _ rfl ?_;intro g cap w' hown hgrow hat hlt;have ht:Tch (fun r=>n0≤r) w w':=tch_grown hgrow (fun r e=>(hI.u.lt r e).1);refine h _ w' ⟨row_grown (m:=0) (ys:=[]) hI.t hgrow (fun g h1 h2=>hI.ap g h1 h2),by simpa[u64C] using hown,?_,hI.side.grow ht (Kept.grown hI.u hgrow),hI.bel.trans (tch_new2 ht hI.bel.size (fun k e=>Nat.le_trans hI.wn e)),Nat.le_trans hI.sz ht.size,hI.wn⟩ (fun k cs hk hc=>(hgrow.block k (Array.getElem?_eq_some_iff.1 hc).1 (fun e=>by have:=hm k e.symm;omega)).trans hc) ht.size;intro k hk hk2
 have e:g=k:=by simpa[Value.ownBlock] using hk2
 subst e;rcases hat with hat|hat
 ·exact hI.ap g hk hat
 ·have:=(hI.t.lt g hk).2
  omega
end
def LatRel (W:World) (X:Side) (n0 len L G:Nat) (g:Nat) (vT vU i:Value) (wr:World):Prop:=
 ∃k H U fs S a,k≤len∧k≤30∧g=30-k∧i=.int .i64 (k:Int)∧H.length=k∧Two2 W X n0 fs a S vT vU H U wr∧Lat (12*G) L H U fs S a.s.time 0∧S.base≤a.s.time∧(900≤a.left+15*k∧a.left≤1000∧a.s.time≤500*k)
def LatMid (W:World) (X:Side) (n0 L G:Nat) (vT vU:Value) (wr:World):Prop:=
 ∃H U fs S a,H.length≤30∧Two2 W X n0 fs a S vT vU H U wr∧Lat (12*G) L H U fs S a.s.time 0∧S.base≤a.s.time∧400≤a.left∧a.left≤1000∧a.s.time≤15000
def TickE (A B:World→Prop):Bool→World→Prop
 |false,w=>A w
 |true,w=>B w
set_option maxHeartbeats 8000000 in
theorem lat_walk (W:World) (hT:Tabs W) (gp lt:Nat) (hgp:gp<4294967296) (hlt:lt<18446744073709551616)
 (p:Option Addr) (len cap:Nat) (xs:Nat→Nat) (hlen:len≤9223372036854775807) (hxs:∀j,xs j<18446744073709551616) (hp:0<len→∃b off,p=some ⟨b,off,none⟩∧b<W.heap.size∧∀j,j<len→W.cell? ⟨b,off+j,none⟩=some (.int .u64 (xs j)))
 (p2:Option Addr) (len2 cap2:Nat) (ys:Nat→Nat) (hlen2:len2≤9223372036854775807) (hys:∀j,ys j<18446744073709551616) (hp2:0<len2→∃b off,p2=some ⟨b,off,none⟩∧b<W.heap.size∧∀j,j<len2→W.cell? ⟨b,off+j,none⟩=some (.int .u64 (ys j))) :
 Calls Tryz.prog 4 #[.int .u32 gp,.int .u64 lt,.slice p len cap,.slice p2 len2 cap2] W fun e w'=>e=.returned (.bool true)∧Below W.heap.size W w':=by
 have h8:=hT.1;obtain⟨G,hG⟩:∃G,G=gp%10:=⟨_,rfl⟩;obtain⟨L,hL⟩:∃L,L=lt%51:=⟨_,rfl⟩
 have hrG:(gp:Int).tmod 10=(G:Int):=by rw[Int.tmod_eq_emod_of_nonneg (by omega)];omega
 have hrL:(lt:Int).tmod 51=(L:Int):=by rw[Int.tmod_eq_emod_of_nonneg (by omega)];omega
 have hG10:G<10:=by omega
 have hL51:L<51:=by omega
 have hB1:Below W.heap.size W (W.alloc (.cells #[.int .u32 G] 22)):=(Below.refl _ W).alloc (Nat.le_refl _) _;have hX1:=Blk.new W #[.int .u32 (G:Int)] 22
 have hm1:=made23 (hT.below h8 hB1) (room:=29) (r:=30) (left:=1000) (by decide) (by omega) (p:=some ⟨W.heap.size,0,none⟩) (len:=1) (cap:=1) (gl:=[G]) (by omega) (by omega) rfl (fun v hv=>by rw[List.mem_singleton] at hv;omega) (.inr ⟨_,_,rfl⟩)
  (fun _=>⟨_,_,rfl,hX1.lt,fun j v hj=>by
   cases j with
   |zero=>cases hj;exact hX1.cell 0 rfl
   |succ j=>cases hj⟩)
 have h8a:8≤(W.alloc (.cells #[.int .u32 G] 22)).heap.size:=Nat.le_trans h8 hB1.size;clear hG hL hgp hlt hX1;go_enter Tryz.func4,Tryz.ntmps4
 go_wp2_with (go_at_call 23;fail)
 refine hm1.mono ?_;rintro e w1 ⟨v1,x1,rfl,hb1,hM1⟩;obtain⟨X,a0,rfl,hX,ha1,ha2,ha3,ha4,ha5⟩:=side_made hM1 h8a (by omega);have hB0:Below W.heap.size W w1:=hB1.trans (hb1.mono hB1.size);obtain⟨n0,hn0⟩:∃n0,n0=w1.heap.size:=⟨_,rfl⟩;have hXn:∀k,X.all k→W.heap.size≤k∧k<n0:=fun k e=>⟨Nat.le_trans hB1.size (ha5 k e),by rw[hn0];exact hX.lo k e⟩
 have hWn:W.heap.size≤n0:=by rw[hn0];exact hB0.size
 rw[←hn0] at hX
 have hz0:n0≤w1.heap.size:=by omega
 have hgap:∀n,X.Q.gap n≤G:=by
  intro n;unfold QB.gap;rw[ha3];simp[Nat.mod_one]
 clear hm1 hM1 hb1 hB1 h8a ha5 hn0 hT
 go_upto_block 0 with(first|(go_at_call 24;refine(side_port hX).mono ?_;rintro e w2 ⟨rfl,rfl⟩)|(go_at_call 25;refine(side_bd hX).mono ?_;rintro e w2 ⟨rfl,rfl⟩))
 go_cut [13,14,15,16,17] from 40 to 112 (fun vT vU _ _ _ wx=>LatMid W X n0 L G vT vU wx)
 case first=>
  go_wp2_with fail
  go_loopg [13,14,15] 30 (fun g vT vU i wr=>LatRel W X n0 len L G g vT vU i wr)
  case atStart=>
   have e1:a0.s.time=0:=by rw[ha1];rfl
   exact⟨0,[],[],[],ws0,a0,Nat.zero_le _,Nat.zero_le _,rfl,rfl,rfl,⟨World.ownsRow_nil _ _ _ _,World.ownsRow_nil _ _ _ _,fun g h=>(by cases h),hX,hB0,hz0,hWn⟩,by rw[e1];exact lat0,Nat.zero_le _,⟨by omega,by omega,by omega⟩⟩
  case round=>
   obtain⟨k,H,U,fs,S,a,hk,hk30,hg,rfl,hHl,hI,hLat,hbase,l1,l2,l3⟩:=hrel
   by_cases hlt:k<len
   ·by_cases hlt6:k<30
    ·have ⟨b',off,hpe,hbW,hcs⟩:=hp (by omega)
     subst hpe;have HC:=Lib.hid hcs;clear hcs;have c1:wr.cell? ⟨b',off+k,none⟩=some (.int .u64 (xs k)):=(hI.bel.cell (p:=⟨b',off+k,none⟩) hbW).trans (HC.out k hlt);obtain⟨d,hd⟩:∃d,d=xs k%100000:=⟨_,rfl⟩
     have hrem:(xs k:Int).tmod 100000=(d:Int):=by rw[Int.tmod_eq_emod_of_nonneg (by omega)];omega
     have hdd:d<100000:=by omega
     obtain⟨ls,hWl⟩:=hI.side.wl;have hcn:=hLat.cnt
     have hgn:∀b,S.p.gen b<4294967295:=fun b=>by have:=hLat.gens b;omega
     obtain⟨pl,hpl,hf,_,hA,hWl'⟩:=hWl.add (by omega) (d:=d) (by omega) (by have:=hI.side.base;omega) (by rw[hLat.order];omega) hgn;have hat:=side_at hI.side (by omega) hA hWl' (by show S.base<_;exact hI.side.base) (by omega);obtain⟨hv,hhv⟩:∃hv,hv=hN S.p pl:=⟨_,rfl⟩;rw[←hhv] at hat;have hla:=fun T' (h:T'≤a.s.time+3*G)=>hLat.add (x:=3*G) (by omega) hf h hdd;rw[←hhv] at hla;have HLA:=Lib.hid hla;have HHL:=Lib.hid hHl;have hSb:(S.add pl d 0).base=S.base:=rfl;have HUL:=Lib.hid hLat.len;clear hla hA hWl hWl' hf hhv hgn hd hcn hHl hLat;generalize S.add pl d 0=S' at *
     go_wp2_with (go_at_call 26;fail)
     refine hat.mono ?_;rintro e w5 ⟨rfl,t5,a5,hX5,⟨r1,r2⟩,r3,r4⟩;have r5:=r4 G hgap;have hI5:=hI.side' t5 hX5 (fun k e=>(hXn k e).1);have hLat5:=HLA.out a5.s.time (by omega);obtain⟨T,hT5⟩:∃T,T=a5.s.time:=⟨_,rfl⟩;rw[←hT5] at hLat5;obtain⟨u,hu⟩:∃u,u=max d T+L+2*(12*G):=⟨_,rfl⟩;rw[←hu] at hLat5;have c5:w5.cell? ⟨b',off+k,none⟩=some (.int .u64 (xs k)):=(hI5.bel.cell (p:=⟨b',off+k,none⟩) hbW).trans (HC.out k hlt)
     have hTl:T<16000:=by omega
     have HL5:=Lib.hid hLat5;clear hat HLA t5 hX5 r4 hI c1 hLat5
     go_upto_region 14 with fail
     have hw1:IntKind.u64.wrap (max (d:Int) (T:Int)+(L:Int))=max (d:Int) (T:Int)+(L:Int):=IntWalk.u64_in _ ⟨by omega,by omega⟩;have hw2:IntKind.u64.wrap (2*(12*(G:Int)))=2*(12*(G:Int)):=IntWalk.u64_in _ ⟨by omega,by omega⟩
     have hw3:IntKind.u64.wrap (max (d:Int) (T:Int)+(L:Int)+2*(12*(G:Int)))=(u:Int):=by rw[IntWalk.u64_in _ ⟨by omega,by omega⟩];omega
     have HT5:=Lib.hid hT5;have HUU:=Lib.hid hu;clear hu;have hmT:∀g,u13.ownBlock=some g→g<w5.heap.size:=fun g e=>(hI5.t.lt g e).2;have hmU:∀g,u14.ownBlock=some g→g<w5.heap.size:=fun g e=>(hI5.u.lt g e).2
     have hHn:H.length<1000:=by have:=HHL.out;omega
     have hUn:U.length<1000:=by have:=HUL.out;have:=HHL.out;omega
     have hn5:n0≤w5.heap.size:=hI5.sz;have hcl:∀ {v v':Value} {A B:List Nat} (W2:World),Two2 W X n0 fs a5 S' v v' A B W2→W2.cell? ⟨b',off+k,none⟩=some (.int .u64 (xs k)):=fun W2 h=>(h.bel.cell (p:=⟨b',off+k,none⟩) hbW).trans (HC.out k hlt)
     have hsd:∀ {v v':Value} {A B:List Nat} (W2:World),Two2 W X n0 fs a5 S' v v' A B W2→Calls Tryz.prog 17 #[.pointer (some ⟨X.Q.b 16,0,none⟩)] W2 fun e w'=>e=.returned (.int .u64 T)∧Two2 W X n0 fs a5 S' v v' A B w'∧Keep w5.heap.size W2 w'∧W2.heap.size≤w'.heap.size:=fun W2 h=>by
      rw[HT5.out];exact(side_time h.side).mono fun e w' q=>⟨q.1,h.side' q.2.1 q.2.2 (fun k e=>(hXn k e).1),Keep.tch q.2.1 (fun k e=>by have:=hXn k e;omega),q.2.1.size⟩
     have cF:∀o,(w5.alloc o).cell? ⟨b',off+k,none⟩=some (.int .u64 (xs k)):=fun o=>hcl _ (hI5.alloc o);have cG:∀o,(w5.alloc o).drew.cell? ⟨b',off+k,none⟩=some (.int .u64 (xs k)):=fun o=>hcl _ (hI5.alloc o).drew;clear hT5
     go_cut [13,14] from 60 to 81 (fun vT vU wx=>Two2 W X n0 fs a5 S' vT vU (H++[hv]) (U++[u]) wx)
     case first=>
      go_region_law (first
       |(refine step_told (vT:=u13) (by rfl) _ _ (by rfl) (by repeat (first|assumption|apply Two2.alloc|apply Two2.drew)) hHn (by rfl) _ hv _ (by rfl) (by repeat' (first|exact heap_alloc_new _ _|(refine(heap_alloc_old _ _ (by first|(simp;done)|(simp;omega))).trans ?_)|(refine Keep.use (by assumption) (by first|omega|(simp;omega)) ?_))) rfl w5.heap.size hmT (by first|omega|(simp;omega)|simp) ?_;intro v1 wA hIA hKA hmA;have cA:=hcl _ hIA;have dA:∀o,(wA.alloc o).cell? ⟨b',off+k,none⟩=some (.int .u64 (xs k)):=fun o=>hcl _ (hIA.alloc o);(try simp at hmA))
       |(go_simp;go_at_call 17;refine(hsd _ (by repeat (first|assumption|apply Two2.alloc|apply Two2.drew))).mono ?_;rintro e wC ⟨rfl,hIC,hKC,hmC⟩;have cC:=hcl _ hIC;have dC:∀o,(wC.alloc o).cell? ⟨b',off+k,none⟩=some (.int .u64 (xs k)):=fun o=>hcl _ (hIC.alloc o);(try simp at hmC))
       |(refine step_due (vU:=u14) (by rfl) _ _ (by rfl) (by repeat (first|assumption|apply Two2.alloc|apply Two2.drew)) hUn (by rfl) _ u _ (by rfl) (by repeat' (first|exact heap_alloc_new _ _|(refine(heap_alloc_old _ _ (by first|(simp;done)|(simp;omega))).trans ?_)|(refine Keep.use (by assumption) (by first|omega|(simp;omega)) ?_))) (by first|rfl|(rw[hw1,hw2,hw3])|(simp only[hw1,hw2,hw3];done)) w5.heap.size hmU (by first|omega|(simp;omega)|simp) ?_;intro v2 wB hIB hKB hmB;have cB:=hcl _ hIB;have dB:∀o,(wB.alloc o).cell? ⟨b',off+k,none⟩=some (.int .u64 (xs k)):=fun o=>hcl _ (hIB.alloc o);(try simp at hmB)))
      all_goals (go_wp2_with fail)
      all_goals go_meet
      all_goals exact(by repeat (first|assumption|apply Two2.alloc|apply Two2.drew))
     case rest=>
      clear hmT hmU hHn hUn hcl hsd cF cG hI5 c5 hrem;have hI6:=hcut;clear hcut;obtain⟨E5,hE5⟩:∃E5,E5=a5.s.cmp:=⟨_,rfl⟩
      go_upto_region 15 with fail
      go_cut [89] from 82 to 89 (fun c wx=>∃q:Bool,c=.bool q∧(q=true→a5.s.time<a5.s.cmp∧0<len2)∧Two2 W X n0 fs a5 S' u13 u14 (H++[hv]) (U++[u]) wx)
      case first=>
       by_cases h2:0<len2
       ·have h2d:decide ((0:Int)<(len2:Int))=true:=by simp;exact h2
        go_wp2_with (go_at_call 27;fail)
        refine(side_pend hI6.side).mono ?_;rintro e w6 ⟨rfl,t6,s6⟩;have hI7:=hI6.side' t6 s6 (fun k e=>(hXn k e).1);obtain⟨q,hq⟩:∃q,q=decide (a5.s.cmp≤a5.s.time):=⟨_,rfl⟩;rw[←hq];have HQ:=Lib.hid hq;clear hq;go_wp2;go_meet
        exact⟨!q,rfl,fun e=>⟨by
         have h:=HQ.out;rw[show q=false from by simpa using e] at h;have:=of_decide_eq_false h.symm
         omega,h2⟩,hI7⟩
       ·have h2d:decide ((0:Int)<(len2:Int))=false:=by simp;omega
        go_wp2;go_meet;exact⟨false,rfl,fun e=>(by cases e),hI6⟩
      case rest=>
       obtain⟨q,rfl,hq,hI7⟩:=hcut;clear hI6
       go_upto_if 89 with fail
       go_cut [] from 90 to 105 (fun wx=>∃a7,Two2 W X n0 fs a7 S' u13 u14 (H++[hv]) (U++[u]) wx∧Lat (12*G) L (H++[hv]) (U++[u]) fs S' a7.s.time (3*G)∧a7.s.cmp=a5.s.cmp∧a7.left=a5.left∧a5.s.time≤a7.s.time∧a7.s.time≤a5.s.time+300)
       case first=>
        cases q with
        |false=>
          go_wp2;go_meet;exact⟨a5,hI7,by rw[←HT5.out];exact HL5.out,rfl,rfl,Nat.le_refl _,by omega⟩
        |true=>
          obtain⟨hlc,h2⟩:=hq rfl;have ⟨b2,off2,hpe2,hbW2,hcs2⟩:=hp2 h2;subst hpe2;obtain⟨j,hj⟩:∃j,j=k%len2:=⟨_,rfl⟩
          have hjl:j<len2:=by rw[hj];exact Nat.mod_lt _ h2
          have hjm:(k:Int).tmod (len2:Int)=(j:Int):=by rw[Int.tmod_eq_emod_of_nonneg (by omega),hj];rfl
          have hl0:(len2:Int)≠0:=by omega
          have hcl2:∀W2,Below W.heap.size W W2→W2.cell? ⟨b2,off2+j,none⟩=some (.int .u64 (ys j)):=fun W2 h=>(h.cell (p:=⟨b2,off2+j,none⟩) hbW2).trans (hcs2 j hjl);obtain⟨y,hy⟩:∃y,y=ys j%300:=⟨_,rfl⟩
          have hym:(ys j:Int).tmod 300=(y:Int):=by rw[Int.tmod_eq_emod_of_nonneg (by omega)];omega
          have hym2:(ys j:Int)%300=(y:Int):=by omega
          have hyl:y<300:=by omega
          have hcl2':=hcl2 _ hI7.bel
          have hE:E5<18446744073709551616:=by
           have:=hI7.side.desk.shot.port.board.1.cmp;rw[hE5];exact this
          have hsub:IntKind.u64.wrap ((E5:Int)-(T:Int))=((E5-T:Nat):Int):=by
           have:=HT5.out;rw[IntWalk.u64_in _ ⟨by omega,by omega⟩];omega
          obtain⟨z,hz⟩:∃z,z=min y (E5-T):=⟨_,rfl⟩
          have hmin:min (y:Int) ((E5-T:Nat):Int)=(z:Int):=by omega
          have HZ:=Lib.hid hz;have HE5:=Lib.hid hE5
          have hcm:∀W2,Two2 W X n0 fs a5 S' u13 u14 (H++[hv]) (U++[u]) W2→Calls Tryz.prog 28 #[.pointer (some ⟨X.Q.b 16,0,none⟩),.int .i64 0] W2 fun e w'=>e=.returned (.int .u64 E5)∧Two2 W X n0 fs a5 S' u13 u14 (H++[hv]) (U++[u]) w':=fun W2 h=>by
           rw[HE5.out];exact(side_cmp h.side).mono fun e w' q=>⟨q.1,h.side' q.2.1 q.2.2 (fun k e=>(hXn k e).1)⟩
          have htm:∀W2,Two2 W X n0 fs a5 S' u13 u14 (H++[hv]) (U++[u]) W2→Calls Tryz.prog 17 #[.pointer (some ⟨X.Q.b 16,0,none⟩)] W2 fun e w'=>e=.returned (.int .u64 T)∧Two2 W X n0 fs a5 S' u13 u14 (H++[hv]) (U++[u]) w':=fun W2 h=>by
           rw[HT5.out];exact(side_time h.side).mono fun e w' q=>⟨q.1,h.side' q.2.1 q.2.2 (fun k e=>(hXn k e).1)⟩
          have htk:∀W2,Two2 W X n0 fs a5 S' u13 u14 (H++[hv]) (U++[u]) W2→Calls Tryz.prog 15 #[.pointer (some ⟨X.Q.b 16,0,none⟩),.int .u64 z] W2 fun e w'=>e=.returned (.tuple #[])∧∃a7:AS,Two2 W X n0 fs a7 S' u13 u14 (H++[hv]) (U++[u]) w'∧a7.s.time=a5.s.time+z∧a7.s.cmp=a5.s.cmp∧a7.left=a5.left:=fun W2 h=>
           (side_tick h.side (n:=z) (by have:=HT5.out;have:=HZ.out;omega)).mono fun e w' ⟨q1,q2,a7,q3,q4,q5,q6⟩=>⟨q1,a7,h.side' q2 q3 (fun k e=>(hXn k e).1),q4,q5,q6⟩
          clear hz hE5 hj hy;go_wp2;have hne:Nonempty (One (TickE (Two2 W X n0 fs a5 S' u13 u14 (H++[hv]) (U++[u])) (fun w'=>∃a7:AS,Two2 W X n0 fs a7 S' u13 u14 (H++[hv]) (U++[u]) w'∧a7.s.time=a5.s.time+z∧a7.s.cmp=a5.s.cmp∧a7.left=a5.left) false)):=⟨⟨_,hI7⟩⟩;have hcl3:∀x:One (TickE (Two2 W X n0 fs a5 S' u13 u14 (H++[hv]) (U++[u])) (fun w'=>∃a7:AS,Two2 W X n0 fs a7 S' u13 u14 (H++[hv]) (U++[u]) w'∧a7.s.time=a5.s.time+z∧a7.s.cmp=a5.s.cmp∧a7.left=a5.left) false),x.w.cell? ⟨b2,off2+j,none⟩=some (.int .u64 (ys j)):=fun x=>hcl2 _ (show Two2 W X n0 fs a5 S' u13 u14 (H++[hv]) (U++[u]) x.w from x.h).bel;refine wp_region_two (TickE (Two2 W X n0 fs a5 S' u13 u14 (H++[hv]) (U++[u])) (fun w'=>∃a7:AS,Two2 W X n0 fs a7 S' u13 u14 (H++[hv]) (U++[u]) w'∧a7.s.time=a5.s.time+z∧a7.s.cmp=a5.s.cmp∧a7.left=a5.left)) 15 (by decide) (by kernel_rfl) (by kernel_rfl) hI7.drew ?_
          (repeat (first|(refine lexS_skip (by rfl) (by decide) ?_;simp only[Act.put,List.setIfInBounds_toArray,List.set_cons_succ,List.set_cons_zero])|(refine lexS_ewant (by rfl) (by decide) (by kernel_rfl) (by rfl) ?_;intro K hK;go_big_quiet_op;refine hK _ ?_;clear hK K)))
          refine lexS_early (by rfl) (by decide) (by kernel_rfl) (.int .i64 len2) (fun x=>?_) ?_
          ·unfold does
           go_simp
           exact⟨x.h,rfl⟩
          simp only[Act.put,List.setIfInBounds_toArray,List.set_cons_succ,List.set_cons_zero]
          (repeat (first|(refine lexS_skip (by rfl) (by decide) ?_;simp only[Act.put,List.setIfInBounds_toArray,List.set_cons_succ,List.set_cons_zero])|(refine lexS_ewant (by rfl) (by decide) (by kernel_rfl) (by rfl) ?_;intro K hK;go_big_quiet_op;refine hK _ ?_;clear hK K)))
          refine lexS_ecall (f:=28) (args:=#[.pointer (some ⟨X.Q.b 16,0,none⟩),.int .i64 0]) (v:=.int .u64 E5) (by rfl) (by decide) (by kernel_rfl) (fun w=>by kernel_rfl) (fun x=>hcm _ x.h) ?_;simp only[Act.put,List.setIfInBounds_toArray,List.set_cons_succ,List.set_cons_zero]
          (repeat (first|(refine lexS_skip (by rfl) (by decide) ?_;simp only[Act.put,List.setIfInBounds_toArray,List.set_cons_succ,List.set_cons_zero])|(refine lexS_ewant (by rfl) (by decide) (by kernel_rfl) (by rfl) ?_;intro K hK;go_big_quiet_op;refine hK _ ?_;clear hK K)))
          refine lexS_ecall (f:=17) (args:=#[.pointer (some ⟨X.Q.b 16,0,none⟩)]) (v:=.int .u64 T) (by rfl) (by decide) (by kernel_rfl) (fun w=>by kernel_rfl) (fun x=>htm _ x.h) ?_;simp only[Act.put,List.setIfInBounds_toArray,List.set_cons_succ,List.set_cons_zero]
          (repeat (first|(refine lexS_skip (by rfl) (by decide) ?_;simp only[Act.put,List.setIfInBounds_toArray,List.set_cons_succ,List.set_cons_zero])|(refine lexS_ewant (by rfl) (by decide) (by kernel_rfl) (by rfl) ?_;intro K hK;go_big_quiet_op;refine hK _ ?_;clear hK K)))
          refine lexS_early (by rfl) (by decide) (by kernel_rfl) (.int .u64 z) (fun x=>?_) ?_
          ·unfold does
           go_simp
           exact⟨x.h,rfl⟩
          simp only[Act.put,List.setIfInBounds_toArray,List.set_cons_succ,List.set_cons_zero];refine lexS_callT (f:=15) (args:=#[.pointer (some ⟨X.Q.b 16,0,none⟩),.int .u64 z]) (v:=.tuple #[]) (by rfl) (by rfl) (fun w=>by kernel_rfl) (fun W2 hW2=>htk _ hW2) ?_;simp only[Act.put,List.setIfInBounds_toArray,List.set_cons_succ,List.set_cons_zero];refine fun wC hwC=>?_;obtain⟨a7,hIC,q4,q5,q6⟩:=hwC;go_wp2;go_meet;have hzz:=HZ.out;have hTT:=HT5.out;have hEE:=HE5.out;refine⟨a7,hIC,(HL5.out.idle (T':=a7.s.time) fun b t hb=>?_).more (Nat.zero_le _),q5,q6,by omega,by omega⟩;have:=hIC.side.lst.1 b t hb;omega
       case rest=>
        obtain⟨a7,hI8,hL8,e1,e2,e3,e4⟩:=hcut;have hTT:=HT5.out;have hkk:=HHL.out;clear hI7 hq hE5;obtain⟨q,hq⟩:∃q,q=decide (a7.s.cmp≤a7.s.time):=⟨_,rfl⟩;have hpn:=side_pend hI8.side;rw[←hq] at hpn;have HQ:=Lib.hid hq;clear hq
        go_wp2_with (go_at_call 27;fail)
        refine hpn.mono ?_;rintro e w8 ⟨rfl,t8,s8⟩;have hI9:=hI8.side' t8 s8 (fun k e=>(hXn k e).1);clear hI8 t8 s8 hpn
        cases q with
        |true=>
          have hcq:a7.s.cmp≤a7.s.time:=of_decide_eq_true HQ.out.symm;have htk:=side_tick hI9.side (n:=L) (by omega)
          go_wp2_with (go_at_call 15;fail)
          refine htk.mono ?_;rintro e w9 ⟨rfl,t9,a9,s9,f1,f2,f3⟩;have hI10:=hI9.side' t9 s9 (fun k e=>(hXn k e).1);obtain⟨ls9,hW9⟩:=s9.wl
          have hfl:fs.length<900000:=by have:=hL8.cnt;simp at this;omega
          have hsv:=serve29 hI10.side hgap (by omega) hI10.sz (by omega) (by omega) hfl;clear hI9 t9 s9 htk
          go_wp2_with (go_at_call 29;fail)
          refine hsv.mono ?_;rintro e w10 ⟨a10,S10,D,now,gs,rfl,t10,k10,s10,qd⟩;have hl10:=hL8.serve qd hW9.pool (by have:=hW9.hr;omega) f1 rfl (Nat.le_refl _);have g1:=qd.left;have g2:=qd.left2;have g3:=qd.t3;have g4:=qd.t2;have g5:=qd.base;have g6:=qd.t1;have hI11:=hI10.serve t10 k10 s10 (fun k e=>(hXn k e).1);clear hsv hI10 t10 k10 s10 qd hW9 hL8 HL5;go_wp2
          go_roundg (30-(k+1))
          case measure=>rw[hg];exact Nat.sub_lt_sub_left hlt6 (Nat.lt_succ_self k)
          case rel=>exact⟨k+1,_,_,_,S10,a10,hlt,hlt6,rfl,by simp,by simp;omega,hI11,hl10,by omega,⟨by omega,by omega,by omega⟩⟩
        |false=>
          have hcq:a7.s.time<a7.s.cmp:=by have:=of_decide_eq_false HQ.out.symm;omega
          have hl10:=hL8.idle (T':=a7.s.time) (fun b t hb=>by have:=hI9.side.lst.1 b t hb;omega);clear hL8 HL5;go_wp2
          go_roundg (30-(k+1))
          case measure=>rw[hg];exact Nat.sub_lt_sub_left hlt6 (Nat.lt_succ_self k)
          case rel=>exact⟨k+1,_,_,_,S',a7,hlt,hlt6,rfl,by simp,by simp;omega,hI9,hl10,by omega,⟨by omega,by omega,by omega⟩⟩
    ·go_wp2
     go_meet;exact⟨H,U,fs,S,a,by omega,hI,hLat,hbase,by omega,l2,by omega⟩
   ·go_wp2
    go_meet;exact⟨H,U,fs,S,a,by omega,hI,hLat,hbase,by omega,l2,by omega⟩
 case rest=>
  obtain⟨H,U,fs,S,a,hH30,hI,hLat,hbase,l1,l2,l3⟩:=hcut;clear hX hB0 hz0 ha1 ha2 ha3 hp hp2 hxs hys
  go_upto_block 2 with fail
  go_cut [18] from 113 to 136 (fun _ wx=>∃fs S a,Two2 W X n0 fs a S u13 u14 H U wx∧Lat (12*G) L H U fs S a.s.time 0∧S.p.n=0)
  case first=>
   go_wp2_with fail
   go_loopg [18] 400 (fun g i wr=>∃j fs S a,j≤400∧g=400-j∧i=.int .i64 (j:Int)∧Two2 W X n0 fs a S u13 u14 H U wr∧Lat (12*G) L H U fs S a.s.time 0∧S.base≤a.s.time∧S.p.n+j≤30∧12*S.p.n≤a.left∧a.left≤1000∧a.s.time≤120000+200*j)
   case atStart=>exact⟨0,fs,S,a,Nat.zero_le _,rfl,rfl,hI,hLat,hbase,by have:=hLat.cnt;omega,by have:=hLat.cnt;omega,l2,by omega⟩
   case round=>
    clear hI hLat hbase l1 l2 l3;clear fs S a;obtain⟨j,fs,S,a,hj,hg,rfl,hI,hLat,hbase,hnj,l1,l2,l3⟩:=hrel
    have hj4:decide ((j:Int)<400)=true:=by simp;omega
    have hlv:=side_live hI.side;obtain⟨n,hn⟩:∃n,n=S.p.n:=⟨_,rfl⟩;rw[←hn] at hlv hnj l1;have HN:=Lib.hid hn;clear hn
    go_wp2_with (go_at_call 30;fail)
    refine hlv.mono ?_;rintro e w2 ⟨rfl,t2,s2⟩;have hI2:=hI.side' t2 s2 (fun k e=>(hXn k e).1);clear hI t2 s2 hlv
    by_cases h0:0<n
    ·have h0d:decide ((0:Int)<(n:Int))=true:=by simp;exact h0
     have hcl:a.s.cmp<100000∧∃b t,S.p.ent b=some t∧t.d=a.s.cmp:=by
      rcases hI2.side.lst.2 with⟨b,t,h1,h2⟩|⟨h1,_⟩
      ·have:=(hLat.live b t h1).1
       exact⟨by omega,b,t,h1,h2⟩
      ·obtain⟨ls,hW⟩:=hI2.side.wl
       have:=hW.pool.zero.2 h1;have:=HN.out;omega
     have HCL:=Lib.hid hcl.2;have hc1:=hcl.1;clear hcl;obtain⟨q,hq⟩:∃q,q=decide (a.s.cmp≤a.s.time):=⟨_,rfl⟩;have hpn:=fun w (h:SideAt X n0 fs a S w)=>side_pend h;rw[←hq] at hpn;have HQ:=Lib.hid hq;clear hq
     go_upto_if 124 with(go_at_call 27;refine(hpn _ hI2.side).mono ?_;rintro e w3 ⟨rfl,t3,s3⟩)
     have hI3:=hI2.side' t3 s3 (fun k e=>(hXn k e).1);clear hI2 t3 s3 hpn
     go_cut [] from 125 to 131 (fun wx=>∃a7,Two2 W X n0 fs a7 S u13 u14 H U wx∧Lat (12*G) L H U fs S a7.s.time 0∧a7.s.cmp≤a7.s.time∧a7.s.cmp=a.s.cmp∧a7.left=a.left∧a.s.time≤a7.s.time∧a7.s.time≤120000+200*j)
     case first=>
      cases q with
      |true=>
        have hcq:a.s.cmp≤a.s.time:=of_decide_eq_true HQ.out.symm;go_wp2;go_meet;exact⟨a,hI3,hLat,hcq,rfl,rfl,Nat.le_refl _,l3⟩
      |false=>
        have hcq:a.s.time<a.s.cmp:=by have:=of_decide_eq_false HQ.out.symm;omega
        obtain⟨E,hE⟩:∃E,E=a.s.cmp:=⟨_,rfl⟩;obtain⟨T,hT5⟩:∃T,T=a.s.time:=⟨_,rfl⟩
        have hsub:IntKind.u64.wrap ((E:Int)-(T:Int))=((E-T:Nat):Int):=by
         rw[IntWalk.u64_in _ ⟨by omega,by omega⟩];omega
        obtain⟨z,hz⟩:∃z,z=E-T:=⟨_,rfl⟩;rw[←hz] at hsub;have hcm:=side_cmp hI3.side;rw[←hE] at hcm;have HE:=Lib.hid hE;have HT5:=Lib.hid hT5;have HZ:=Lib.hid hz;clear hE hT5 hz
        go_wp2_with (go_at_call 28;fail)
        refine hcm.mono ?_;rintro e w4 ⟨rfl,t4,s4⟩;have hI4:=hI3.side' t4 s4 (fun k e=>(hXn k e).1);have htm:=side_time hI4.side;rw[←HT5.out] at htm;clear hcm hI3 t4 s4
        go_wp2_with (go_at_call 17;fail)
        refine htm.mono ?_;rintro e w5 ⟨rfl,t5,s5⟩;have hI5:=hI4.side' t5 s5 (fun k e=>(hXn k e).1);have htk:=side_tick hI5.side (n:=z) (by have:=HZ.out;have:=HE.out;omega);clear htm hI4 t5 s5
        go_wp2_with (go_at_call 15;fail)
        refine htk.mono ?_;rintro e w6 ⟨rfl,t6,a7,s7,q4,q5,q6⟩;have hI6:=hI5.side' t6 s7 (fun k e=>(hXn k e).1);clear htk hI5 t6 s7;go_wp2;go_meet;have hzz:=HZ.out;have hTT:=HT5.out;have hEE:=HE.out;refine⟨a7,hI6,hLat.idle (T':=a7.s.time) fun b t hb=>?_,by omega,q5,q6,by omega,by omega⟩;have:=hI6.side.lst.1 b t hb;omega
     case rest=>
      obtain⟨a7,hI4,hL4,c1,c2,c3,c4,c5⟩:=hcut;clear hI3 hLat;have htk:=side_tick hI4.side (n:=L) (by omega)
      go_wp2_with (go_at_call 15;fail)
      refine htk.mono ?_;rintro e w9 ⟨rfl,t9,a9,s9,f1,f2,f3⟩;have hI10:=hI4.side' t9 s9 (fun k e=>(hXn k e).1);obtain⟨ls9,hW9⟩:=s9.wl
      have hfl:fs.length<900000:=by have:=hL4.cnt;omega
      have hsv:=serve29 hI10.side hgap (by omega) hI10.sz (by omega) (by omega) hfl;clear hI4 t9 s9 htk
      go_wp2_with (go_at_call 29;fail)
      refine hsv.mono ?_;rintro e w10 ⟨a10,S10,D,now,gs,rfl,t10,k10,s10,qd⟩;have hr9:=hW9.hr;have hl10:=hL4.serve qd hW9.pool (by omega) f1 rfl (Nat.zero_le _);have g1:=qd.left;have g2:=qd.left2;have g3:=qd.t3;have g4:=qd.t2;have g5:=qd.base;have g6:=qd.t1
      have g7:S10.p.n+1≤n:=by
       have h1:=dropL_cnt (by omega) hW9.pool qd.nodup (fun b hb=>by obtain⟨t,ht,_⟩:=(qd.mem b).1 hb;exact⟨t,ht⟩);obtain⟨b,t,h2,h3⟩:=HCL.out;have h4:b∈D:=(qd.mem b).2 ⟨t,h2,by omega⟩;have h5:=List.length_pos_of_mem h4;rw[qd.p];have:=HN.out;omega
      have hI11:=hI10.serve t10 k10 s10 (fun k e=>(hXn k e).1);clear hsv hI10 t10 k10 s10 qd hW9 hL4;go_wp2
      go_roundg (400-(j+1))
      case measure=>rw[hg];exact Nat.sub_lt_sub_left (by omega) (Nat.lt_succ_self j)
      case rel=>exact⟨j+1,_,S10,a10,by omega,rfl,by simp,hI11,hl10,by omega,by omega,by omega,by omega,by omega⟩
    ·have h0d:decide ((0:Int)<(n:Int))=false:=by simp;omega
     go_wp2;go_meet;exact⟨fs,S,a,hI2,hLat,by have:=HN.out;omega⟩
  case rest=>
   clear hI hLat hbase l1 l2 l3;clear fs S a;obtain⟨fs,S,a,hI,hLat,hn0⟩:=hcut;obtain⟨m,hm⟩:∃m,m=H.length:=⟨_,rfl⟩
   have hfm:fs.length=m:=by have:=hLat.cnt;omega
   have hum:U.length=m:=by rw[hm];exact hLat.len
   have hm30:m≤30:=by omega
   have hfx:=side_fires hI.side (by omega)
   go_wp2_with (go_at_call 31;fail)
   refine hfx.mono ?_;rintro e w2 ⟨v,rfl,hrow,hb2⟩;have hI2:=hI.below hb2;have hzz:=hI.sz;have htr:=hI2.t;have hur:=hI2.u;rw[←hm] at htr;rw[hum] at hur;rw[hfm] at hrow;obtain⟨qf,cf,rfl,hml,_⟩:=row_four hrow;obtain⟨qt,ct,ht,_⟩:=row_cell htr;obtain⟨qu,cu,hu,_⟩:=row_cell hur;have hlv:=side_live hI2.side;rw[hn0] at hlv;have HROW:=Lib.hid hrow;have HTR:=Lib.hid htr;have HUR:=Lib.hid hur;have HI2:=Lib.hid hI2;have HM:=Lib.hid hm;have HFM:=Lib.hid hfm;have HUM:=Lib.hid hum;clear hrow htr hur hI hfx hm hfm hum hb2;subst ht;subst hu
   go_wp2_with (go_at_call 30;fail)
   refine hlv.mono ?_;rintro e w3 ⟨rfl,t3,s3⟩;have hB3:=(HI2.out.side' t3 s3 (fun k e=>(hXn k e).1)).bel;have hr3:=rows_keep HROW.out t3 (fun k e h=>by have:=hXn k e;omega);have ht3:=rows_keep HTR.out t3 (fun k e h=>by have:=hXn k e;omega);have hu3:=rows_keep HUR.out t3 (fun k e h=>by have:=hXn k e;omega);obtain⟨qf',cf',he1,_,hcf⟩:=row_four hr3;obtain⟨qt',ct',he2,hct⟩:=row_cell ht3;obtain⟨qu',cu',he3,hcu⟩:=row_cell hu3;cases he1;cases he2;cases he3
   have hfc:∀i,i<m→∃(gf:Nat) (f:Nat×Nat×Nat×Int),qf=some ⟨gf,0,none⟩∧f∈fs∧w3.cell? ⟨gf,i*4,none⟩=some (.int .u64 f.1)∧w3.cell? ⟨gf,i*4+2,none⟩=some (.int .u64 f.2.2.1):=by
    intro i hi
    have hil:i<fs.length:=by rw[HFM.out];exact hi
    have hg:=List.getElem?_eq_getElem hil;obtain⟨gf,h1,h2⟩:=hcf (by omega);obtain⟨q1,q2⟩:=fire_cell fs i _ hg;exact⟨gf,_,h1,List.mem_of_getElem? hg,h2 _ _ q1,h2 _ _ q2⟩
   have htc:∀k,k<m→∃(gt gu h u:Nat),qt=some ⟨gt,0,none⟩∧qu=some ⟨gu,0,none⟩∧H[k]?=some h∧U[k]?=some u∧w3.cell? ⟨gt,k,none⟩=some (.int .u64 h)∧w3.cell? ⟨gu,k,none⟩=some (.int .u64 u):=by
    intro k hk;have h1:=List.getElem?_eq_getElem (show k<H.length by rw[←HM.out];exact hk);have h2:=List.getElem?_eq_getElem (show k<U.length by rw[HUM.out];exact hk);obtain⟨gt,cur,a1,_,a3,a4⟩:=hct k (.int .u64 ((H[k]'(by rw[←HM.out];exact hk):Nat):Int)) (by unfold u64C;rw[List.getElem?_map,h1];rfl);obtain⟨gu,cur2,b1,_,b3,b4⟩:=hcu k (.int .u64 ((U[k]'(by rw[HUM.out];exact hk):Nat):Int)) (by unfold u64C;rw[List.getElem?_map,h2];rfl);exact⟨gt,gu,_,_,a1,b1,h1,h2,Blk.cell (show Blk w3 gt cur 37 from a3) k a4,Blk.cell (show Blk w3 gu cur2 37 from b3) k b4⟩
   have HFC:=Lib.hid hfc;have HTC:=Lib.hid htc;clear hfc htc hcf hct hcu hr3 ht3 hu3 t3 HI2 HROW HTR HUR hlv;go_wp2
   go_loopg [20] m (fun g i wr=>∃j,j≤m∧g=m-j∧i=.int .i64 (j:Int)∧Below w3.heap.size w3 wr)
   case atStart=>exact⟨0,Nat.zero_le _,rfl,rfl,Below.refl _ _⟩
   case round=>
    obtain⟨j,hj,hg,rfl,hbw⟩:=hrel
    by_cases hlt:j<m
    ·obtain⟨gf,f,rfl,hff,f1,f2⟩:=HFC.out j hlt
     have hltm:decide ((j:Int)<(m:Int))=true:=by simp;exact hlt
     have HG:=Lib.hid hg;clear hg;go_wp2
     go_loopg [21] m (fun g i wr'=>∃k,k≤m∧g=m-k∧i=.int .i64 (k:Int)∧Below w3.heap.size w3 wr')
     case atStart=>exact⟨0,Nat.zero_le _,rfl,rfl,hbw⟩
     case round=>
      clear hbw;obtain⟨k,hk,hg,rfl,hbw⟩:=hrel
      by_cases hltk:k<m
      ·obtain⟨gt,gu,h,u,rfl,rfl,e1,e2,t1,t2⟩:=HTC.out k hltk
       have hltm2:decide ((k:Int)<(m:Int))=true:=by simp;exact hltk
       have d1:=cell_of hbw f1 (Nat.le_refl _);have d2:=cell_of hbw f2 (Nat.le_refl _);have d3:=cell_of hbw t1 (Nat.le_refl _);have d4:=cell_of hbw t2 (Nat.le_refl _)
       by_cases he:h=f.1
       ·have hle:f.2.2.1≤u:=hLat.late hff (by rw[e1,he]) e2
        have hdd:decide ((u:Int)<(f.2.2.1:Int))=false:=by simp;exact hle
        have hee:((h:Int)==(f.1:Int))=true:=by simp;omega
        generalize f.1=fa at *;generalize f.2.2.1=fc at *;subst he;clear t1 t2 e1 e2;go_wp2
        go_quiet (fail)
        go_wp2
        all_goals first|(exfalso;omega)|skip
        go_roundg (m-(k+1))
        case measure=>rw[hg];exact Nat.sub_lt_sub_left hltk (Nat.lt_succ_self k)
        case rel=>exact⟨k+1,hltk,rfl,by simp,below_drewN hbw _⟩
       ·have hee:((h:Int)==(f.1:Int))=false:=by simp;omega
        generalize f.1=fa at *;generalize f.2.2.1=fc at *;clear t1 t2 e1 e2;go_wp2
        go_quiet (fail)
        go_wp2
        all_goals first|(exfalso;omega)|skip
        go_roundg (m-(k+1))
        case measure=>rw[hg];exact Nat.sub_lt_sub_left hltk (Nat.lt_succ_self k)
        case rel=>exact⟨k+1,hltk,rfl,by simp,below_drewN hbw _⟩
      ·have hltm2:decide ((k:Int)<(m:Int))=false:=by simp;omega
       go_wp2
       go_roundg (m-(j+1))
       case measure=>rw[HG.out];exact Nat.sub_lt_sub_left hlt (Nat.lt_succ_self j)
       case rel=>exact⟨j+1,hlt,rfl,by simp,hbw⟩
    ·have hltm:decide ((j:Int)<(m:Int))=false:=by simp;omega
     have s4:=s3.below hbw;have hlv2:=side_lives s4;have hB4:=hB3.trans (hbw.mono hB3.size)
     go_wp2_with (go_at_call 21;fail)
     refine hlv2.mono ?_;rintro e w5 ⟨rfl,hb5⟩;go_wp2;refine bodyPost_ret (v:=.bool true) ?_ rfl ⟨rfl,hB4.trans (hb5.mono hB4.size)⟩;simp[results,Tryz.results4,go_sem]
end Go.Proofs.YtkndlfdpmpdihaaGreatDoor
namespace Go.Proofs.YtkndlfdpmpdihaaGreatDoor
open Go.ChangeShapes Go.WideShapes Go.Deep Go.RowKit
set_option linter.unusedVariables false
set_option maxRecDepth 100000
theorem wf_u64' {n:Int} (h:(Lit.int .u64 n).wf=true):0≤n∧n≤18446744073709551615:=by
 simp[Lit.wf,IntKind.min,IntKind.max,IntKind.signed,IntKind.bits] at h;omega
theorem nums56 {H:Type} {enc:TypeId×Value→H} {W:World} {v:Value} {d:DataW H} {p:List MemPlace} (hv:∃a len cap,v=.slice a len cap) (h:DataW.Trod enc Tryz.prog W 0 (fun _=>true) true 56 v d p) :
 ∃(A:Option Addr) (len cap:Nat) (xs:Nat→Nat),v=.slice A len cap∧len≤maxLen∧(∀j,xs j<18446744073709551616)∧(0<len→∃b off,A=some ⟨b,off,none⟩∧b<W.heap.size∧∀j,j<len→W.cell? ⟨b,off+j,none⟩=some (.int .u64 (xs j))):=by
 obtain⟨fuel,hf⟩:=h;obtain⟨A,l0,c0,rfl⟩:=hv;rcases open_slice Tryz.underlying56 hf with⟨hcs,_⟩|⟨a,len,cap,m,n,D,Pl,hcs,_,hl,hm,hmm,_,hi'⟩
 ·simp[Value.cells] at hcs
  obtain⟨rfl,rfl,rfl⟩:=hcs;exact⟨_,_,_,fun _=>0,rfl,Nat.zero_le _,fun _=>Nat.zero_lt_succ _,fun h=>absurd h (by omega)⟩
 ·simp[Value.cells] at hcs
  obtain⟨rfl,rfl,rfl⟩:=hcs;rw[show Tryz.prog.cellsOf 37=1 by kernel_rfl] at hi'
  have cellAt:∀i,i<l0→∃x:Nat,x<18446744073709551616∧W.cell? (a.add (i*1))=some (.int .u64 x):=fun i hil=>by
   obtain⟨cs,hc,ht'⟩:=hi' i (by rw[hmm];simp;omega);obtain⟨x,g,_,wx⟩:=DataW.trod_int Tryz.underlying37 ht';subst g;obtain⟨_,_,hcell⟩:=World.cells?_some hc;have c0:=hcell 0 (by omega);have b:=wf_u64' wx;refine⟨x.toNat,by omega,?_⟩;rw[show ((x.toNat:Nat):Int)=x by omega];simpa[Addr.add] using c0
  refine⟨_,_,_,fun i=>if h:i<l0 then Classical.choose (cellAt i h) else 0,rfl,Nat.le_trans hl hm,fun j=>?_,fun h0=>?_⟩
  ·by_cases h:j<l0
   ·simp only[dif_pos h]
    exact(Classical.choose_spec (cellAt j h)).1
   ·simp only[dif_neg h]
    omega
  ·obtain⟨x0,_,hx0⟩:=cellAt 0 h0
   obtain⟨sb,so,spot⟩:=a
   have hspot:spot=none:=by simpa[Addr.add] using World.cell?_spot hx0
   subst hspot;refine⟨sb,so,rfl,?_,fun j hj=>?_⟩
   ·exact World.block_lt_of_cell? W _ hx0
   ·simp only[dif_pos hj]
    have hx:=(Classical.choose_spec (cellAt j hj)).2;generalize Classical.choose (cellAt j hj)=y at *;rw[Addr.add_lit,Nat.mul_one] at hx;exact hx
end Go.Proofs.YtkndlfdpmpdihaaGreatDoor
namespace Go.Proofs.YtkndlfdpmpdihaaGreatDoor
open Go.ChangeShapes Go.WideShapes Go.Deep Go.RowKit
set_option linter.unusedVariables false
set_option linter.unusedSimpArgs false
set_option maxRecDepth 100000
theorem wf_u32' {n:Int} (h:(Lit.int .u32 n).wf=true):0≤n∧n≤4294967295:=by
 simp[Lit.wf,IntKind.min,IntKind.max,IntKind.signed,IntKind.bits] at h;omega
end Go.Proofs.YtkndlfdpmpdihaaGreatDoor
