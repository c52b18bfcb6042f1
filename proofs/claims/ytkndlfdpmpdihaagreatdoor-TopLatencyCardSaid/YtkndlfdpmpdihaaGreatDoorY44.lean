/- A new service, as the laws make it. A service whole: its board, its wheel, its clock, its log. The interrupt is served: what is due is told. The interrupt is served, whole. The wheel as TopGaps fills it; what is due in its order; plain law. The service as TopGaps uses it. TopLatency: what its timers Conditions: those that each statement shows. -/
import Derived.Test.YtkndlfdpmpdihaaGreatDoorY43
import Derived.Test.YtkndlfdpmpdihaaGreatDoorY42
import Derived.Test.YtkndlfdpmpdihaaGreatDoorY16
import Derived.Test.YtkndlfdpmpdihaaGreatDoorY21
import Derived.Deep.CutBlock
namespace Go.Proofs.YtkndlfdpmpdihaaGreatDoor
open Go.RowKit Go.Ev Go.Mv
set_option linter.unusedVariables false
set_option linter.unusedSimpArgs false
set_option maxRecDepth 100000
def MadeW (n0 r left:Nat) (gl:List Nat) (v:Value) (w':World):Prop:=∃(Q:QB) (hb:Nat) (B:WB) (Z:SB) (kb lb mb:Nat) (a:AS),v=.pointer (some ⟨Z.b,0,none⟩) ∧
 SvcAt (deskBI Q hb) B Z a ws0 w'∧a.s=bt0∧a.am=18446744073709551615∧a.left=left∧Q.gl=gl∧Z.room=r∧B.p.room=r∧B.c.room=r∧(∀k,DF Q hb k∨B.all k→n0≤k)∧n0≤Z.b ∧
 Extra Q hb B Z kb lb mb∧Blk w' kb #[.pointer (some ⟨Q.pb,0,none⟩),.int .u64 0] 207∧Blk w' lb #[.slice none 0 0,.map (some mb)] 242∧w'.heap[mb]?=some (.map #[] 0)∧n0≤kb∧n0≤lb∧n0≤mb
section
variable {w:World}
theorem made60 (hT:Tabs w) {r left:Nat} (h1:1≤r) (h2:r≤31) (hleft:left≤536870912) {p:Option Addr} {cap:Nat} {gl:List Nat} (hl:gl.length≤64) (hv:∀v∈gl,v<4294967296) (hp:p=none∨∃b off,p=some ⟨b,off,none⟩) (hin:GapsIn p gl w) :
 Calls Tryz.prog 60 #[.int .i64 1,.int .i64 0,.int .i64 r,.slice p gl.length cap] w fun e w'=>∃v,e=.returned v∧Below w.heap.size w w'∧MadeW w.heap.size r left gl v w':=by
 have h8:=hT.1;have hpn:∀ {w b s},BoardAt b s w→GapsIn p gl w→_:=fun{w b s} h hi=>pnew8 (w:=w) (b:=b) (s:=s) h (cap:=cap) hl hv hp hi;obtain⟨n,hn⟩:∃n,n=gl.length:=⟨_,rfl⟩;rw[←hn] at hpn ⊢;have HN:=Lib.hid hn;clear hn;go_enter Tryz.func60,Tryz.ntmps60
 go_wp2_with (go_at_call 7;fail)
 refine(bnew hT).mono ?_;rintro e w1 ⟨b,rfl,hb1,hB1,hft⟩
 have hin1:GapsIn p gl w1:=fun hn=>by
  obtain⟨b,off,h1,h2,h3⟩:=hin hn;exact⟨b,off,h1,Nat.lt_of_lt_of_le h2 hb1.size,fun j v hj=>(hb1.cell (p:=⟨b,off+j,none⟩) h2).trans (h3 j v hj)⟩
 go_wp2_with (go_at_call 8;fail)
 refine(hpn hB1 hin1).mono ?_;rintro e w2 ⟨Q,rfl,hb2,hP2,hQb,hQl,hQp,hQg⟩;subst hQb;have hB2:=hb1.trans (hb2.mono hb1.size);have hsz1:=hb1.size;have hsz2:=hb2.size
 have h0:∀k,Q.ft k→w.heap.size≤k:=by
  rintro k (hk|rfl|⟨hn,rfl⟩)
  ·exact hft k hk
  ·omega
  ·have:=hQg (by rw[←hQl];exact hn)
   omega
 have hv1:=vnew101 hP2 (hT.below h8 hB2) h8 h0 (by omega) h1 h2 (left:=left) (by show 0+left<_;omega) (by show 0+left*4294967296<_;omega);clear hpn hin1 hB1 hft hQp hQg hb1 hb2
 go_wp2_with (go_at_call 101;fail)
 refine hv1.mono ?_;rintro e w3 ⟨hb,B,Z,kb,lb,mb,rfl,hb3,hs3,x1,x2,x3,x4,x5,x6,x7,x8,x9,x10,x11,x12⟩;go_wp2;refine bodyPost_ret (v:=.pointer (some ⟨Z.b,0,none⟩)) ?_ rfl ⟨_,rfl,hB2.trans hb3,Q,hb,B,Z,kb,lb,mb,_,rfl,hs3,rfl,rfl,rfl,hQl,x1,x2,x3,x4,x5,x6,x7,x8,x9,x10,x11,x12⟩;simp[results,Tryz.results60,go_sem]
end
structure Side where
 Q:QB
 hb:Nat
 B:WB
 Z:SB
 kb:Nat
 lb:Nat
 mb:Nat
def Side.all (X:Side):Nat→Prop:=fun r=>DF X.Q X.hb r∨X.B.all r∨r=X.Z.b∨r=X.kb∨r=X.lb∨r=X.mb
structure SideAt (X:Side) (nL:Nat) (fs:List (Nat×Nat×Nat×Int)) (a:AS) (S:WS) (w:World):Prop where
 svc:SvcAt (deskBI X.Q X.hb) X.B X.Z a S w
 ext:Extra X.Q X.hb X.B X.Z X.kb X.lb X.mb
 clk:∃last,Blk w X.kb #[.pointer (some ⟨X.Q.pb,0,none⟩),last] 207
 wl:∃ls,WL X.B X.Z.room S ls
 lst:Least S.p a.s.cmp
 am:a.am=a.s.cmp
 log:LogAt X.lb X.mb nL fs w
 base:S.base<9223372036854775808
 hi:∀k,X.all k→8≤k
 lo:∀k,X.all k→k<nL
section
variable {X:Side} {nL:Nat} {fs:List (Nat×Nat×Nat×Int)} {a a':AS} {S S':WS} {w w':World}
theorem SideAt.desk (h:SideAt X nL fs a S w):DeskAt X.Q X.hb a w:=h.svc.board
theorem SideAt.lt (h:SideAt X nL fs a S w):∀k,X.all k→k<w.heap.size:=by
 obtain⟨v,f,n,q1,q2,_⟩:=h.log;obtain⟨l,hk⟩:=h.clk;have hl:=h.svc.wheel.lt;rintro k (e|e|rfl|rfl|rfl|rfl)
 ·exact h.desk.lt k e
 ·rcases e with(e|(e|e|e)|(e|e))|e|e<;>omega
 ·exact h.svc.lt
 ·exact hk.lt
 ·exact q1.lt
 ·exact q2.lt
theorem SideAt.tch (h:SideAt X nL fs a S w) {Y:Nat→Prop} (ht:Tch Y w w') (hy:∀k,Y k→¬X.all k∧8≤k) (hr:∀k,Y k→nL≤k→w.heap.size≤k):SideAt X nL fs a S w':=by
 obtain⟨l,hk⟩:=h.clk
 refine⟨h.svc.tch ht (fun e=>(hy _ e).1 (.inr (.inr (.inl rfl)))) (fun k hk e=>(hy k e).1 (.inr (.inl hk))) (fun k e=>⟨fun e2=>(hy k e).1 (.inl e2),(hy k e).2⟩),h.ext,
  ⟨l,(ht.block _ hk.lt (fun e=>(hy _ e).1 (.inr (.inr (.inr (.inl rfl)))))).trans hk⟩,h.wl,h.lst,h.am,h.log.tch ht (fun e=>(hy _ e).1 (.inr (.inr (.inr (.inr (.inl rfl)))))) (fun e=>(hy _ e).1 (.inr (.inr (.inr (.inr (.inr rfl)))))) hr,h.base,h.hi,h.lo⟩
theorem SideAt.below (h:SideAt X nL fs a S w) (hb:Below w.heap.size w w'):SideAt X nL fs a S w':=h.tch (Y:=fun _=>False) (Tch.of_below hb) (fun _ e=>e.elim) (fun _ e=>e.elim)
theorem SideAt.upd (h:SideAt X nL fs a S w) {Y:Nat→Prop} (ht:Tch Y w w') (hy:∀k,Y k→DF X.Q X.hb k∨X.B.own k) (hs:SvcAt (deskBI X.Q X.hb) X.B X.Z a' S' w') (hw:∃ls,WL X.B X.Z.room S' ls) (hl:Least S'.p a'.s.cmp) (hm:a'.am=a'.s.cmp) (hb:S'.base<9223372036854775808):SideAt X nL fs a' S' w':=by
 obtain⟨l,hk⟩:=h.clk;have he:=h.ext;have hno:∀x,¬DF X.Q X.hb x→¬X.B.all x→¬Y x:=fun x h1 h2 e=>(hy x e).elim h1 (fun e2=>h2 (.inl e2))
 exact⟨hs,he,⟨l,(ht.block _ hk.lt (hno _ he.k.1 he.k.2.1)).trans hk⟩,hw,hl,hm,h.log.tch ht (hno _ he.l.1 he.l.2.1) (hno _ he.m.1 he.m.2.1) (fun k e hk=>by
  have:=h.lo k ((hy k e).elim .inl (fun e2=>.inr (.inl (.inl e2))))
  omega),hb,h.hi,h.lo⟩
theorem SideAt.own (h:SideAt X nL fs a S w) {Y:Nat→Prop} (ht:Tch Y w w') (hy:∀k,Y k→DF X.Q X.hb k∨X.B.own k):Tch X.all w w':=ht.mono fun k e=>(hy k e).elim .inl (fun e2=>.inr (.inl (.inl e2)))
theorem least_of {v:Nat} {b:Bool} (hl:Least S'.p (if b then v else 18446744073709551615)) (hm:a.am=a.s.cmp) {Q:QB} (hr:(a'=a∧a.am=if b then v else 18446744073709551615)∨ArmR Q a (if b then v else 18446744073709551615) a') :
 Least S'.p a'.s.cmp∧a'.am=a'.s.cmp∧(a.left≤a'.left+3∧a'.left≤a.left)∧a.s.time≤a'.s.time∧∀g,(∀n,Q.gap n≤g)→a'.s.time≤a.s.time+3*g:=by
 rcases hr with⟨rfl,h⟩|⟨h1,h2,h3,h4,h5⟩
 ·refine⟨?_,hm,⟨by omega,Nat.le_refl _⟩,Nat.le_refl _,fun g _=>by omega⟩
  rw[←hm,h];exact hl
 ·exact⟨by rw[h2];exact hl,by rw[h1,h2],⟨by omega,by omega⟩,h3,h4⟩
theorem side_at (h:SideAt X nL fs a S w) {d hv:Nat} (hn:S.p.n<X.Z.room) (hA:Ad X.B S d 0 hv S') (hw:∃ls,WL X.B X.Z.room S' ls) (hb:S'.base<9223372036854775808) (hl:3≤a.left) :
 Calls Tryz.prog 26 #[.pointer (some ⟨X.Z.b,0,none⟩),.int .u64 d,.int .u64 0] w fun e w'=>e=.returned (.tuple #[.int .u64 hv,.int .i64 0])∧Tch X.all w w' ∧
  ∃a',SideAt X nL fs a' S' w'∧(a.left≤a'.left+3∧a'.left≤a.left)∧a.s.time≤a'.s.time∧∀g,(∀n,X.Q.gap n≤g)→a'.s.time≤a.s.time+3*g:=by
 obtain⟨ls,hW⟩:=hw;obtain⟨v,b,hx,hL⟩:=hW.nxt;refine(sat_ok (p:=0) h.svc hn hA hx hl).mono ?_;rintro e w' ⟨rfl,ht,a',hs,hr⟩;obtain⟨r1,r2,r3,r4,r5⟩:=least_of hL h.am hr;exact⟨rfl,h.own ht (fun k e=>e),a',h.upd ht (fun k e=>e) hs ⟨ls,hW⟩ r1 r2 hb,r3,r4,r5⟩
theorem side_board (h:SideAt X nL fs a S w) {Y:Nat→Prop} (ht:Tch Y w w') (hy:∀k,Y k→DF X.Q X.hb k) (hd:DeskAt X.Q X.hb a' w') (hc:a'.s.cmp=a.s.cmp) (hm:a'.am=a.am):Tch X.all w w'∧SideAt X nL fs a' S w':=by
 have ht2:Tch (DF X.Q X.hb) w w':=ht.mono hy;exact⟨ht2.mono fun k e=>.inl e,h.upd ht2 (fun k e=>.inl e) (h.svc.boardT ht2 hd) h.wl (by rw[hc];exact h.lst) (by rw[hc,hm];exact h.am) h.base⟩
theorem side_pend (h:SideAt X nL fs a S w):Calls Tryz.prog 27 #[.pointer (some ⟨X.Z.b,0,none⟩)] w fun e w'=>e=.returned (.bool (decide (a.s.cmp≤a.s.time)))∧Tch X.all w w'∧SideAt X nL fs a S w':=by
 refine(spend27 h.svc).mono ?_;rintro e w' ⟨rfl,ht,hs⟩;exact⟨rfl,side_board h ht (fun k e=>e) hs.board rfl rfl⟩
theorem side_live (h:SideAt X nL fs a S w):Calls Tryz.prog 30 #[.pointer (some ⟨X.Z.b,0,none⟩)] w fun e w'=>e=.returned (.int .i64 (S.p.n:Int))∧Tch X.all w w'∧SideAt X nL fs a S w':=by
 refine(slive_at h.svc).mono ?_;rintro e w' ⟨rfl,ht,hs⟩;exact⟨rfl,side_board h ht (fun k e=>e) hs.board rfl rfl⟩
theorem side_time (h:SideAt X nL fs a S w):Calls Tryz.prog 17 #[.pointer (some ⟨X.Q.b 16,0,none⟩)] w fun e w'=>e=.returned (.int .u64 a.s.time)∧Tch X.all w w'∧SideAt X nL fs a S w':=by
 refine((deskBI X.Q X.hb).tm h.svc.board).mono ?_;rintro e w' ⟨rfl,ht,hs⟩;exact⟨rfl,side_board h ht (fun k e=>e) hs rfl rfl⟩
theorem side_cmp (h:SideAt X nL fs a S w):Calls Tryz.prog 28 #[.pointer (some ⟨X.Q.b 16,0,none⟩),.int .i64 0] w fun e w'=>e=.returned (.int .u64 a.s.cmp)∧Tch X.all w w'∧SideAt X nL fs a S w':=by
 refine((deskBI X.Q X.hb).cp h.svc.board).mono ?_;rintro e w' ⟨rfl,ht,hs⟩;exact⟨rfl,side_board h ht (fun k e=>e) hs rfl rfl⟩
theorem side_tick (h:SideAt X nL fs a S w) {n:Nat} (hn:a.s.time+n+a.left*4294967296<4611686018427387904):Calls Tryz.prog 15 #[.pointer (some ⟨X.Q.b 16,0,none⟩),.int .u64 n] w fun e w'=>e=.returned (.tuple #[])∧Tch X.all w w' ∧
 ∃a',SideAt X nL fs a' S w'∧a'.s.time=a.s.time+n∧a'.s.cmp=a.s.cmp∧a'.left=a.left:=by
 have hd:=h.desk;refine(btick hd.shot.port.board (n:=n) (by show a.s.time+n<_;omega)).mono ?_;rintro e w' ⟨rfl,ht,s',e1,e2,hB⟩;have e1':s'.time=a.s.time+n:=e1;have hd':DeskAt X.Q X.hb { a with s:=s' } w':=⟨hd.shot.portT (ht.mono fun r hr=>.inl hr) (hd.shot.port.boardT ht hB),hd.made,by show s'.time+a.left*4294967296<_;omega,tabs_tch hd.tabs ht (fun k e=>hd.shot.port.board.hi k e)⟩;obtain⟨q1,q2⟩:=side_board (a':={ a with s:=s' }) h ht (fun k e=>.inl (.inl e)) hd' e2 rfl;exact⟨rfl,q1,_,q2,e1',e2,rfl⟩
theorem side_port (h:SideAt X nL fs a S w):Calls Tryz.prog 24 #[.pointer (some ⟨X.Z.b,0,none⟩)] w fun e w'=>e=.returned (.pointer (some ⟨X.Q.pb,0,none⟩))∧w'=w:=by
 have c3:w.cell? ⟨X.Z.b,3,none⟩=some (.pointer (some ⟨X.Q.pb,0,none⟩)):=h.svc.blk.cell 3 rfl;go_enter Tryz.func24,Tryz.ntmps24;go_wp2;refine bodyPost_ret (v:=.pointer (some ⟨X.Q.pb,0,none⟩)) ?_ rfl ⟨rfl,rfl⟩;simp[results,Tryz.results24,go_sem]
theorem side_bd (h:SideAt X nL fs a S w):Calls Tryz.prog 25 #[.pointer (some ⟨X.Q.pb,0,none⟩)] w fun e w'=>e=.returned (.pointer (some ⟨X.Q.b 16,0,none⟩))∧w'=w:=pboard25 h.desk.shot.port
theorem side_lives (h:SideAt X nL fs a S w):Calls Tryz.prog 21 #[] w fun e w'=>e=.returned (.bool true)∧Below w.heap.size w w':=lives_any w h.desk.tabs
theorem SideAt.re (h:SideAt X nL [] a S w) {n:Nat} (hn:∀k,X.all k→k<n):SideAt X n [] a S w:=by
 obtain⟨v,f,n',q1,q2,q3,q4,q5,q6⟩:=h.log;have e:=q4 rfl;subst e;exact⟨h.svc,h.ext,h.clk,h.wl,h.lst,h.am,⟨_,f,n',q1,q2,World.ownsRow_nil _ _ _ _,q4,q5,q6⟩,h.base,h.hi,hn⟩
theorem side_fires (h:SideAt X nL fs a S w) (hm:fs.length<1000000):Calls Tryz.prog 31 #[.pointer (some ⟨X.Z.b,0,none⟩)] w fun e w'=>∃v,e=.returned v∧w'.ownsRow w.heap.size 71 4 v fs.length (fireCells fs)∧Below w.heap.size w w':=sfires_log h.svc h.ext.v4 h.log hm
end
theorem least0:Least ws0.p 18446744073709551615:=⟨fun a t h=>(by cases h),.inr ⟨fun a=>rfl,rfl⟩⟩
theorem side_made {n0 r left:Nat} {gl:List Nat} {v:Value} {w:World} (h:MadeW n0 r left gl v w) (h8:8≤n0) (hr:r≤31):∃(X:Side) (a:AS),v=.pointer (some ⟨X.Z.b,0,none⟩)∧SideAt X w.heap.size [] a ws0 w∧a.s=bt0∧a.left=left∧X.Q.gl=gl∧X.Z.room=r∧∀k,X.all k→n0≤k:=by
 obtain⟨Q,hb',B,Z,kb,lb,mb,a,x1,hs,x2,x3,x4,x5,x6,x7,x8,x9,x10,x11,z0,z1,z2,x12,x13,x14⟩:=h
 have hall:∀k,Side.all ⟨Q,hb',B,Z,kb,lb,mb⟩ k→n0≤k:=by
  rintro k (e|e|rfl|rfl|rfl|rfl)
  ·exact x9 k (.inl e)
  ·exact x9 k (.inr e)
  ·exact x10
  ·exact x12
  ·exact x13
  ·exact x14
 have hk:∀n,(∀k,Side.all ⟨Q,hb',B,Z,kb,lb,mb⟩ k→k<n)→SideAt ⟨Q,hb',B,Z,kb,lb,mb⟩ n [] a ws0 w:=fun n hn=>
  ⟨hs,x11,⟨_,z0⟩,⟨_,wl0 (x7.trans x6.symm) (x8.trans x6.symm) (by show Z.room≤31;omega) (fun e=>by have:=x9 2 (.inr (.inl e));omega)⟩,by rw[x2];exact least0,by rw[x3,x2];rfl,log0 n z1 z2,by show 0<_;omega,fun k e=>Nat.le_trans h8 (hall k e),hn⟩
 have hd:DeskAt Q hb' a w:=hs.board;have hl:=hs.wheel.lt;refine⟨⟨Q,hb',B,Z,kb,lb,mb⟩,a,x1,hk _ ?_,x2,x4,x5,x6,hall⟩;rintro k (e|e|rfl|rfl|rfl|rfl)
 ·exact hd.lt k e
 ·rcases (show B.all k from e) with(e|(e|e|e)|(e|e))|e|e<;>omega
 ·exact hs.lt
 ·exact z0.lt
 ·exact z1.lt
 ·exact(Array.getElem?_eq_some_iff.1 z2).1
theorem row_due {w:World} {base:Nat} {v:Value} {p:PS} {D:List Nat} (h:w.ownsRow base 140 3 v D.length (dueCells p D)):∃(q:Option Addr) (c:Nat),v=.slice q D.length c∧∀(i a:Nat),D[i]?=some a→∃(g:Nat) (cur:Array Value),q=some ⟨g,0,none⟩∧base≤g∧w.heap[g]?=some (.cells cur 140 (0,0))∧cur[i*3]?=some (.int .u64 (hN p a:Nat))∧cur[i*3+1]?=some (.int .u64 (p.tm a).d):=by
 have hcells:∀(D:List Nat) (i a:Nat),D[i]?=some a→(dueCells p D)[i*3]?=some (.int .u64 (hN p a:Nat))∧(dueCells p D)[i*3+1]?=some (.int .u64 (p.tm a).d):=by
  intro D
  induction D with
  |nil=>intro i a hj;cases hj
  |cons x l ih=>
    intro i a hj
    cases i with
    |zero=>cases hj;exact⟨rfl,rfl⟩
    |succ i=>
      have hq:=ih i a hj;rw[show (i+1)*3=i*3+3 from by omega];exact hq
 have hxl:=h.1;rcases h.2 with⟨rfl,h0⟩|⟨g,cap,cur,rfl,hb,hgb,_,_,hcs,htk⟩
 ·exact⟨none,0,by rw[h0],fun i a hj=>by have:=(List.getElem?_eq_some_iff.1 hj).1;omega⟩
 ·refine⟨_,_,rfl,fun i a hj=>?_⟩
  obtain⟨p1,p2⟩:=hcells D i a hj
  have hcu:∀(m:Nat) (u:Value),(dueCells p D)[m]?=some u→cur[m]?=some u:=fun m u hm=>by
   have hml:=(List.getElem?_eq_some_iff.1 hm).1;rw[hxl] at hml;rw[←htk,List.getElem?_take_of_lt hml] at hm;simpa using hm
  exact⟨g,cur,rfl,hb,hgb,hcu _ _ p1,hcu _ _ p2⟩
def KeptX (E:TypeId) (n0 x:Nat) (w w':World):Prop:=∀(g:Nat) (cur:Array Value) (T:TypeId),T≠E→n0≤g→g≠x→w.heap[g]?=some (.cells cur T (0,0))→w'.heap[g]?=some (.cells cur T (0,0))
theorem Kept.x {E:TypeId} {n0 x:Nat} {w w':World} (h:Kept E n0 w w'):KeptX E n0 x w w':=fun g cur T a b _ c=>h g cur T a b c
theorem KeptX.refl (E:TypeId) (n0 x:Nat) (w:World):KeptX E n0 x w w:=fun _ _ _ _ _ _ h=>h
theorem tch_old {Y:Nat→Prop} {w w':World} (h:Tch (fun r=>Y r∨w.heap.size≤r) w w'):Tch Y w w':=⟨h.os,h.tape,h.output,h.size,fun j hj hn=>h.block j hj (by rintro (e|e);exact hn e;omega)⟩
theorem KeptX.trans {E:TypeId} {n0 x:Nat} {w w1 w2:World} (h:KeptX E n0 x w w1) (h':KeptX E n0 x w1 w2):KeptX E n0 x w w2:=fun g cur T a b c d=>h' g cur T a b c (h g cur T a b c d)
theorem KeptX.tch {E:TypeId} {X:Nat→Prop} {n0 x:Nat} {w w':World} (ht:Tch X w w') (hx:∀k,X k→n0≤k→k≠x→w.heap.size≤k):KeptX E n0 x w w':=fun g cur T _ b n c=>by
 have hl:=(Array.getElem?_eq_some_iff.1 c).1;exact(ht.block _ hl (fun e=>by have:=hx g e b n;omega)).trans c
def told (p:PS) (now:Nat) (D:List Nat):List (Nat×Nat×Nat):=D.map fun k=>(hN p k,(p.tm k).d,now)
def cut4 (g:Nat×Nat×Nat×Int):Nat×Nat×Nat:=(g.1,g.2.1,g.2.2.1)
structure Due (S S':WS) (a a':AS) (G now:Nat) (D:List Nat) (gs:List (Nat×Nat×Nat×Int)):Prop where
 p:S'.p=dropL S.p D
 base:S'.base=max S.base now
 order:S'.order=S.order
 nodup:D.Nodup
 sort:D.Pairwise fun x y=>ltOf (cfF S.p) y x=false
 mem:∀k,k∈D↔∃t,S.p.ent k=some t∧t.d≤now
 gs:gs.map cut4=told S.p now D
 left:a.left≤a'.left+12
 left2:a'.left≤a.left
 t1:a.s.time≤now
 t2:now≤a'.s.time
 t3:a'.s.time≤a.s.time+G*12
 t4:now≤a.s.time+G*9
section
variable {X:Side} {nL:Nat} {fs:List (Nat×Nat×Nat×Int)} {a:AS} {S:WS} {w:World}
set_option maxHeartbeats 8000000 in
theorem serve66 (h:SideAt X nL fs a S w) {G:Nat} (hG:∀n,X.Q.gap n≤G) (hG2:G≤4294967296) (hz:nL≤w.heap.size) (hp:a.s.cmp≤a.s.time) (hl:12≤a.left) (hfs:fs.length<900000) {x0 x1:Nat} (h0:Blk w x0 #[.pointer (some ⟨X.Z.b,0,none⟩)] 57) (h1:Blk w x1 #[.int .i64 0] 3) (n0:nL≤x0) (n1:nL≤x1) :
 Calls Tryz.prog 66 #[.pointer (some ⟨x0,0,none⟩),.pointer (some ⟨x1,0,none⟩)] w fun e w'=>e=.returned (.int .i64 0)∧Tch (fun r=>X.all r∨nL≤r) w w'∧∃a' S' D now gs,SideAt X nL (fs++gs) a' S' w'∧Due S S' a a' G now D gs∧Blk w' x1 #[.int .i64 ((D.length:Nat):Int)] 3∧KeptX 71 nL x1 w w':=by
 have HF:=Lib.hid h;obtain⟨X1,X2,⟨last,X3⟩,⟨ls,X4⟩,X5,X6,X7,X8,X9,X10⟩:=h;have hr:=X4.hr;have hdk:DeskAt X.Q X.hb a w:=X1.board;have htm:=hdk.time;have hA1:∀k,DF X.Q X.hb k→k<nL:=fun k e=>X10 k (.inl e);have hA2:∀k,X.B.all k→k<nL:=fun k e=>X10 k (.inr (.inl e));have hA3:X.Z.b<nL:=X10 _ (.inr (.inr (.inl rfl)));have hA4:X.kb<nL:=X10 _ (.inr (.inr (.inr (.inl rfl))));have hA5:X.lb<nL:=X10 _ (.inr (.inr (.inr (.inr (.inl rfl)))));have hA6:X.mb<nL:=X10 _ (.inr (.inr (.inr (.inr (.inr rfl)))));have n01:x0≠x1:=Blk.ne_ h0 h1 (by decide);have c0:w.cell? ⟨x0,0,none⟩=some (.pointer (some ⟨X.Z.b,0,none⟩)):=h0.cell 0 rfl;have c2:w.cell? ⟨X.Z.b,2,none⟩=some (.pointer (some ⟨X.hb,0,none⟩)):=X1.blk.cell 2 rfl;have hpd:=hdk.pend;rw[show decide (a.s.cmp≤a.s.time)=true from by simp;exact hp] at hpd;have HW:=Lib.hid X4;have HE:=Lib.hid X2;have HLG:=Lib.hid X7;have HLO:=Lib.hid X10;clear X4 X5 X7 X9 X10 hdk;go_enter Tryz.func66,Tryz.ntmps66;go_wp2;go_step3
 go_wp2_with (go_at_call 63;fail)
 refine hpd.mono ?_;rintro e w1 ⟨rfl,t1,d1⟩;have s1:=X1.boardT t1 d1;have k1:Blk w1 X.kb #[.pointer (some ⟨X.Q.pb,0,none⟩),last] 207:=(t1.block _ X3.lt HE.out.k.1).trans X3;have z0:Blk w1 x0 #[.pointer (some ⟨X.Z.b,0,none⟩)] 57:=(t1.block _ h0.lt (fun e=>by have:=hA1 _ e;omega)).trans h0;have b0:w1.cell? ⟨x0,0,none⟩=some (.pointer (some ⟨X.Z.b,0,none⟩)):=z0.cell 0 rfl
 have b1:w1.cell? ⟨X.Z.b,1,none⟩=some (.pointer (some ⟨X.kb,0,none⟩)):=by rw[←HE.out.v1];exact s1.blk.cell 1 rfl
 have hnw:=snow67 s1 hG hG2 (by omega) k1 HE.out.k;clear c0 c2 hpd d1 X3 k1
 go_wp2_with (go_at_call 67;fail)
 refine hnw.mono ?_;rintro e w2 ⟨now,rfl,t2,k2,a2,s2,q1,q2,q3,q4,q5,q6⟩;have d2:DeskAt X.Q X.hb a2 w2:=s2.board;have htm2:=d2.time;have y0:Blk w2 x0 #[.pointer (some ⟨X.Z.b,0,none⟩)] 57:=(t2.block _ z0.lt (by rintro (e|e);exact absurd (hA1 _ e) (by omega);omega)).trans z0;have e0:w2.cell? ⟨x0,0,none⟩=some (.pointer (some ⟨X.Z.b,0,none⟩)):=y0.cell 0 rfl;have e1:w2.cell? ⟨X.Z.b,0,none⟩=some (.pointer (some ⟨X.B.b,0,none⟩)):=s2.blk.cell 0 rfl;have hT2:TabW w2:=tabW_of d2.tabs;have hco:=collect68 s2.wheel HW.out.mid hT2 (now:=now) HW.out.pool.per HW.out.pool.word (by omega) X8;clear b0 b1 hnw z0 hT2
 go_wp2_with (go_at_call 68;fail)
 refine hco.mono ?_;rintro e w3 ⟨v,rfl,D,S3,l3,hrow,t3,hW3,hM3,hp3,hb3,ho3,hnd,hpw,hmem⟩;have t3':=tch_old t3;have s3:=s2.wheelT t3' hW3;have tA:Tch (fun r=>DF X.Q X.hb r∨r=X.kb∨X.B.own r) w w3:=((t1.mono fun r e=>.inl e).trans (t2.mono fun r e=>e.imp id .inl)).trans (t3'.mono fun r e=>.inr (.inr e))
 have hAn:∀x,nL≤x→¬(DF X.Q X.hb x∨x=X.kb∨X.B.own x):=by
  rintro x hx (e|e|e)
  ·have:=hA1 _ e;omega
  ·omega
  ·have:=hA2 _ (.inl e);omega
 have hK3:∀ {x:Nat} {vs:Array Value} {T:TypeId},nL≤x→Blk w x vs T→Blk w3 x vs T:=fun hx hb=>(tA.block _ hb.lt (hAn _ hx)).trans hb;have y0:=hK3 n0 h0;have y1:=hK3 n1 h1;have hlg3:LogAt X.lb X.mb nL fs w3:=HLG.out.tch tA (by rintro (e|e|e);exact HE.out.l.1 e;exact HE.out.kl e.symm;exact HE.out.l.2.1 (.inl e)) (by rintro (e|e|e);exact HE.out.m.1 e;exact HE.out.km e.symm;exact HE.out.m.2.1 (.inl e)) (fun k e hk=>absurd e (hAn k hk));have hx1s:=h1.lt;have hw2s:w.heap.size≤w2.heap.size:=Nat.le_trans t1.size t2.size;have k3:Blk w3 X.kb #[.pointer (some ⟨X.Q.pb,0,none⟩),.int .u64 now] 207:=(t3'.block _ k2.lt (fun e=>HE.out.k.2.1 (.inl e))).trans k2
 have hDl:D.length≤31:=Nat.le_trans (nodup_le hnd fun k hk=>by
  obtain⟨t,ht,_⟩:=(hmem k).1 hk
  exact HW.out.pool.lt ht) hr
 have hDn:∀k∈D,(S.p.tm k).d≤now∧hN S.p k<18446744073709551616:=fun k hk=>by
  obtain⟨t,ht,hle⟩:=(hmem k).1 hk;obtain⟨u,hL,_⟩:=HW.out.mid.ok.live _ k ((HW.out.mid.all k t ht).resolve_left id);have h1:=hL.lt;have h2:=hL.gen;rw[PS.tm_eq ht];exact⟨hle,by unfold hN;omega⟩
 have hpool3:PoolOk S3.p X.Z.room:=by
  rw[hp3]
  exact PoolOk.dropAll (by omega) HW.out.pool hnd fun k hk=>by obtain⟨t,ht,_⟩:=(hmem k).1 hk;exact⟨t,ht⟩
 have hWL3:WL X.B X.Z.room S3 l3:=⟨by rw[hb3];exact hM3,HW.out.own2,HW.out.rp,HW.out.rc,HW.out.hr,hpool3⟩;obtain⟨qd,cd,rfl,hcd⟩:=row_due hrow;have HCD:=Lib.hid hcd;have HWL:=Lib.hid hWL3;have HS3:=Lib.hid s3;have HK3:=Lib.hid k3;have HTA:=Lib.hid tA;have HMEM:=Lib.hid hmem;have HPW:=Lib.hid hpw;clear hcd hWL3 s3 k3 tA hmem hpw hrow t3 hW3 hM3 hpool3 t1 t2 s1 s2 k2 hco e0 e1 h0 hK3 X1 d2;obtain⟨nd,hnd'⟩:∃nd,nd=D.length:=⟨_,rfl⟩;rw[←hnd'] at hDl ⊢;have HND:=Lib.hid hnd';clear hnd';go_wp2;go_step3;go_wp2
 go_loopg [35] nd (fun g i wr=>∃j gs,j≤nd∧g=nd-j∧i=.int .i64 (j:Int)∧LogAt X.lb X.mb nL (fs++gs) wr∧gs.map cut4=told S.p now (D.take j)∧Blk wr x1 #[.int .i64 (j:Int)] 3∧KeptX 71 nL x1 w3 wr∧Tch (fun r=>r=X.lb∨r=X.mb∨nL≤r) w3 wr)
 case atStart=>exact⟨0,[],Nat.zero_le _,rfl,rfl,by simpa using hlg3,rfl,y1,KeptX.refl _ _ _ _,Tch.refl _ _⟩
 case round=>
  obtain⟨j,gs,hj,hg,rfl,hlg,hgs,hx1,hkx,htx⟩:=hrel
  have hgl:gs.length=j:=by
   have:=congrArg List.length hgs;unfold told at this;rw[List.length_map,List.length_map,List.length_take,←HND.out] at this;omega
  have x0c:wr.cell? ⟨x0,0,none⟩=some (.pointer (some ⟨X.Z.b,0,none⟩)):=Blk.cell (hkx x0 _ 57 (by decide) n0 n01 y0) 0 rfl;have hzs:w3.heap.size≤wr.heap.size:=htx.size
  have hzn:nL≤wr.heap.size:=by have:=hx1.lt;omega
  have sr:SvcAt (deskBI X.Q X.hb) X.B X.Z a2 S3 wr:=HS3.out.tch htx (by rintro (e|e|e);exact HE.out.l.2.2.1 e.symm;exact HE.out.m.2.2.1 e.symm;omega) (by
   rintro k hk (e|e|e)
   ·exact HE.out.l.2.1 (e ▸ hk)
   ·exact HE.out.m.2.1 (e ▸ hk)
   ·have:=hA2 k hk;omega) (by
   have h8:=HE.out.l.2.2.2;rintro k (e|e|e)
   ·exact e ▸ ⟨HE.out.l.1,HE.out.l.2.2.2⟩
   ·exact e ▸ ⟨HE.out.m.1,HE.out.m.2.2.2⟩
   ·exact⟨fun h=>by have:=hA1 k h;omega,by omega⟩)
  by_cases hlt:j<nd
  ·obtain⟨k,hk⟩:∃k,D[j]?=some k:=⟨D[j]'(by rw[←HND.out];exact hlt),List.getElem?_eq_getElem _⟩
   obtain⟨gb,cur,rfl,hge,hcu,c0,c1⟩:=HCD.out j k hk;obtain⟨hle,hhn⟩:=hDn k (List.mem_of_getElem? hk);have hc5:=hkx gb cur 140 (by decide) (by omega) (by omega) hcu
   have hadd:∀W,Below wr.heap.size wr W→Calls Tryz.prog 69 #[.pointer (some ⟨X.lb,0,none⟩),.int .u64 (hN S.p k:Nat),.int .u64 (S.p.tm k).d,.int .u64 now] W fun e w'=>∃c:Int,e=.returned (.agg #[.int .u64 (hN S.p k:Nat),.int .u64 (S.p.tm k).d,.int .u64 now,.int .i64 c])∧LogAt X.lb X.mb nL (fs++gs++[(hN S.p k,(S.p.tm k).d,now,c)]) w'∧Tch (fun r=>r=X.lb∨r=X.mb∨nL≤r) wr w'∧Kept 71 nL wr w':=fun W hW=>
    (log_add (hlg.below hW) HE.out.lm (Nat.le_trans hzn hW.size) hA5 hA6 (by simp;omega) hhn).mono fun e w' ⟨c,h1,h2,h3,h4⟩=>⟨c,h1,h2,(Tch.of_below hW).trans h3,(Kept.tch (Tch.of_below (S:=fun _=>False) hW) (fun k e=>e.elim)).trans h4⟩
   have hts:told S.p now (D.take (j+1))=told S.p now (D.take j)++[(hN S.p k,(S.p.tm k).d,now)]:=by
    rw[take_at_ hk];unfold told;rw[List.map_append];rfl
   generalize hN S.p k=hn at *;generalize (S.p.tm k).d=td at *;have b0:wr.cell? ⟨gb,j*3,none⟩=some (.int .u64 hn):=Blk.cell hc5 (j*3) c0;have b1:wr.cell? ⟨gb,j*3+1,none⟩=some (.int .u64 td):=Blk.cell hc5 (j*3+1) c1
   have b4:wr.cell? ⟨X.Z.b,4,none⟩=some (.pointer (some ⟨X.lb,0,none⟩)):=by rw[←HE.out.v4];exact sr.blk.cell 4 rfl
   have hgt:decide ((now:Int)<(td:Int))=false:=by simp;exact hle
   have HX1:=Lib.hid hx1;have HKX:=Lib.hid hkx;have HTX:=Lib.hid htx;have HHK:=Lib.hid hk;clear hx1 hkx htx hk hc5 c0 c1 hcu sr hlg;go_wp2
   go_cut [] from 36 to 63 (fun wx=>∃c:Int,LogAt X.lb X.mb nL (fs++gs++[(hn,td,now,c)]) wx∧Tch (fun r=>r=X.lb∨r=X.mb∨nL≤r) wr wx∧Kept 71 nL wr wx)
   case first=>
    go_region_with (go_at_call 69;refine(hadd _ (by first|exact(Below.refl _ _).drew|exact Below.refl _ _)).mono ?_;rintro e w8 ⟨c,rfl,p1,p2,p3⟩)
    all_goals (go_wp2_with fail)
    all_goals go_meet
    all_goals exact⟨c,p1,p2,p3⟩
   case rest=>
    obtain⟨c,p1,p2,p3⟩:=hcut;have hx2:Blk wc x1 #[.int .i64 (j:Int)] 3:=p3 x1 _ 3 (by decide) n1 HX1.out;have d1:wc.cell? ⟨x1,0,none⟩=some (.int .i64 (j:Int)):=hx2.cell 0 rfl;have f1:=hx2.free 0;have z1:=hx2.set 0 (.int .i64 ((j:Int)+1));have hts1:Tch (fun r=>r=x1) wc (wc.setCell ⟨x1,0,none⟩ (.int .i64 ((j:Int)+1))):=(Tch.refl _ wc).setCell _ (.inl rfl);have p4:=p1.set hx2 (by decide) (by omega) (by omega) hts1;have p5:KeptX 71 nL x1 w3 (wc.setCell ⟨x1,0,none⟩ (.int .i64 ((j:Int)+1))):=(HKX.out.trans p3.x).trans (KeptX.tch hts1 (fun k e _ hn=>absurd e hn));have p6:Tch (fun r=>r=X.lb∨r=X.mb∨nL≤r) w3 (wc.setCell ⟨x1,0,none⟩ (.int .i64 ((j:Int)+1))):=(HTX.out.trans p2).trans (hts1.mono fun r e=>.inr (.inr (by omega)));have P4:=Lib.hid p4;have P5:=Lib.hid p5;have P6:=Lib.hid p6;have Z1:=Lib.hid z1;clear p1 p2 p3 p4 p5 p6 z1 hadd hts1;go_wp2
    go_roundg (nd-(j+1))
    case measure=>rw[hg];exact Nat.sub_lt_sub_left hlt (Nat.lt_succ_self j)
    case rel=>exact⟨j+1,gs++[(hn,td,now,c)],hlt,rfl,by simp,by rw[←List.append_assoc];exact P4.out,by rw[hts,List.map_append,hgs];rfl,by simpa using Z1.out,P5.out,P6.out⟩
  ·have hjn:j=nd:=by omega
   subst hjn;obtain⟨vv,bb,hx,hL3⟩:=HWL.out.nxt;have hst:=set_at sr hx (by show 3≤a2.left;omega)
   go_wp2_with (go_at_call 70;fail)
   refine hst.mono ?_;rintro e w5 ⟨rfl,t5,a',s5,hR⟩;obtain⟨r1,r2,r3,r4,r5⟩:=least_of hL3 (by rw[q5,q4];exact X6) hR;have r5':=r5 G hG;go_wp2;have hx5:Blk w5 x1 #[.int .i64 (j:Int)] 3:=(t5.block _ hx1.lt (fun e=>by have:=hA1 _ e;omega)).trans hx1
   have hk5:Blk w5 X.kb #[.pointer (some ⟨X.Q.pb,0,none⟩),.int .u64 now] 207:=by
    have h1:Blk wr X.kb #[.pointer (some ⟨X.Q.pb,0,none⟩),.int .u64 now] 207:=(htx.block _ HK3.out.lt (by rintro (e|e|e);exact HE.out.kl e;exact HE.out.km e;omega)).trans HK3.out;exact(t5.block _ h1.lt HE.out.k.1).trans h1
   have hl5:LogAt X.lb X.mb nL (fs++gs) w5:=hlg.tch t5 HE.out.l.1 HE.out.m.1 (fun k e hk=>by have:=hA1 k e;omega);have hkk:KeptX 71 nL x1 w w5:=((KeptX.tch HTA.out (fun k e hk _=>absurd e (hAn k hk))).trans hkx).trans (KeptX.tch t5 (fun k e hk _=>by have:=hA1 k e;omega));have htt:Tch (fun r=>X.all r∨nL≤r) w w5:=((HTA.out.mono fun r e=>.inl (by rcases e with e|e|e;exact .inl e;exact .inr (.inr (.inr (.inl e)));exact .inr (.inl (.inl e)))).trans (htx.mono fun r e=>by rcases e with e|e|e;exact .inl (.inr (.inr (.inr (.inr (.inl e)))));exact .inl (.inr (.inr (.inr (.inr (.inr e)))));exact .inr e)).trans (t5.mono fun r e=>.inl (.inl e));rw[HND.out,List.take_length] at hgs;rw[Exit.noGoto_ret];refine bodyPost_ret (v:=.int .i64 0) ?_ rfl ⟨rfl,htt,a',S3,D,now,gs,⟨s5,HE.out,⟨_,hk5⟩,⟨l3,HWL.out⟩,r1,r2,hl5,by rw[hb3];omega,HF.out.hi,HLO.out⟩,⟨hp3,hb3,ho3,hnd,HPW.out,HMEM.out,hgs,by omega,by omega,q1,by omega,by omega,by omega⟩,by rw[←HND.out];exact hx5,hkk⟩;simp[results,Tryz.results66,go_sem]
end
theorem call65 {I:BI} {B:WB} {Z:SB} {a:I.A} {S:WS} {w:World} (h:SvcAt I B Z a S w) {f:Nat} {caps:Array Value} {Y:Nat→Prop} {P:I.A→WS→World→Prop}
 (hf:∀w,(callFunc f caps).run Tryz.prog w=.ok (.enter f caps) w)
 (hc:∀w1,Tch I.ft w w1→SvcAt I B Z a S w1→Calls Tryz.prog f caps w1 fun e w2=>e=.returned (.int .i64 0)∧Tch Y w1 w2∧∃a' S',SvcAt I B Z a' S' w2∧P a' S' w2)
 (hP:∀a' S' w1 w2,P a' S' w1→Tch I.ft w1 w2→SvcAt I B Z a' S' w2→P a' S' w2) :
 Calls Tryz.prog 65 #[.pointer (some ⟨Z.b,0,none⟩),.func (.func f) #[] caps] w fun e w'=>e=.returned (.int .i64 0)∧Tch (fun r=>I.ft r∨Y r) w w'∧∃a' S',P a' S' w':=by
 go_enter Tryz.func65,Tryz.ntmps65
 go_wp2_with (go_at_call 71;fail)
 refine(sync_at h).mono ?_;rintro e w1 ⟨rfl,ht1,hs1⟩
 go_wp2_with (fail)
 refine(hc w1 ht1 hs1).mono ?_;rintro e w2 ⟨rfl,ht2,a',S',hs2,hp2⟩
 go_wp2_with (go_at_call 71;fail)
 refine(sync_at hs2).mono ?_;rintro e w3 ⟨rfl,ht3,hs3⟩;go_wp2;refine bodyPost_ret (v:=.int .i64 0) ?_ rfl ⟨rfl,((ht1.mono fun r hr=>.inl hr).trans (ht2.mono fun r hr=>.inr hr)).trans (ht3.mono fun r hr=>.inl hr),a',S',hP _ _ _ _ hp2 ht3 hs3⟩;simp[results,Tryz.results65,go_sem]
section
variable {X:Side} {nL:Nat} {fs:List (Nat×Nat×Nat×Int)} {a:AS} {S:WS} {w:World}
theorem SideAt.sync (h:SideAt X nL fs a S w) {w':World} (ht:Tch (DF X.Q X.hb) w w') (hs:SvcAt (deskBI X.Q X.hb) X.B X.Z a S w'):SideAt X nL fs a S w':=(side_board h ht (fun k e=>e) hs.board rfl rfl).2
def boxes (w:World) (z:Nat):World:=(w.alloc (.cells #[.pointer (some ⟨z,0,none⟩)] 57)).alloc (.cells #[.int .i64 0] 3)
theorem boxes_law (w:World) (z:Nat):Below w.heap.size w (boxes w z)∧Blk (boxes w z) w.heap.size #[.pointer (some ⟨z,0,none⟩)] 57∧Blk (boxes w z) (w.heap.size+1) #[.int .i64 0] 3:=by
 refine⟨((Below.refl _ w).alloc (Nat.le_refl _) _).alloc (by simp) _,(Blk.new w _ _).alloc _,?_⟩;have:=Blk.new (w.alloc (.cells #[.pointer (some ⟨z,0,none⟩)] 57)) #[.int .i64 0] 3;unfold boxes;simpa using this
theorem e66 (x y:Nat) (w:World):(callFunc 66 #[.pointer (some ⟨x,0,none⟩),.pointer (some ⟨y,0,none⟩)]).run Tryz.prog w=.ok (.enter 66 #[.pointer (some ⟨x,0,none⟩),.pointer (some ⟨y,0,none⟩)]) w:=by kernel_rfl
set_option maxHeartbeats 2000000 in
theorem serve29 (h:SideAt X nL fs a S w) {G:Nat} (hG:∀n,X.Q.gap n≤G) (hG2:G≤4294967296) (hz:nL≤w.heap.size) (hp:a.s.cmp≤a.s.time) (hl:12≤a.left) (hfs:fs.length<900000) :
 Calls Tryz.prog 29 #[.pointer (some ⟨X.Z.b,0,none⟩)] w fun e w'=>∃a' S' D now gs,e=.returned (.tuple #[.int .i64 ((D.length:Nat):Int),.int .i64 0])∧Tch (fun r=>X.all r∨nL≤r) w w'∧Kept 71 nL w w'∧SideAt X nL (fs++gs) a' S' w'∧Due S S' a a' G now D gs:=by
 obtain⟨hB,z0,z1⟩:=boxes_law w X.Z.b;have h2:=h.below hB;have hlt:∀k,DF X.Q X.hb k→k<nL:=fun k e=>h.lo k (.inl e)
 have hc:=call65 h2.svc (f:=66) (caps:=#[.pointer (some ⟨w.heap.size,0,none⟩),.pointer (some ⟨w.heap.size+1,0,none⟩)]) (Y:=fun r=>X.all r∨nL≤r)
  (P:=fun a' S' w'=>∃D now gs,SideAt X nL (fs++gs) a' S' w'∧Due S S' a a' G now D gs∧Blk w' (w.heap.size+1) #[.int .i64 ((D.length:Nat):Int)] 3∧KeptX 71 nL (w.heap.size+1) (boxes w X.Z.b) w')
  (e66 _ _) (fun w1 t1 s1=>?_) (fun a' S' w1 w2 hP t1 s1=>?_)
 ·have HB:=Lib.hid hB
  clear z0 z1 h2 h;unfold boxes at hc HB;go_enter Tryz.func29,Tryz.ntmps29
  go_wp2_with (go_at_call 65;fail)
  refine hc.mono ?_;rintro e w3 ⟨rfl,t3,a',S',D,now,gs,q1,q2,q3,q4⟩;have c3:w3.cell? ⟨w.heap.size+1,0,none⟩=some (.int .i64 ((D.length:Nat):Int)):=q3.cell 0 rfl;obtain⟨nd,hnd⟩:∃nd,nd=D.length:=⟨_,rfl⟩;rw[←hnd] at c3;have HND:=Lib.hid hnd;clear hc q3 hnd;go_wp2;refine bodyPost_ret (v:=.tuple #[.int .i64 (nd:Int),.int .i64 0]) ?_ rfl ⟨a',S',D,now,gs,by rw[HND.out],(Tch.of_below HB.out).trans (t3.mono fun r e=>e.elim (fun e=>.inl (.inl e)) id),fun g cur T hT hg hcg=>?_,q1,q2⟩
  ·simp[results,Tryz.results29,go_sem]
  ·have hgl:=(Array.getElem?_eq_some_iff.1 hcg).1
   exact q4 g cur T hT hg (by omega) ((HB.out.block g hgl).trans hcg)
 ·have k1:=h2.sync t1 s1
  have n1:∀x,nL≤x→¬DF X.Q X.hb x:=fun x hx e=>by have:=hlt x e;omega
  have hzb:=hB.size;refine(serve66 k1 hG hG2 (Nat.le_trans (Nat.le_trans hz hzb) t1.size) hp hl hfs ((t1.block _ z0.lt (n1 _ hz)).trans z0) ((t1.block _ z1.lt (n1 _ (by omega))).trans z1) hz (by omega)).mono ?_;rintro e w4 ⟨rfl,t4,a',S',D,now,gs,q1,q2,q3,q4⟩;exact⟨rfl,t4,a',S',q1.svc,D,now,gs,q1,q2,q3,(KeptX.tch t1 (fun k e hk _=>absurd e (n1 k hk))).trans q4⟩
 ·obtain⟨D,now,gs,q1,q2,q3,q4⟩:=hP
  have n1:∀x,nL≤x→¬DF X.Q X.hb x:=fun x hx e=>by have:=hlt x e;omega
  exact⟨D,now,gs,q1.sync t1 s1,q2,(t1.block _ q3.lt (n1 _ (by omega))).trans q3,q4.trans (KeptX.tch t1 (fun k e hk _=>absurd e (n1 k hk)))⟩
end
structure GW (ds:List Nat) (S:WS):Prop where
 ent:∀a,S.p.ent a=(ds[a]?).map fun d=>(⟨d,0,a⟩:Tm)
 gen:∀a,S.p.gen a=0
 base:S.base=0
 order:S.order=ds.length
theorem cntN_all (f:Nat→Option Tm) (n:Nat) (h1:∀a,a<n→(f a).isSome=true) (h2:∀a,n≤a→f a=none):∀r,n≤r→cntN f r=n:=by
 have key:∀r,cntN f r=min n r:=by
  intro r
  induction r with
  |zero=>simp[cntN]
  |succ r ih=>
    show cntN f r+_=_;rw[ih]
    by_cases h:r<n
    ·rw[h1 r h];simp;omega
    ·rw[h2 r (by omega)];simp;omega
 intro r hr;rw[key r];omega
section
variable {B:WB} {r:Nat} {S:WS} {ls:Int×Int→List Nat} {ds:List Nat}
theorem GW.off (g:GW ds S) (a:Nat):S.p.ent a=none↔ds.length≤a:=by
 rw[g.ent];simp
theorem GW.n (g:GW ds S) (h:WL B r S ls) (hn:ds.length≤r):S.p.n=ds.length:=by
 rw[h.pool.cnt];refine cntN_all _ _ (fun a ha=>?_) (fun a ha=>(g.off a).2 ha) r hn
 cases he:S.p.ent a with
 |none=>have:=(g.off a).1 he;omega
 |some t=>rfl
theorem GW.add (g:GW ds S) (d:Nat):GW (ds++[d]) (S.add ds.length d 0):=by
 refine⟨fun a=>?_,g.gen,g.base,?_⟩
 ·show fset S.p.ent ds.length (some ⟨d,0,S.order⟩) a=_
  by_cases e:a=ds.length
  ·subst e
   rw[fset_same,g.order];simp
  ·rw[fset_ne _ _ e,g.ent]
   by_cases e2:a<ds.length
   ·rw[List.getElem?_append_left e2]
   ·rw[List.getElem?_eq_none (by omega),List.getElem?_eq_none (by simp;omega)]
 ·show S.order+1=_
  rw[g.order];simp
end
section
variable {X:Side} {nL:Nat} {a:AS} {S:WS} {w:World} {ds:List Nat}
end
theorem dropL_gen:∀ {D:List Nat} {p:PS} {a:Nat},D.Nodup→a∈D→(dropL p D).gen a=p.gen a+1
 | [],p,a,_,h=>by cases h
 |x::D,p,a,hn,h=>by
   rw[List.nodup_cons] at hn;show (dropL (p.drop x) D).gen a=_
   by_cases e:a=x
   ·subst e
    rw[(dropL_out (p:=p.drop a) hn.1).2];exact fset_same _ _ _
   ·have h2:a∈D:=by
     rw[List.mem_cons] at h;exact h.resolve_left e
    rw[dropL_gen hn.2 h2];show fset p.gen x (p.gen x+1) a+1=_;rw[fset_ne _ _ e]
theorem dropL_cnt {r:Nat} (hr:r≤64):∀ {D:List Nat} {p:PS},PoolOk p r→D.Nodup→(∀a∈D,∃t,p.ent a=some t)→(dropL p D).n+D.length=p.n
 | [],p,_,_,_=>rfl
 |a::D,p,h,hn,hD=>by
   obtain⟨t,ht⟩:=hD a (by simp);rw[List.nodup_cons] at hn
   have h1:=dropL_cnt hr (h.drop hr ht) hn.2 fun x hx=>by
    obtain⟨u,hu⟩:=hD x (by simp[hx]);exact⟨u,(fset_ne _ _ (fun e=>hn.1 (by rw[←e];exact hx))).trans hu⟩
   have h2:p.n≠0:=fun e=>by
    rw[(h.zero.1 e) a] at ht;cases ht
   have h3:=drop_n p a;show (dropL (p.drop a) D).n+(D.length+1)=p.n;omega
structure Lat (M L:Nat) (H U:List Nat) (fs:List (Nat×Nat×Nat×Int)) (S:WS) (T x:Nat):Prop where
 len:U.length=H.length
 nodup:H.Nodup
 live:∀a t,S.p.ent a=some t→t.d<100000∧∃k u:Nat,H[k]?=some (hN S.p a)∧U[k]?=some u∧t.d+L+2*M≤u∧T+L+M≤u+x
 fired:∀f∈fs,∃k u:Nat,H[k]?=some f.1∧U[k]?=some u∧f.2.2.1≤u
 cnt:fs.length+S.p.n=H.length
 gen:∀h∈H,h/4096≤S.p.gen (h%4096)+1∧(h/4096=S.p.gen (h%4096)+1→S.p.ent (h%4096)≠none)
 gens:∀a,S.p.gen a≤fs.length
 order:S.order=H.length
section
variable {M L:Nat} {H U:List Nat} {fs:List (Nat×Nat×Nat×Int)} {S S':WS} {T T' x:Nat}
theorem lat0:Lat M L [] [] [] ws0 T 0:=⟨rfl,List.nodup_nil,fun a t h=>(by cases h),fun f h=>(by cases h),rfl,fun h e=>(by cases e),fun a=>Nat.le_refl _,rfl⟩
theorem Lat.idle (h:Lat M L H U fs S T x) (hc:∀a t,S.p.ent a=some t→T'≤t.d):Lat M L H U fs S T' 0:=
 ⟨h.len,h.nodup,fun a t ht=>by
  obtain⟨h1,k,u,h2,h3,h4,h5⟩:=h.live a t ht;have:=hc a t ht
  exact⟨h1,k,u,h2,h3,h4,by omega⟩,h.fired,h.cnt,h.gen,h.gens,h.order⟩
theorem Lat.more (h:Lat M L H U fs S T x) {y:Nat} (hxy:x≤y):Lat M L H U fs S T y:=
 ⟨h.len,h.nodup,fun a t ht=>by
  obtain⟨h1,k,u,h2,h3,h4,h5⟩:=h.live a t ht
  exact⟨h1,k,u,h2,h3,h4,by omega⟩,h.fired,h.cnt,h.gen,h.gens,h.order⟩
theorem hN_div (p:PS) {a:Nat} (ha:a<4096):hN p a/4096=p.gen a+1∧hN p a%4096=a:=by unfold hN;omega
theorem Lat.add (h:Lat M L H U fs S T 0) {a d:Nat} (ha:a<4096) (hn:S.p.ent a=none) (hT:T'≤T+x) (hd:d<100000):Lat M L (H++[hN S.p a]) (U++[max d T'+L+2*M]) fs (S.add a d 0) T' x:=by
 obtain⟨q1,q2⟩:=hN_div S.p ha
 have hnew:hN S.p a∉H:=fun hm=>by
  have:=(h.gen _ hm).2 (by rw[q1,q2]);rw[q2] at this;exact this hn
 have hk:∀ {k:Nat} {v:Nat},H[k]?=some v→(H++[hN S.p a])[k]?=some v:=fun{k v} e=>by
  rw[List.getElem?_append_left (List.getElem?_eq_some_iff.1 e).1];exact e
 have hu:∀ {k:Nat} {v:Nat},U[k]?=some v→(U++[max d T'+L+2*M])[k]?=some v:=fun{k v} e=>by
  rw[List.getElem?_append_left (List.getElem?_eq_some_iff.1 e).1];exact e
 refine⟨by simp[h.len],?_,fun b t ht=>?_,fun f hf=>?_,?_,fun v hv=>?_,h.gens,?_⟩
 ·rw[List.nodup_append]
  exact⟨h.nodup,by simp,fun v hv w hw e=>by rw[List.mem_singleton] at hw;subst hw;exact hnew (e ▸ hv)⟩
 ·by_cases e:b=a
  ·subst e
   have ht2:some (⟨d,0,S.order⟩:Tm)=some t:=(show fset S.p.ent b (some ⟨d,0,S.order⟩) b=some t from ht) ▸ (fset_same S.p.ent b (some (⟨d,0,S.order⟩:Tm))).symm;cases ht2;refine⟨hd,H.length,max d T'+L+2*M,?_,?_,by show d+L+2*M≤_;omega,by omega⟩
   ·show (H++[hN S.p b])[H.length]?=some (hN S.p b)
    simp
   ·rw[←h.len]
    simp
  ·have ht2:S.p.ent b=some t:=(fset_ne _ _ e).symm.trans ht
   obtain⟨h1,k,u,h2,h3,h4,h5⟩:=h.live b t ht2;exact⟨h1,k,u,hk h2,hu h3,h4,by omega⟩
 ·obtain⟨k,u,h1,h2,h3⟩:=h.fired f hf
  exact⟨k,u,hk h1,hu h2,h3⟩
 ·show fs.length+(S.p.n+1)=_
  have:=h.cnt;simp;omega
 ·show v/4096≤S.p.gen (v%4096)+1∧(v/4096=S.p.gen (v%4096)+1→fset S.p.ent a _ (v%4096)≠none)
  rw[List.mem_append,List.mem_singleton] at hv
  by_cases e:v%4096=a
  ·refine⟨?_,fun _=>by rw[e,fset_same];exact fun h=>by cases h⟩
   rcases hv with hv|rfl
   ·exact(h.gen v hv).1
   ·rw[q1,q2]
    exact Nat.le_refl _
  ·rcases hv with hv|rfl
   ·rw[fset_ne _ _ e]
    exact h.gen v hv
   ·exact absurd q2 e
 ·show S.order+1=_
  rw[h.order];simp
theorem Lat.serve (h:Lat M L H U fs S T x) {a a':AS} {G now r:Nat} {D:List Nat} {gs:List (Nat×Nat×Nat×Int)} (q:Due S S' a a' G now D gs) (hp:PoolOk S.p r) (hr:r≤64) (ht:a.s.time=T+L) (hM:M=12*G) (hx:x≤3*G):Lat M L H U (fs++gs) S' a'.s.time 0:=by
 have t1:=q.t1;have t3:=q.t3;have t4:=q.t4
 have hD:∀b∈D,∃t,S.p.ent b=some t:=fun b hb=>by
  obtain⟨t,ht,_⟩:=(q.mem b).1 hb;exact⟨t,ht⟩
 have hgl:gs.length=D.length:=by
  have:=congrArg List.length q.gs;unfold told at this;rw[List.length_map,List.length_map] at this;exact this
 have hg1:∀b,b∈D→S'.p.gen b=S.p.gen b+1:=fun b hb=>by rw[q.p];exact dropL_gen q.nodup hb
 have hg2:∀b,b∉D→S'.p.gen b=S.p.gen b∧S'.p.ent b=S.p.ent b:=fun b hb=>by
  rw[q.p];exact⟨(dropL_out hb).2,(dropL_out hb).1⟩
 refine⟨h.len,h.nodup,fun b t hb=>?_,fun f hf=>?_,?_,fun v hv=>?_,fun b=>?_,?_⟩
 ·have hbD:b∉D:=fun hm=>by
   rw[q.p,dropL_in hm] at hb;cases hb
  obtain⟨e1,e2⟩:=hg2 b hbD;rw[e2] at hb;obtain⟨h1,k,u,h2,h3,h4,h5⟩:=h.live b t hb
  have hlt:now<t.d:=by
   apply Classical.byContradiction;intro hc;exact hbD ((q.mem b).2 ⟨t,hb,by omega⟩)
  have e3:hN S'.p b=hN S.p b:=by unfold hN;rw[e1]
  exact⟨h1,k,u,by rw[e3];exact h2,h3,h4,by omega⟩
 ·rw[List.mem_append] at hf
  rcases hf with hf|hf
  ·exact h.fired f hf
  ·have hm:cut4 f∈told S.p now D:=by rw[←q.gs];exact List.mem_map.2 ⟨f,hf,rfl⟩
   obtain⟨b,hb,e⟩:=List.mem_map.1 hm;obtain⟨t,ht2⟩:=hD b hb;obtain⟨h1,k,u,h2,h3,h4,h5⟩:=h.live b t ht2;have e1:hN S.p b=f.1:=congrArg Prod.fst e;have e3:now=f.2.2.1:=congrArg (fun t=>t.2.2) e;exact⟨k,u,by rw[←e1];exact h2,h3,by omega⟩
 ·have h1:=dropL_cnt hr hp q.nodup hD
  have h2:=h.cnt;rw[q.p,List.length_append];omega
 ·obtain⟨h1,h2⟩:=h.gen v hv
  by_cases hb:v%4096∈D
  ·rw[hg1 _ hb]
   exact⟨by omega,fun e=>by omega⟩
  ·rw[(hg2 _ hb).1,(hg2 _ hb).2]
   exact⟨h1,h2⟩
 ·have h1:=h.gens b
  rw[List.length_append]
  by_cases hb:b∈D
  ·rw[hg1 b hb]
   have:=List.length_pos_of_mem hb;omega
  ·rw[(hg2 b hb).1]
   omega
 ·rw[q.order]
  exact h.order
theorem Lat.late (h:Lat M L H U fs S T x) {f:Nat×Nat×Nat×Int} (hf:f∈fs) {k u:Nat} (hk:H[k]?=some f.1) (hu:U[k]?=some u):f.2.2.1≤u:=by
 obtain⟨k',u',h1,h2,h3⟩:=h.fired f hf;obtain⟨l1,e1⟩:=List.getElem?_eq_some_iff.1 hk;obtain⟨l2,e2⟩:=List.getElem?_eq_some_iff.1 h1;have e:k=k':=(List.getElem_inj h.nodup).1 (e1.trans e2.symm);subst e;rw[hu] at h2;cases h2;exact h3
end
theorem MadeW.below {n0 r left:Nat} {gl:List Nat} {v:Value} {w w':World} (h:MadeW n0 r left gl v w) (hb:Below w.heap.size w w'):MadeW n0 r left gl v w':=by
 obtain⟨Q,hb',B,Z,kb,lb,mb,a,x1,hs,x2,x3,x4,x5,x6,x7,x8,x9,x10,x11,z0,z1,z2,x12,x13,x14⟩:=h;exact⟨Q,hb',B,Z,kb,lb,mb,a,x1,hs.below hb,x2,x3,x4,x5,x6,x7,x8,x9,x10,x11,z0.below hb z0.lt,z1.below hb z1.lt,(hb.block _ (Array.getElem?_eq_some_iff.1 z2).1).trans z2,x12,x13,x14⟩
section
variable {w:World}
set_option maxHeartbeats 1000000 in
theorem made23 (hT:Tabs w) {room:Int} {r left:Nat} (hr:(r:Int)=1+IntKind.u64.wrap room%30) (hleft:left≤536870912) {p:Option Addr} {len cap:Nat} {gl:List Nat} (hlen:len≤9223372036854775807) (hcap:len≤cap) (hl:gl.length=min len 64) (hv:∀v∈gl,v<4294967296) (hp:p=none∨∃b off,p=some ⟨b,off,none⟩) (hin:GapsIn p gl w) :
 Calls Tryz.prog 23 #[.int .i64 room,.slice p len cap] w fun e w'=>∃(v:Value) (x:Nat),e=.returned (.tuple #[v,.pointer (some ⟨x,0,none⟩)])∧Below w.heap.size w w'∧MadeW w.heap.size r left gl v w':=by
 have hu0:0≤IntKind.u64.wrap room:=by rw[IntKind.wrap_u64];omega
 obtain⟨u,hu⟩:∃u:Int,u=IntKind.u64.wrap room:=⟨_,rfl⟩;rw[←hu] at hr hu0;obtain⟨q,hq⟩:∃q:Nat,r=1+q:=⟨r-1,by omega⟩
 have hq30:q<30:=by omega
 have e1:IntKind.u64.wrap room=u:=hu.symm
 have e2:u.tmod 30=(q:Int):=by rw[Int.tmod_eq_emod_of_nonneg hu0];omega
 have e3:u%30=(q:Int):=by omega
 have e4:IntKind.i64.wrap (q:Int)=(q:Int):=IntWalk.i64_in _ ⟨by omega,by omega⟩
 have e5:IntKind.i64.wrap (1+(q:Int))=(r:Int):=by rw[IntWalk.i64_in _ ⟨by omega,by omega⟩];omega
 have hr1:1≤r:=by omega
 have hr31:r≤31:=by omega
 have HM:=fun(w:World) hT hin=>made60 (w:=w) hT hr1 hr31 hleft (cap:=cap) (by rw[hl];omega) hv hp hin;obtain⟨m,hm⟩:∃m,m=gl.length:=⟨_,rfl⟩;rw[←hm] at HM hl
 have hmc:m≤cap:=by omega
 have hmin:min (len:Int) 64=(m:Int):=by rw[hl];omega
 clear hu hr hm hq;have HH:=Lib.hid hin;have HTT:=Lib.hid hT;clear hin hT;go_enter Tryz.func23,Tryz.ntmps23;rcases hp with rfl|⟨b,off,rfl⟩
 ·go_wp2_with (go_at_call 60;fail)
  rw[←hl];refine(HM _ HTT.out HH.out).mono ?_;rintro e w1 ⟨v,rfl,hb1,hM⟩;have ⟨Q,hb,B,Z,kb,lb,mb,a,hv1,hs,_⟩:=hM;subst hv1
  go_wp2_with (go_at_call 24;fail)
  refine(port_at hs).mono ?_;rintro e w2 ⟨rfl,rfl⟩
  go_wp2_with (go_at_call 9;fail)
  refine(dnew9 Q.pb).mono ?_;rintro e w3 ⟨x,rfl,hb3⟩;have hM3:=hM.below hb3;go_wp2;refine bodyPost_ret (v:=.tuple #[.pointer (some ⟨Z.b,0,none⟩),.pointer (some ⟨x,0,none⟩)]) ?_ rfl ⟨_,x,rfl,hb1.trans (hb3.mono hb1.size),hM3⟩;simp[results,Tryz.results23,go_sem]
 ·go_wp2_with (go_at_call 60;fail)
  rw[←hl];refine(HM _ HTT.out HH.out).mono ?_;rintro e w1 ⟨v,rfl,hb1,hM⟩;have ⟨Q,hb,B,Z,kb,lb,mb,a,hv1,hs,_⟩:=hM;subst hv1
  go_wp2_with (go_at_call 24;fail)
  refine(port_at hs).mono ?_;rintro e w2 ⟨rfl,rfl⟩
  go_wp2_with (go_at_call 9;fail)
  refine(dnew9 Q.pb).mono ?_;rintro e w3 ⟨x,rfl,hb3⟩;have hM3:=hM.below hb3;go_wp2;refine bodyPost_ret (v:=.tuple #[.pointer (some ⟨Z.b,0,none⟩),.pointer (some ⟨x,0,none⟩)]) ?_ rfl ⟨_,x,rfl,hb1.trans (hb3.mono hb1.size),hM3⟩;simp[results,Tryz.results23,go_sem]
end
theorem row_four {w:World} {base n:Nat} {v:Value} {xs:List Value} (h:w.ownsRow base 71 4 v n xs):∃(q:Option Addr) (c:Nat),v=.slice q n c∧n<9223372036854775808∧(0<n→∃g,q=some ⟨g,0,none⟩∧∀(m:Nat) (u:Value),xs[m]?=some u→w.cell? ⟨g,m,none⟩=some u):=by
 have hxl:=h.1;rcases h.2 with⟨rfl,h0⟩|⟨g,cap,cur,rfl,hb,hgb,h1,h2,hcs,htk⟩
 ·exact⟨none,0,by rw[h0],by omega,fun hn=>by omega⟩
 ·refine⟨_,_,rfl,by unfold maxLen at h2;omega,fun _=>⟨g,rfl,fun m u hm=>?_⟩⟩
  refine Blk.cell (show Blk w g cur 71 from hgb) m ?_;have hml:=(List.getElem?_eq_some_iff.1 hm).1;rw[hxl] at hml;rw[←htk,List.getElem?_take_of_lt hml] at hm;simpa using hm
theorem cell_of {B:Nat} {w w':World} (h:Below B w w') {a:Addr} {v:Value} (hc:w.cell? a=some v) (hB:w.heap.size≤B):w'.cell? a=some v:=by
 refine(h.cell (Nat.lt_of_lt_of_le ?_ hB)).trans hc;apply Classical.byContradiction;intro hn;unfold World.cell? at hc;rw[Array.getElem?_eq_none (by omega)] at hc;cases hc
theorem tch_new2 {Y:Nat→Prop} {n:Nat} {w w':World} (h:Tch Y w w') (hn:n≤w.heap.size) (hx:∀k,Y k→n≤k):Below n w w':=
 ⟨h.os,h.tape,h.output,h.size,fun k hk=>h.block k (by omega) (fun e=>by have:=hx k e;omega)⟩
end Go.Proofs.YtkndlfdpmpdihaaGreatDoor
