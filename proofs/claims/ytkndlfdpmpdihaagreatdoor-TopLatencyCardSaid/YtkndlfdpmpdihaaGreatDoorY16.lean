/- The service over a board that is told by an interface. Wheels whose chains are told by lists: what Next tells; plain law. The service's call; a timer is set at a time. The service: a timer is set at a time. The service's add. The service: At, After where nothing is free, Cancel. Wheels whose chains  Conditions: those that each statement shows. -/
import Derived.Test.YtkndlfdpmpdihaaGreatDoorY15
import Derived.Test.YtkndlfdpmpdihaaGreatDoorY14
import Derived.Carry
import Derived.Laws.MakeOwn
namespace Go.Proofs.YtkndlfdpmpdihaaGreatDoor
open Go.RowKit Go.Ev Go.Mv
set_option linter.unusedVariables false
set_option linter.unusedSimpArgs false
set_option maxRecDepth 100000
structure BI where
 A:Type
 S:A→World→Prop
 ft:Nat→Prop
 pb:Nat
 hb:Nat
 bb:Nat
 armed:A→Nat
 time:A→Nat
 cmp:A→Nat
 R:A→Nat→A→Prop
 left:A→Nat
 lf:∀ {a d a'},R a d a'→left a≤left a'+3
 alt:∀a,armed a<18446744073709551616
 tab:∀ {a w},S a w→TabW w
 lt:∀ {a w},S a w→∀k,ft k→k<w.heap.size
 keep:∀ {a w w'} {X:Nat→Prop},S a w→Tch X w w'→(∀k,X k→¬ft k∧8≤k)→S a w'
 down:∀ {a w},S a w→Calls Tryz.prog 22 #[.pointer (some ⟨pb,0,none⟩)] w fun e w'=>e=.returned (.bool false)∧Tch ft w w'∧S a w'
 at_:∀ {a w},S a w→Calls Tryz.prog 123 #[.pointer (some ⟨hb,0,none⟩)] w fun e w'=>e=.returned (.int .u64 (armed a))∧Tch ft w w'∧S a w'
 arm:∀ {a w} (d:Nat),d<18446744073709551616→3≤left a→S a w→Calls Tryz.prog 124 #[.pointer (some ⟨hb,0,none⟩),.int .u64 d] w fun e w'=>e=.returned (.int .i64 0)∧Tch ft w w'∧∃a',R a d a'∧S a' w'
 tm:∀ {a w},S a w→Calls Tryz.prog 17 #[.pointer (some ⟨bb,0,none⟩)] w fun e w'=>e=.returned (.int .u64 (time a))∧Tch ft w w'∧S a w'
 cp:∀ {a w},S a w→Calls Tryz.prog 28 #[.pointer (some ⟨bb,0,none⟩),.int .i64 0] w fun e w'=>e=.returned (.int .u64 (cmp a))∧Tch ft w w'∧S a w'
 bd:∀ {a w},S a w→Calls Tryz.prog 25 #[.pointer (some ⟨pb,0,none⟩)] w fun e w'=>e=.returned (.pointer (some ⟨bb,0,none⟩))∧Tch ft w w'∧S a w'
 lv:∀ {a w},S a w→Calls Tryz.prog 21 #[] w fun e w'=>e=.returned (.bool true)∧Tch ft w w'∧S a w'
structure SB where
 b:Nat
 v1:Value
 v4:Value
 room:Nat
def svcV (I:BI) (B:WB) (Z:SB):Array Value:=#[.pointer (some ⟨B.b,0,none⟩),Z.v1,.pointer (some ⟨I.hb,0,none⟩),.pointer (some ⟨I.pb,0,none⟩),Z.v4,.int .i64 Z.room]
def WB.all (B:WB):Nat→Prop:=fun r=>B.own r∨r=B.p.b∨r=B.c.b
structure SvcAt (I:BI) (B:WB) (Z:SB) (a:I.A) (S:WS) (w:World):Prop where
 blk:Blk w Z.b (svcV I B Z) 133
 wheel:WheelAt B S w
 board:I.S a w
 out:¬I.ft Z.b
 outs:∀k,B.all k→¬I.ft k
 own:¬B.all Z.b
 hi:∀k,B.all k→8≤k
theorem WheelAt.tch {B:WB} {S:WS} {w w':World} (h:WheelAt B S w) {X:Nat→Prop} (ht:Tch X w w') (hx:∀k,B.all k→¬X k):WheelAt B S w':=by
 have hl:=h.lt
 exact⟨(ht.block _ hl.1 (hx _ (.inl (.inl rfl)))).trans h.blk,h.pool.tch ht (hx _ (.inr (.inl rfl))) (hx _ (.inl (.inr (.inl (.inl rfl))))) (hx _ (.inl (.inr (.inl (.inr (.inl rfl)))))) (hx _ (.inl (.inr (.inl (.inr (.inr rfl)))))),
  h.chain.tch ht (hx _ (.inr (.inr rfl))) (hx _ (.inl (.inr (.inr (.inl rfl))))) (hx _ (.inl (.inr (.inr (.inr rfl))))),h.ne1,h.ne2⟩
section
variable {I:BI} {B:WB} {Z:SB} {a:I.A} {S:WS} {w w':World}
theorem SvcAt.boardT (h:SvcAt I B Z a S w) {a':I.A} (ht:Tch I.ft w w') (hs:I.S a' w'):SvcAt I B Z a' S w':=
 ⟨(ht.block _ h.blk.lt h.out).trans h.blk,h.wheel.tch ht h.outs,hs,h.out,h.outs,h.own,h.hi⟩
theorem SvcAt.wheelT (h:SvcAt I B Z a S w) {S':WS} (ht:Tch B.own w w') (hs:WheelAt B S' w'):SvcAt I B Z a S' w':=
 ⟨(ht.block _ h.blk.lt (fun e=>h.own (.inl e))).trans h.blk,hs,I.keep h.board ht (fun k hk=>⟨h.outs k (.inl hk),h.hi k (.inl hk)⟩),h.out,h.outs,h.own,h.hi⟩
theorem SvcAt.tch (h:SvcAt I B Z a S w) {X:Nat→Prop} (ht:Tch X w w') (h1:¬X Z.b) (h2:∀k,B.all k→¬X k) (h3:∀k,X k→¬I.ft k∧8≤k):SvcAt I B Z a S w':=
 ⟨(ht.block _ h.blk.lt h1).trans h.blk,h.wheel.tch ht h2,I.keep h.board ht h3,h.out,h.outs,h.own,h.hi⟩
theorem Tch.none_ {w w':World} (h:Below w.heap.size w w'):Tch (fun _=>False) w w':=Tch.of_below h
theorem SvcAt.below (h:SvcAt I B Z a S w) (hb:Below w.heap.size w w'):SvcAt I B Z a S w':=h.tch (Tch.none_ hb) (fun e=>e) (fun _ _ e=>e) (fun _ e=>e.elim)
theorem SvcAt.lt (h:SvcAt I B Z a S w):Z.b<w.heap.size:=h.blk.lt
theorem lost_at (h:SvcAt I B Z a S w):Calls Tryz.prog 125 #[.pointer (some ⟨Z.b,0,none⟩)] w fun e w'=>e=.returned (.bool false)∧Tch I.ft w w'∧SvcAt I B Z a S w':=by
 have c3:w.cell? ⟨Z.b,3,none⟩=some (.pointer (some ⟨I.pb,0,none⟩)):=h.blk.cell 3 rfl;go_enter Tryz.func125,Tryz.ntmps125
 go_wp2_with (go_at_call 22;refine(I.down h.board).mono ?_;rintro e w1 ⟨rfl,ht1,hs1⟩)
 refine bodyPost_ret (v:=.bool false) ?_ rfl ⟨rfl,ht1,h.boardT ht1 hs1⟩;simp[results,Tryz.results125,go_sem]
theorem sync_at (h:SvcAt I B Z a S w):Calls Tryz.prog 71 #[.pointer (some ⟨Z.b,0,none⟩)] w fun e w'=>e=.returned (.bool true)∧Tch I.ft w w'∧SvcAt I B Z a S w':=by
 go_enter Tryz.func71,Tryz.ntmps71
 go_wp2_with (go_at_call 125;refine(lost_at h).mono ?_;rintro e w1 ⟨rfl,ht1,hs1⟩)
 refine bodyPost_ret (v:=.bool true) ?_ rfl ⟨rfl,ht1,hs1⟩;simp[results,Tryz.results71,go_sem]
theorem slive_at (h:SvcAt I B Z a S w):Calls Tryz.prog 30 #[.pointer (some ⟨Z.b,0,none⟩)] w fun e w'=>e=.returned (.int .i64 (S.p.n:Int))∧Tch I.ft w w'∧SvcAt I B Z a S w':=by
 go_enter Tryz.func30,Tryz.ntmps30
 go_wp2_with (go_at_call 71;fail)
 refine(sync_at h).mono ?_;rintro e w1 ⟨rfl,ht1,hs1⟩;have c0:w1.cell? ⟨Z.b,0,none⟩=some (.pointer (some ⟨B.b,0,none⟩)):=hs1.blk.cell 0 rfl
 go_wp2_with (go_at_call 72;refine(wlive_at hs1.wheel).mono ?_;rintro e w2 ⟨rfl,hb2⟩)
 refine bodyPost_ret (v:=.int .i64 (S.p.n:Int)) ?_ rfl ⟨rfl,ht1.trans ((Tch.of_below hb2)),hs1.below hb2⟩;simp[results,Tryz.results30,go_sem]
def Nx (B:WB) (S:WS) (v:Nat) (b:Bool):Prop:=v<18446744073709551616∧∀w,WheelAt B S w→TabW w→Calls Tryz.prog 122 #[.pointer (some ⟨B.b,0,none⟩)] w fun e w'=>e=.returned (.tuple #[.int .u64 v,.bool b])∧Below w.heap.size w w'
theorem set_at (h:SvcAt I B Z a S w) {v:Nat} {b:Bool} (hx:Nx B S v b) (hl:3≤I.left a):Calls Tryz.prog 70 #[.pointer (some ⟨Z.b,0,none⟩)] w fun e w'=>
 e=.returned (.int .i64 0)∧Tch I.ft w w'∧∃a',SvcAt I B Z a' S w'∧((a'=a∧I.armed a=if b then v else 18446744073709551615)∨I.R a (if b then v else 18446744073709551615) a'):=by
 have c0:w.cell? ⟨Z.b,0,none⟩=some (.pointer (some ⟨B.b,0,none⟩)):=h.blk.cell 0 rfl;obtain⟨hv,hx⟩:=hx
 obtain⟨d,hd⟩:∃d,d=if b then v else 18446744073709551615:=⟨_,rfl⟩
 have hdl:d<18446744073709551616:=by rw[hd];split<;>omega
 rw[←hd];obtain⟨am,ham⟩:∃am,am=I.armed a:=⟨_,rfl⟩;have hat:∀ {w},I.S a w→_:=fun{w} h=>I.at_ (a:=a) (w:=w) h;rw[←ham] at hat ⊢;clear ham;go_enter Tryz.func70,Tryz.ntmps70
 go_wp2_with (go_at_call 122;fail)
 refine(hx _ h.wheel (I.tab h.board)).mono ?_;rintro e w1 ⟨rfl,hb1⟩;have h1:=h.below hb1;have c2:w1.cell? ⟨Z.b,2,none⟩=some (.pointer (some ⟨I.hb,0,none⟩)):=h1.blk.cell 2 rfl;cases b
 ·simp only[Bool.false_eq_true,if_false] at hd
  subst hd
  go_wp2_with (go_at_call 123;fail)
  refine(hat h1.board).mono ?_;rintro e w2 ⟨rfl,ht2,hs2⟩;have h2:=h1.boardT ht2 hs2;have hT2:Tch I.ft w w2:=(Tch.of_below hb1).trans ht2;have c3:w2.cell? ⟨Z.b,2,none⟩=some (.pointer (some ⟨I.hb,0,none⟩)):=h2.blk.cell 2 rfl
  by_cases he:am=18446744073709551615
  ·have he':((am:Int)==18446744073709551615)=true:=by simp;omega
   go_wp2;refine bodyPost_ret (v:=.int .i64 0) ?_ rfl ⟨rfl,hT2,a,h2,.inl ⟨rfl,he⟩⟩;simp[results,Tryz.results70,go_sem]
  ·have he':((am:Int)==18446744073709551615)=false:=by simp;omega
   go_wp2_with (go_at_call 124;fail)
   refine(I.arm 18446744073709551615 hdl hl h2.board).mono ?_;rintro e w3 ⟨rfl,ht3,a',hr,hs3⟩;go_wp2;refine bodyPost_ret (v:=.int .i64 0) ?_ rfl ⟨rfl,hT2.trans ht3,a',h2.boardT ht3 hs3,.inr hr⟩;simp[results,Tryz.results70,go_sem]
 ·simp only[if_true] at hd
  subst hd
  go_wp2_with (go_at_call 123;fail)
  refine(hat h1.board).mono ?_;rintro e w2 ⟨rfl,ht2,hs2⟩;have h2:=h1.boardT ht2 hs2;have hT2:Tch I.ft w w2:=(Tch.of_below hb1).trans ht2;have c3:w2.cell? ⟨Z.b,2,none⟩=some (.pointer (some ⟨I.hb,0,none⟩)):=h2.blk.cell 2 rfl
  by_cases he:am=d
  ·have he':((am:Int)==(d:Int))=true:=by simp;omega
   go_wp2;refine bodyPost_ret (v:=.int .i64 0) ?_ rfl ⟨rfl,hT2,a,h2,.inl ⟨rfl,he⟩⟩;simp[results,Tryz.results70,go_sem]
  ·have he':((am:Int)==(d:Int))=false:=by simp;omega
   go_wp2_with (go_at_call 124;fail)
   refine(I.arm d hdl hl h2.board).mono ?_;rintro e w3 ⟨rfl,ht3,a',hr,hs3⟩;go_wp2;refine bodyPost_ret (v:=.int .i64 0) ?_ rfl ⟨rfl,hT2.trans ht3,a',h2.boardT ht3 hs3,.inr hr⟩;simp[results,Tryz.results70,go_sem]
end
theorem minOf_nat:∀ {zs:List Int},(∀z∈zs,∃v:Nat,z=v∧v<18446744073709551616)→∃v:Nat,Lib.minOf zs=v∧v<18446744073709551616:=by
 intro zs h;unfold Lib.minOf
 have key:∀(l:List Int) (i:Int),(∀z∈l,∃v:Nat,z=v∧v<18446744073709551616)→(∃v:Nat,i=v∧v<18446744073709551616)→∃v:Nat,l.foldl min i=v∧v<18446744073709551616:=by
  intro l
  induction l with
  |nil=>exact fun i _ hi=>hi
  |cons a l ih=>
    intro i hl hi;refine ih _ (fun z hz=>hl z (by simp[hz])) ?_;rw[Int.min_def];split
    ·exact hi
    ·exact hl a (by simp)
 refine key zs _ h ?_
 cases zs with
 |nil=>exact⟨0,rfl,by omega⟩
 |cons a l=>exact h a (by simp)
structure WOk (B:WB) (S:WS) (ls:Int×Int→List Nat):Prop where
 ch:ChainOk S.c ls B.c.room
 live:∀k a,a∈ls k→∃t,LiveAt S.p a t∧t.d<18446744073709551616
 m:∀i,S.m i<18446744073709551616
 room:B.c.room≤64
section
variable {B:WB} {S:WS} {ls:Int×Int→List Nat}
theorem WOk.told (h:WOk B S ls) (k:Int×Int):Told B S k (ls k):=
 ⟨h.ch.trail k,fun a ha=>⟨h.ch.lt k a ha,(h.live k a ha).imp fun _ e=>e.1⟩,Nat.le_trans (h.ch.le k) h.room⟩
theorem WOk.minNat (h:WOk B S ls) (k:Int×Int):∃v:Nat,Lib.minOf ((ls k).map (dlOf S))=v∧v<18446744073709551616:=by
 refine minOf_nat fun z hz=>?_;obtain⟨a,ha,rfl⟩:=List.mem_map.1 hz;obtain⟨t,hL,ht⟩:=h.live k a ha;exact⟨t.d,by unfold dlOf;rw[hL.ent],ht⟩
theorem WOk.bits (h:WOk B S ls):∃LB:Nat→List Nat,∀l,l<8→Bits (S.m l) (nxtN (S.m l) 0) (LB l):=
 ⟨fun l=>Classical.choose (bits_any (S.m l) (h.m l) 0 (by omega)),fun l _=>Classical.choose_spec (bits_any (S.m l) (h.m l) 0 (by omega))⟩
theorem WOk.nx (h:WOk B S ls):∃v b,Nx B S v b:=by
 by_cases hn:S.p.n=0
 ·exact⟨0,false,by omega,fun w hw _=>next_none hw hn⟩
 ·obtain⟨LB,hLB⟩:=h.bits
  have hv:∃v:Nat,(nextV S (ls (-1,0)) (ls (lowK LB)) (ls (8,0)) (lowK LB).1).1=v∧v<18446744073709551616:=by
   unfold nextV;split
   ·exact h.minNat _
   ·split
    ·exact h.minNat _
    ·exact h.minNat _
  obtain⟨v,hv,hvl⟩:=hv;refine⟨v,(nextV S (ls (-1,0)) (ls (lowK LB)) (ls (8,0)) (lowK LB).1).2,hvl,fun w hw hT=>?_⟩;have:=next_some hw hT h.m hn hLB (h.told (-1,0)) (h.told (lowK LB)) (h.told (8,0));rw[hv] at this;exact this
end
section
variable {I:BI} {B:WB} {Z:SB} {a:I.A} {S:WS} {w w':World}
theorem call_at (h:SvcAt I B Z a S w) {f:Nat} {caps:Array Value} {k:Int} {X:Nat→Prop} {S':WS} {P:I.A→World→Prop}
 (he:∀w,(callFunc f caps).run Tryz.prog w=.ok (.enter f caps) w)
 (hc:∀w1,Tch I.ft w w1→SvcAt I B Z a S w1→Calls Tryz.prog f caps w1 fun e w2=>e=.returned (.int .i64 k)∧Tch X w1 w2∧∃a',SvcAt I B Z a' S' w2∧P a' w2)
 (hP:∀a' w1 w2,P a' w1→Tch I.ft w1 w2→P a' w2) :
 Calls Tryz.prog 65 #[.pointer (some ⟨Z.b,0,none⟩),.func (.func f) #[] caps] w fun e w'=>e=.returned (.int .i64 k)∧Tch (fun r=>I.ft r∨X r) w w'∧∃a',SvcAt I B Z a' S' w'∧P a' w':=by
 go_enter Tryz.func65,Tryz.ntmps65
 go_wp2_with (go_at_call 71;fail)
 refine(sync_at h).mono ?_;rintro e w1 ⟨rfl,ht1,hs1⟩
 go_wp2_with (fail)
 refine(hc w1 ht1 hs1).mono ?_;rintro e w2 ⟨rfl,ht2,a',hs2,hp2⟩
 go_wp2_with (go_at_call 71;fail)
 refine(sync_at hs2).mono ?_;rintro e w3 ⟨rfl,ht3,hs3⟩;go_wp2;refine bodyPost_ret (v:=.int .i64 k) ?_ rfl ⟨rfl,((ht1.mono fun r hr=>.inl hr).trans (ht2.mono fun r hr=>.inr hr)).trans (ht3.mono fun r hr=>.inl hr),a',hs3,hP _ _ _ hp2 ht3⟩;simp[results,Tryz.results65,go_sem]
end
section
variable {I:BI} {B:WB} {Z:SB} {a:I.A} {S:WS} {w w':World}
def Ad (B:WB) (S:WS) (d p hv:Nat) (S':WS):Prop:=∀w,WheelAt B S w→TabW w→Calls Tryz.prog 103 #[.pointer (some ⟨B.b,0,none⟩),.int .u64 d,.int .u64 p] w fun e w'=>
 e=.returned (.tuple #[.int .u64 hv,.int .i64 0])∧Tch B.own w w'∧WheelAt B S' w'
def Away (I:BI) (B:WB) (Z:SB) (x:Nat):Prop:=¬I.ft x∧¬B.all x∧x≠Z.b∧8≤x
theorem at1_at {y:Nat} {d:Nat} (hy:Blk w y #[.int .u64 d] 37):Calls Tryz.prog 62 #[.pointer (some ⟨y,0,none⟩)] w fun e w'=>e=.returned (.tuple #[.int .u64 d,.int .i64 0])∧w'=w:=by
 have c0:w.cell? ⟨y,0,none⟩=some (.int .u64 d):=hy.cell 0 rfl;go_enter Tryz.func62,Tryz.ntmps62;go_wp2;refine bodyPost_ret (v:=.tuple #[.int .u64 d,.int .i64 0]) ?_ rfl ⟨rfl,rfl⟩;simp[results,Tryz.results62,go_sem]
set_option maxHeartbeats 4000000 in
theorem add1_ok (h:SvcAt I B Z a S w) (hf:S.p.n<Z.room) {x0 x1 x2 x3 y:Nat} {d p hv v:Nat} {b:Bool} {S':WS} (h0:Blk w x0 #[.pointer (some ⟨Z.b,0,none⟩)] 57) (h1:Blk w x1 #[.func (.func 62) #[] #[.pointer (some ⟨y,0,none⟩)]] 135) (h2:Blk w x2 #[.int .u64 p] 37) (h3:Blk w x3 #[.int .u64 0] 37) (hy:Blk w y #[.int .u64 d] 37)
 (a0:Away I B Z x0) (a3:Away I B Z x3) (hA:Ad B S d p hv S') (hx:Nx B S' v b) (hl:3≤I.left a) :
 Calls Tryz.prog 102 #[.pointer (some ⟨x0,0,none⟩),.pointer (some ⟨x1,0,none⟩),.pointer (some ⟨x2,0,none⟩),.pointer (some ⟨x3,0,none⟩)] w fun e w'=>e=.returned (.int .i64 0)∧Tch (fun r=>(I.ft r∨B.own r)∨r=x3) w w' ∧
  ∃a',SvcAt I B Z a' S' w'∧(Blk w' x3 #[.int .u64 hv] 37∧((a'=a∧I.armed a=if b then v else 18446744073709551615)∨I.R a (if b then v else 18446744073709551615) a')):=by
 have c0:∀x:WX w,x.w.cell? ⟨x0,0,none⟩=some (.pointer (some ⟨Z.b,0,none⟩)):=h0.wx 0 rfl;have c1:∀x:WX w,x.w.cell? ⟨Z.b,0,none⟩=some (.pointer (some ⟨B.b,0,none⟩)):=h.blk.wx 0 rfl;have c2:∀x:WX w,x.w.cell? ⟨Z.b,5,none⟩=some (.int .i64 (Z.room:Int)):=h.blk.wx 5 rfl;have hw:=h.wheel;have hlw:=hw.lt;obtain⟨n,hn⟩:∃n,n=S.p.n:=⟨_,rfl⟩
 have hlv:∀W,Below w.heap.size w W→Calls Tryz.prog 72 #[.pointer (some ⟨B.b,0,none⟩)] W fun e w'=>e=.returned (.int .i64 (n:Int))∧Below W.heap.size W w':=fun W hW=>by
  rw[hn];exact wlive_at (hw.below hW hlw)
 rw[←hn] at hf;clear hn;obtain⟨r,hr⟩:∃r,r=Z.room:=⟨_,rfl⟩;rw[←hr] at hf c2;clear hr
 have hfd:decide ((r:Int)≤(n:Int))=false:=by simp;exact hf
 obtain⟨dd,hdd⟩:∃dd,dd=if b then v else 18446744073709551615:=⟨_,rfl⟩
 rw[←hdd];have HDD:=Lib.hid hdd;clear hdd;go_enter Tryz.func102,Tryz.ntmps102;go_wp2;refine wp_region_grown (by kernel_rfl) (by kernel_rfl) ?_
 repeat (go_big_quiet_step (first|(go_at_call 72;exact WX.of (hlv _ (by first|assumption|exact WX.h _)))))
 refine wpQuiet_nil ?_;intro w2 hb2;have k1:w2.cell? ⟨x1,0,none⟩=some (.func (.func 62) #[] #[.pointer (some ⟨y,0,none⟩)]):=(h1.below hb2 h1.lt).cell 0 rfl;have hy2:=hy.below hb2 hy.lt
 have e62:∀w,(callFunc 62 #[.pointer (some ⟨y,0,none⟩)]).run Tryz.prog w=.ok (.enter 62 #[.pointer (some ⟨y,0,none⟩)]) w:=fun w=>by kernel_rfl
 clear c0 c1 c2 hlv hfd
 go_wp2_with (go_at_call 62;refine(at1_at hy2).mono ?_;rintro e w3 ⟨rfl,rfl⟩)
 have hlz:=h.lt;have h3s:=h.below hb2;have z0:=h0.below hb2 h0.lt;have z2:=h2.below hb2 h2.lt;have z3:=h3.below hb2 h3.lt;have hwl:=h3s.wheel;have hlw3:=hwl.lt;have hT3:=I.tab h3s.board
 let T2:World→Prop:=fun W=>Tch B.own w3 W∧WheelAt B S' W
 have hne:=callE_ne T2 w3;haveI:=hne.1;haveI:=hne.2;have d1:∀x:One (CallE T2 w3 false),x.w.cell? ⟨x0,0,none⟩=some (.pointer (some ⟨Z.b,0,none⟩)):=callE_one z0 0 rfl;have d2:∀x:One (CallE T2 w3 false),x.w.cell? ⟨Z.b,0,none⟩=some (.pointer (some ⟨B.b,0,none⟩)):=callE_one h3s.blk 0 rfl;have d3:∀x:One (CallE T2 w3 false),x.w.cell? ⟨x2,0,none⟩=some (.int .u64 p):=callE_one z2 0 rfl;refine wp_region_two (CallE T2 w3) 7 (by decide) (by kernel_rfl) (by kernel_rfl) (Below.refl _ _).drew ?_
 (repeat (first|(refine lexS_skip (by rfl) (by decide) ?_;simp only[Act.put,List.setIfInBounds_toArray,List.set_cons_succ,List.set_cons_zero])|(refine lexS_ewant (by rfl) (by decide) (by kernel_rfl) (by rfl) ?_;intro K hK;go_big_quiet_op;refine hK _ ?_;clear hK K)))
 refine lexS_callT (f:=103) (args:=#[.pointer (some ⟨B.b,0,none⟩),.int .u64 d,.int .u64 p]) (v:=.tuple #[.int .u64 hv,.int .i64 0]) (by rfl) (by rfl) (fun w=>by kernel_rfl) (fun W hW=>((hA W (hwl.below hW hlw3) (hT3.below hW)).mono fun e w' hx=>⟨hx.1,(Tch.of_below hW).trans hx.2.1,hx.2.2⟩)) ?_;simp only[Act.put,List.setIfInBounds_toArray,List.set_cons_succ,List.set_cons_zero]
 (repeat (first|(refine lexS_skip (by rfl) (by decide) ?_;simp only[Act.put,List.setIfInBounds_toArray,List.set_cons_succ,List.set_cons_zero])|(refine lexS_want (by rfl) (by decide) (by rfl) ?_;intro K hK;go_big_quiet_op;refine hK _ ?_;clear hK K)))
 refine fun w4 hw4=>?_;have h4:=h3s.wheelT hw4.1 hw4.2;have n0:x3≠x0:=fun e=>Blk.ne_ z3 z0 (by decide) e;have z04:Blk w4 x0 #[.pointer (some ⟨Z.b,0,none⟩)] 57:=(hw4.1.block _ z0.lt (fun e=>a0.2.1 (.inl e))).trans z0;have z34:Blk w4 x3 #[.int .u64 0] 37:=(hw4.1.block _ z3.lt (fun e=>a3.2.1 (.inl e))).trans z3;have hT4:Tch (fun r=>(I.ft r∨B.own r)∨r=x3) w w4:=(Tch.of_below hb2).trans' hw4.1 (fun j _ hj=>.inl (.inr hj));clear d1 d2 d3 hne hw4;have q3:w4.cell? ⟨x3,0,none⟩=some (.int .u64 0):=z34.cell 0 rfl;have f3:=z34.free 0;have z35:=z34.set 0 (.int .u64 hv);have z05:Blk (w4.setCell ⟨x3,0,none⟩ (.int .u64 hv)) x0 #[.pointer (some ⟨Z.b,0,none⟩)] 57:=z04.set_ne 0 _ n0;have ht5:=(Tch.refl (fun r=>r=x3) w4).setCell (a:=⟨x3,0,none⟩) (.int .u64 hv) (.inl rfl);have h5:=h4.tch ht5 (fun e=>a3.2.2.1 e.symm) (fun k hk e=>a3.2.1 (e ▸ hk)) (fun k e=>e ▸ ⟨a3.1,a3.2.2.2⟩);have hT5:Tch (fun r=>(I.ft r∨B.own r)∨r=x3) w (w4.setCell ⟨x3,0,none⟩ (.int .u64 hv)):=hT4.trans' ht5 (fun j _ hj=>.inr hj);have q0:(w4.setCell ⟨x3,0,none⟩ (.int .u64 hv)).cell? ⟨x0,0,none⟩=some (.pointer (some ⟨Z.b,0,none⟩)):=z05.cell 0 rfl
 go_wp2_with (go_at_call 70;fail)
 refine(set_at h5 hx hl).mono ?_;rintro e w6 ⟨rfl,ht6,a',h6,hr6⟩;rw[←HDD.out] at hr6;go_wp2;refine bodyPost_ret (v:=.int .i64 0) ?_ rfl ⟨rfl,hT5.trans' ht6 (fun j _ hj=>.inl (.inl hj)),a',h6,(ht6.block _ z35.lt a3.1).trans z35,hr6⟩;simp[results,Tryz.results102,go_sem]
end
section
variable {I:BI} {B:WB} {Z:SB} {a:I.A} {S:WS} {w w':World}
theorem SvcAt.away (h:SvcAt I B Z a S w) {x:Nat} (hx:w.heap.size≤x):Away I B Z x:=by
 have hl:=h.wheel.lt;have hz:=h.lt;have h8:=h.hi B.b (.inl (.inl rfl));refine⟨fun e=>?_,?_,?_,?_⟩
 ·have:=I.lt h.board x e
  omega
 ·rintro ((e|(e|e|e)|(e|e))|e|e)<;>omega
 ·omega
 ·omega
set_option maxHeartbeats 4000000 in
theorem add_ok (h:SvcAt I B Z a S w) (hf:S.p.n<Z.room) {p y d hv v:Nat} {b:Bool} {S':WS} (hy:Blk w y #[.int .u64 d] 37) (ay:Away I B Z y) (hA:Ad B S d p hv S') (hx:Nx B S' v b) (hl:3≤I.left a):Calls Tryz.prog 61 #[.pointer (some ⟨Z.b,0,none⟩),.int .u64 p,.func (.func 62) #[] #[.pointer (some ⟨y,0,none⟩)]] w fun e w'=>
 e=.returned (.tuple #[.int .u64 hv,.int .i64 0])∧Tch (fun r=>I.ft r∨B.own r) w w'∧∃a',SvcAt I B Z a' S' w'∧((a'=a∧I.armed a=if b then v else 18446744073709551615)∨I.R a (if b then v else 18446744073709551615) a'):=by
 have hsz4:(((((w.alloc (.cells #[.pointer (some ⟨Z.b,0,none⟩)] 57)).alloc (.cells #[.int .u64 p] 37)).alloc (.cells #[.func (.func 62) #[] #[.pointer (some ⟨y,0,none⟩)]] 135)).alloc (.cells #[.int .u64 0] 37))).heap.size=w.heap.size+4:=by simp
 have hB4:Below w.heap.size w ((((w.alloc (.cells #[.pointer (some ⟨Z.b,0,none⟩)] 57)).alloc (.cells #[.int .u64 p] 37)).alloc (.cells #[.func (.func 62) #[] #[.pointer (some ⟨y,0,none⟩)]] 135)).alloc (.cells #[.int .u64 0] 37)):=((((Below.refl _ w).alloc (Nat.le_refl _) _).alloc (by simp) _).alloc (by simp;omega) _).alloc (by simp;omega) _;have z0:Blk ((((w.alloc (.cells #[.pointer (some ⟨Z.b,0,none⟩)] 57)).alloc (.cells #[.int .u64 p] 37)).alloc (.cells #[.func (.func 62) #[] #[.pointer (some ⟨y,0,none⟩)]] 135)).alloc (.cells #[.int .u64 0] 37)) w.heap.size #[.pointer (some ⟨Z.b,0,none⟩)] 57:=(((Blk.new w _ _).alloc _).alloc _).alloc _
 have z2:Blk ((((w.alloc (.cells #[.pointer (some ⟨Z.b,0,none⟩)] 57)).alloc (.cells #[.int .u64 p] 37)).alloc (.cells #[.func (.func 62) #[] #[.pointer (some ⟨y,0,none⟩)]] 135)).alloc (.cells #[.int .u64 0] 37)) (w.heap.size+1) #[.int .u64 p] 37:=by
  have:=((Blk.new (w.alloc (.cells #[.pointer (some ⟨Z.b,0,none⟩)] 57)) #[.int .u64 (p:Int)] 37).alloc (.cells #[.func (.func 62) #[] #[.pointer (some ⟨y,0,none⟩)]] 135)).alloc (.cells #[.int .u64 0] 37);simpa using this
 have z1:Blk ((((w.alloc (.cells #[.pointer (some ⟨Z.b,0,none⟩)] 57)).alloc (.cells #[.int .u64 p] 37)).alloc (.cells #[.func (.func 62) #[] #[.pointer (some ⟨y,0,none⟩)]] 135)).alloc (.cells #[.int .u64 0] 37)) (w.heap.size+1+1) #[.func (.func 62) #[] #[.pointer (some ⟨y,0,none⟩)]] 135:=by
  have:=(Blk.new ((w.alloc (.cells #[.pointer (some ⟨Z.b,0,none⟩)] 57)).alloc (.cells #[.int .u64 p] 37)) #[.func (.func 62) #[] #[.pointer (some ⟨y,0,none⟩)]] 135).alloc (.cells #[.int .u64 0] 37);simpa using this
 have z3:Blk ((((w.alloc (.cells #[.pointer (some ⟨Z.b,0,none⟩)] 57)).alloc (.cells #[.int .u64 p] 37)).alloc (.cells #[.func (.func 62) #[] #[.pointer (some ⟨y,0,none⟩)]] 135)).alloc (.cells #[.int .u64 0] 37)) (w.heap.size+1+1+1) #[.int .u64 0] 37:=by
  have:=Blk.new (((w.alloc (.cells #[.pointer (some ⟨Z.b,0,none⟩)] 57)).alloc (.cells #[.int .u64 p] 37)).alloc (.cells #[.func (.func 62) #[] #[.pointer (some ⟨y,0,none⟩)]] 135)) #[.int .u64 0] 37;simpa using this
 have h4:=h.below hB4;have hy0:=h.away (Nat.le_refl _);have hy1:=h.away (x:=w.heap.size+1+1) (by omega);have hy2:=h.away (x:=w.heap.size+1) (by omega);have hy3:=h.away (x:=w.heap.size+1+1+1) (by omega);have hy4:=hy.below hB4 hy.lt
 obtain⟨dd,hdd⟩:∃dd,dd=if b then v else 18446744073709551615:=⟨_,rfl⟩
 rw[←hdd];have HDD:=Lib.hid hdd;clear hdd;go_enter Tryz.func61,Tryz.ntmps61
 go_wp2_with (go_at_call 65;fail)
 generalize ((((w.alloc (.cells #[.pointer (some ⟨Z.b,0,none⟩)] 57)).alloc (.cells #[.int .u64 p] 37)).alloc (.cells #[.func (.func 62) #[] #[.pointer (some ⟨y,0,none⟩)]] 135)).alloc (.cells #[.int .u64 0] 37))=w4 at *
 refine(call_at (I:=I) h4 (f:=102) (caps:=#[.pointer (some ⟨w.heap.size,0,none⟩),.pointer (some ⟨w.heap.size+1+1,0,none⟩),.pointer (some ⟨w.heap.size+1,0,none⟩),.pointer (some ⟨w.heap.size+1+1+1,0,none⟩)]) (k:=0) (X:=fun r=>(I.ft r∨B.own r)∨r=w.heap.size+1+1+1) (S':=S') (P:=fun a' wx=>Blk wx (w.heap.size+1+1+1) #[.int .u64 hv] 37∧((a'=a∧I.armed a=dd)∨I.R a dd a')) (fun w=>by kernel_rfl)
  (fun w1 ht1 hs1=>(add1_ok hs1 hf ((ht1.block _ z0.lt hy0.1).trans z0) ((ht1.block _ z1.lt hy1.1).trans z1) ((ht1.block _ z2.lt hy2.1).trans z2) ((ht1.block _ z3.lt hy3.1).trans z3) ((ht1.block _ hy4.lt ay.1).trans hy4) hy0 hy3 hA hx hl).mono fun e w2 hx=>by rw[←HDD.out] at hx;exact hx)
  (fun a' w1 w2 hp ht=>⟨(ht.block _ hp.1.lt hy3.1).trans hp.1,hp.2⟩)).mono ?_
 rintro e w5 ⟨rfl,ht5,a',h5,z5,hr5⟩;have q5:w5.cell? ⟨w.heap.size+1+1+1,0,none⟩=some (.int .u64 hv):=z5.cell 0 rfl;go_wp2;refine bodyPost_ret (v:=.tuple #[.int .u64 hv,.int .i64 0]) ?_ rfl ⟨rfl,(Tch.of_below hB4).trans' ht5 ?_,a',h5,hr5⟩
 ·simp[results,Tryz.results61,go_sem]
 ·rintro j hj (e|(e|e)|e)
  ·exact .inl e
  ·exact .inl e
  ·exact .inr e
  ·omega
end
section
variable {I:BI} {B:WB} {Z:SB} {a:I.A} {S:WS} {w w':World}
theorem sat_ok (h:SvcAt I B Z a S w) (hf:S.p.n<Z.room) {p d hv v:Nat} {b:Bool} {S':WS} (hA:Ad B S d p hv S') (hx:Nx B S' v b) (hl:3≤I.left a):Calls Tryz.prog 26 #[.pointer (some ⟨Z.b,0,none⟩),.int .u64 d,.int .u64 p] w fun e w'=>
 e=.returned (.tuple #[.int .u64 hv,.int .i64 0])∧Tch (fun r=>I.ft r∨B.own r) w w'∧∃a',SvcAt I B Z a' S' w'∧((a'=a∧I.armed a=if b then v else 18446744073709551615)∨I.R a (if b then v else 18446744073709551615) a'):=by
 have hB:Below w.heap.size w (w.alloc (.cells #[.int .u64 d] 37)):=(Below.refl _ w).alloc (Nat.le_refl _) _;have hy:=Blk.new w #[.int .u64 (d:Int)] 37;have h1:=h.below hB;have ay:=h.away (Nat.le_refl _)
 obtain⟨dd,hdd⟩:∃dd,dd=if b then v else 18446744073709551615:=⟨_,rfl⟩
 have hadd:=add_ok h1 hf hy ay hA hx hl;rw[←hdd] at hadd ⊢;clear hdd;go_enter Tryz.func26,Tryz.ntmps26
 go_wp2_with (go_at_call 61;fail)
 refine hadd.mono ?_;rintro e w2 ⟨rfl,ht2,a',h2,hr2⟩;go_wp2;refine bodyPost_ret (v:=.tuple #[.int .u64 hv,.int .i64 0]) ?_ rfl ⟨rfl,(Tch.of_below hB).trans ht2,a',h2,hr2⟩;simp[results,Tryz.results26,go_sem]
def CnE (B:WB) (S':WS) (x2:Nat) (w0:World):Nat→World→Prop
 | 0,w=>Below w0.heap.size w0 w
 | 1,w=>Tch B.own w0 w∧WheelAt B S' w
 |_,w=>Tch (fun r=>B.own r∨r=x2) w0 w∧WheelAt B S' w∧Blk w x2 #[.bool true] 4
theorem CnE.tch {S':WS} {x2:Nat} {w0 w:World} {b:Nat} (h:CnE B S' x2 w0 b w):Tch (fun r=>B.own r∨r=x2) w0 w:=by
 match b with
 | 0=>exact Tch.of_below h
 | 1=>exact h.1.mono fun r hr=>.inl hr
 |_+2=>exact h.1
theorem CnE.cell {S':WS} {x2:Nat} {w0:World} {k:Nat} {T:TypeId} {cs:Array Value} (hk:Blk w0 k cs T) (h1:¬B.own k) (h2:k≠x2) (j:Nat) {v:Value} (hv:cs[j]?=some v):∀x:Thr (CnE B S' x2 w0),x.w.cell? ⟨k,j,none⟩=some v:=fun x=>
 Blk.cell ((x.h.tch.block _ hk.lt (fun e=>e.elim h1 h2)).trans hk) j hv
theorem lexT_callT1 {P:Program} {ops:Array Oper} {E:Nat→World→Prop} {s1 s2:Nat} {Q:Act→Prop} {o:Oper} {l:List Oper} {k:Nat} {a:Act} (hw:Region.wanted o (yielded ops a.tmps)=true) (hk:k=s1) {f:FuncId} {args:Array Value} {v:Value} (ho:∀w,(execOp a.eval o).run P w=.ok (.enter f args) w)
 (hc:∀w,E 0 w→Calls P f args w fun e w'=>e=.returned v∧E 1 w') (h:lexT P ops E s1 s2 Q l (k+1) (a.put o.dst v)):lexT P ops E s1 s2 Q (o::l) k a:=by
 refine lexT_turn1 hw hk v (fun w hE=>?_) h;unfold does;rw[ho];exact hc w hE
end
section
variable {B:WB} {S:WS} {ls:Int×Int→List Nat}
theorem occSet_lt {m:Nat→Nat} (hm:∀i,m i<18446744073709551616) {k:Int×Int} (hk:(k.1<0∨8≤k.1)∨slotK k) (i:Nat):occSet m k i<18446744073709551616:=by
 unfold occSet;split
 ·exact hm i
 ·rename_i h
  rcases hk with hk|hk
  ·exact absurd hk h
  ·obtain⟨x,y,hke,hx,hy⟩:=hk
   by_cases e:i=k.1.toNat
   ·rw[e,fset_same]
    have h1:=hm k.1.toNat;have h2:2^k.2.toNat<2^64:=Nat.pow_lt_pow_right (by omega) (by rw[hke];simp only[Int.toNat_natCast];exact hy);exact Nat.or_lt_two_pow (n:=64) h1 h2
   ·rw[fset_ne _ _ e]
    exact hm i
theorem occDrop_lt {m:Nat→Nat} (hm:∀i,m i<18446744073709551616) (k:Int×Int) (i:Nat):occDrop m k i<18446744073709551616:=by
 unfold occDrop;split
 ·exact hm i
 ·by_cases e:i=k.1.toNat
  ·rw[e,fset_same]
   exact Nat.lt_of_le_of_lt Nat.and_le_left (hm _)
  ·rw[fset_ne _ _ e]
   exact hm i
theorem WOk.add (h:WOk B S ls) (hT2:¬B.own 2) {a nw:Nat} (hw:S.p.word+nw=18446744073709551615) (hf:firstN nw 0=(a:Int)) (ha:a<64) (hr:a<B.p.room) (hc:a<B.c.room) (hn:S.p.ent a=none) (hg:S.p.gen a<4294967295)
 {d p:Nat} (hd:d<18446744073709551616) (hb:S.base<18446744073709551616) (ho:S.order<4294967296) (hout:∀k,a∉ls k) :
 Ad B S d p (hN S.p a) (S.add a d p)∧WOk B (S.add a d p) (fset ls (placeOf S.base d) (ls (placeOf S.base d)++[a])):=by
 have hroom:=h.room;refine⟨fun w hW hT=>add_at hW hT hT2 hw hf ha hr hn hg hd hb ho h.m (h.ch.pushOk (by omega) hc hout),h.ch.push hc hout,?_,fun i=>occSet_lt h.m (placeOf_key _ _) i,h.room⟩;intro k a' ha'
 have hcase:a'∈ls k∨a'=a:=by
  by_cases e:k=placeOf S.base d
  ·rw[e,fset_same] at ha'
   simp only[List.mem_append,List.mem_singleton] at ha';exact ha'.imp (fun h=>e ▸ h) id
  ·rw[fset_ne _ _ e] at ha'
   exact .inl ha'
 by_cases e:a'=a
 ·subst e
  exact⟨⟨d,p,S.order⟩,⟨fset_same _ _ _,by omega,hg⟩,hd⟩
 ·obtain⟨t,hL,ht⟩:=h.live k a' (hcase.resolve_right e)
  exact⟨t,⟨(fset_ne _ _ e).trans hL.ent,hL.lt,hL.gen⟩,ht⟩
end
section
variable {I:BI} {B:WB} {Z:SB} {a:I.A} {S:WS} {w w':World}
end
theorem make56 (w:World):(Instr.makeSlice 56 (.int .i64 1) (.int .i64 1)).run Tryz.prog w=.ok (.slice (some ⟨w.heap.size,0,none⟩) 1 1) (w.alloc (.cells #[.int .u64 0] 37)):=by
 obtain⟨i,hi,hz0,hz1,hz2⟩:=info_parts infoD37;have:=run_make (P:=Tryz.prog) w 56 37 i (.int .u64 0) underlying56 hi hz0 .i64 .i64 1 1 (by omega) (by omega) (by rw[hz2];omega) (by omega);rw[this,hz1]
 have e:madeCells (Value.int IntKind.u64 0).cells (Int.toNat 1*1)=#[Value.int IntKind.u64 0]:=by kernel_rfl
 rw[e];rfl
def ps0:PS:=⟨fun _=>none,fun _=>0,0,0⟩
theorem pool_new {r:Nat} (h1:1≤r) (h2:r≤64) (w:World):Calls Tryz.prog 235 #[.int .i64 r] w fun e w'=>∃B:PB,e=.returned (.tuple #[.pointer (some ⟨B.b,0,none⟩),.int .i64 0])∧Below w.heap.size w w'∧PoolAt B ps0 w'∧B.room=r∧w.heap.size≤B.b∧∀k,B.own k→w.heap.size≤k:=by
 have hmm:=@run_makeMap Tryz.prog;have hms:=make56
 have hq:((r:Int)+64-1).tdiv 64=1:=by
  rw[Int.tdiv_eq_ediv_of_nonneg (by omega)];omega
 go_enter Tryz.func235,Tryz.ntmps235;go_wp2
 have hB:Below w.heap.size w ((((w.alloc (Obj.map #[] 0)).alloc (Obj.map #[] 0)).alloc (Obj.cells #[.int .u64 0] 37)).alloc (Obj.cells #[Value.map (some w.heap.size),Value.map (some (w.heap.size+1)),Value.slice (some ⟨w.heap.size+1+1,0,none⟩) 1 1,.int .i64 r] 320)):=((((Below.refl _ w).alloc (Nat.le_refl _) _).alloc (by simp) _).alloc (by simp<;>omega) _).alloc (by simp<;>omega) _
 have k0:MapIs PK ((((w.alloc (Obj.map #[] 0)).alloc (Obj.map #[] 0)).alloc (Obj.cells #[.int .u64 0] 37)).alloc (Obj.cells #[Value.map (some w.heap.size),Value.map (some (w.heap.size+1)),Value.slice (some ⟨w.heap.size+1+1,0,none⟩) 1 1,.int .i64 r] 320)) w.heap.size (fun _=>none) 0:=by
  refine(mapIs_new w).at ?_
  exact((((Below.refl (w.heap.size+1) (w.alloc (Obj.map #[] 0))).alloc (by simp) _).alloc (by simp) _).alloc (by simp<;>omega) _).block _ (by omega)
 have k1:MapIs PK ((((w.alloc (Obj.map #[] 0)).alloc (Obj.map #[] 0)).alloc (Obj.cells #[.int .u64 0] 37)).alloc (Obj.cells #[Value.map (some w.heap.size),Value.map (some (w.heap.size+1)),Value.slice (some ⟨w.heap.size+1+1,0,none⟩) 1 1,.int .i64 r] 320)) (w.heap.size+1) (fun _=>none) 0:=by
  have:=mapIs_new (K:=PK) (w.alloc (Obj.map #[] 0));rw[World.size_alloc] at this;refine this.at ?_;exact((((Below.refl (w.heap.size+1+1) ((w.alloc (Obj.map #[] 0)).alloc (Obj.map #[] 0))).alloc (by simp) _).alloc (by simp) _)).block _ (by omega)
 have z2:Blk ((((w.alloc (Obj.map #[] 0)).alloc (Obj.map #[] 0)).alloc (Obj.cells #[.int .u64 0] 37)).alloc (Obj.cells #[Value.map (some w.heap.size),Value.map (some (w.heap.size+1)),Value.slice (some ⟨w.heap.size+1+1,0,none⟩) 1 1,.int .i64 r] 320)) (w.heap.size+1+1) #[.int .u64 0] 37:=by
  have:=(Blk.new ((w.alloc (Obj.map #[] 0)).alloc (Obj.map #[] 0)) #[.int .u64 0] 37).alloc (Obj.cells #[Value.map (some w.heap.size),Value.map (some (w.heap.size+1)),Value.slice (some ⟨w.heap.size+1+1,0,none⟩) 1 1,.int .i64 r] 320);simpa using this
 have z3:Blk ((((w.alloc (Obj.map #[] 0)).alloc (Obj.map #[] 0)).alloc (Obj.cells #[.int .u64 0] 37)).alloc (Obj.cells #[Value.map (some w.heap.size),Value.map (some (w.heap.size+1)),Value.slice (some ⟨w.heap.size+1+1,0,none⟩) 1 1,.int .i64 r] 320)) (w.heap.size+1+1+1) #[Value.map (some w.heap.size),Value.map (some (w.heap.size+1)),Value.slice (some ⟨w.heap.size+1+1,0,none⟩) 1 1,.int .i64 r] 320:=by
  have:=Blk.new (((w.alloc (Obj.map #[] 0)).alloc (Obj.map #[] 0)).alloc (Obj.cells #[.int .u64 0] 37)) #[Value.map (some w.heap.size),Value.map (some (w.heap.size+1)),Value.slice (some ⟨w.heap.size+1+1,0,none⟩) 1 1,.int .i64 r] 320;simpa using this
 generalize ((((w.alloc (Obj.map #[] 0)).alloc (Obj.map #[] 0)).alloc (Obj.cells #[.int .u64 0] 37)).alloc (Obj.cells #[Value.map (some w.heap.size),Value.map (some (w.heap.size+1)),Value.slice (some ⟨w.heap.size+1+1,0,none⟩) 1 1,.int .i64 r] 320))=w4 at *;refine bodyPost_ret (v:=.tuple #[.pointer (some ⟨w.heap.size+1+1+1,0,none⟩),.int .i64 0]) ?_ rfl ⟨⟨w.heap.size+1+1+1,w.heap.size,w.heap.size+1,w.heap.size+1+1,r⟩,rfl,hB,⟨z3,?_,⟨_,_,k1,fun a=>rfl⟩,z2,by simp⟩,rfl,by simp;omega,?_⟩
 ·simp[results,Tryz.results235,go_sem]
 ·have e:entF ps0.ent=fun _=>none:=by
   funext x
   cases x<;>rfl
  rw[e];exact k0
 ·rintro k (e|e|e)<;>(simp only at e;omega)
theorem info340:(Tryz.prog.info? 340).map (fun i=>(i.zero,i.size,i.bytes))=some (some (.agg #[.int .i64 0,.int .i64 0,.bool false,.int .i64 0,.int .i64 0]),5,40):=by kernel_rfl
theorem under342:Tryz.prog.underlying 342=some (.slice 340):=by kernel_rfl
theorem made_links (n:Nat):madeCells (Value.agg #[.int .i64 0,.int .i64 0,.bool false,.int .i64 0,.int .i64 0]).cells (n*5)=⟨linkCells (fun _=>lk0) n⟩:=by
 have hc:(Value.agg #[.int .i64 0,.int .i64 0,.bool false,.int .i64 0,.int .i64 0]).cells=#[.int .i64 0,.int .i64 0,.bool false,.int .i64 0,.int .i64 0]:=by kernel_rfl
 rw[hc];unfold madeCells;apply Array.ext';apply List.ext_getElem?;intro x
 by_cases hx:x<n*5
 ·have e:=linkCells_at (fun _=>lk0) n (x/5) (x%5) (by omega) (Nat.mod_lt _ (by omega))
  rw[show 5*(x/5)+x%5=x by omega] at e;rw[e];have hm:x%5<5:=Nat.mod_lt _ (by omega);simp[hx]
  match h:x%5,hm with
  | 0,_=>rfl
  | 1,_=>rfl
  | 2,_=>rfl
  | 3,_=>rfl
  | 4,_=>rfl
 ·rw[List.getElem?_eq_none_iff.2 (by simp;omega),List.getElem?_eq_none_iff.2 (by rw[linkCells_length];omega)]
theorem make342 {n:Nat} (hn:n≤4096) (w:World):(Instr.makeSlice 342 (.int .i64 n) (.int .i64 n)).run Tryz.prog w=.ok (.slice (some ⟨w.heap.size,0,none⟩) n n) (w.alloc (.cells ⟨linkCells (fun _=>lk0) n⟩ 340)):=by
 obtain⟨i,hi,hz0,hz1,hz2⟩:=info_parts info340;have:=run_make (P:=Tryz.prog) w 342 340 i _ under342 hi hz0 .i64 .i64 n n (by omega) (by omega) (by rw[hz2];omega) (by omega);rw[this,hz1];simp only[Int.toNat_natCast];rw[made_links]
def cs0:CS:=⟨fun _=>none,fun _=>lk0⟩
theorem chain_new {r:Nat} (h1:1≤r) (h2:r≤4096) (w:World):Calls Tryz.prog 236 #[.int .i64 r] w fun e w'=>∃B:CB,e=.returned (.tuple #[.pointer (some ⟨B.b,0,none⟩),.int .i64 0])∧Below w.heap.size w w'∧ChainAt B cs0 w'∧B.room=r∧w.heap.size≤B.b∧∀k,B.own k→w.heap.size≤k:=by
 have hmm:=@run_makeMap Tryz.prog;have hms:=fun w=>make342 h2 w;obtain⟨lc,hlc⟩:∃lc,lc=linkCells (fun _=>lk0) r:=⟨_,rfl⟩;rw[←hlc] at hms;have HLC:=Lib.hid hlc;clear hlc;go_enter Tryz.func236,Tryz.ntmps236;go_wp2
 have hB:Below w.heap.size w (((w.alloc (Obj.map #[] 0)).alloc (Obj.cells ⟨lc⟩ 340)).alloc (Obj.cells #[Value.map (some w.heap.size),Value.slice (some ⟨w.heap.size+1,0,none⟩) r r] 344)):=(((Below.refl _ w).alloc (Nat.le_refl _) _).alloc (by simp) _).alloc (by simp<;>omega) _
 have k0:MapIs KP (((w.alloc (Obj.map #[] 0)).alloc (Obj.cells ⟨lc⟩ 340)).alloc (Obj.cells #[Value.map (some w.heap.size),Value.slice (some ⟨w.heap.size+1,0,none⟩) r r] 344)) w.heap.size (fun _=>none) 0:=by
  refine(mapIs_new w).at ?_;exact(((Below.refl (w.heap.size+1) (w.alloc (Obj.map #[] 0))).alloc (by simp) _).alloc (by simp) _).block _ (by omega)
 have z1:Blk (((w.alloc (Obj.map #[] 0)).alloc (Obj.cells ⟨lc⟩ 340)).alloc (Obj.cells #[Value.map (some w.heap.size),Value.slice (some ⟨w.heap.size+1,0,none⟩) r r] 344)) (w.heap.size+1) ⟨lc⟩ 340:=by
  have:=(Blk.new (w.alloc (Obj.map #[] 0)) ⟨lc⟩ 340).alloc (Obj.cells #[Value.map (some w.heap.size),Value.slice (some ⟨w.heap.size+1,0,none⟩) r r] 344);simpa using this
 have z2:Blk (((w.alloc (Obj.map #[] 0)).alloc (Obj.cells ⟨lc⟩ 340)).alloc (Obj.cells #[Value.map (some w.heap.size),Value.slice (some ⟨w.heap.size+1,0,none⟩) r r] 344)) (w.heap.size+1+1) #[Value.map (some w.heap.size),Value.slice (some ⟨w.heap.size+1,0,none⟩) r r] 344:=by
  have:=Blk.new ((w.alloc (Obj.map #[] 0)).alloc (Obj.cells ⟨lc⟩ 340)) #[Value.map (some w.heap.size),Value.slice (some ⟨w.heap.size+1,0,none⟩) r r] 344;simpa using this
 generalize (((w.alloc (Obj.map #[] 0)).alloc (Obj.cells ⟨lc⟩ 340)).alloc (Obj.cells #[Value.map (some w.heap.size),Value.slice (some ⟨w.heap.size+1,0,none⟩) r r] 344))=w4 at *
 refine bodyPost_ret (v:=.tuple #[.pointer (some ⟨w.heap.size+1+1,0,none⟩),.int .i64 0]) ?_ rfl ⟨⟨w.heap.size+1+1,w.heap.size,w.heap.size+1,r⟩,rfl,hB,⟨z2,⟨0,k0⟩,by have:=HLC.out;rw[this] at z1;exact z1⟩,rfl,by simp<;>omega,?_⟩
 ·simp[results,Tryz.results236,go_sem]
 ·rintro k (e|e)<;>(simp only at e;omega)
def ws0:WS:=⟨ps0,cs0,fun _=>0,0,0⟩
set_option maxHeartbeats 4000000 in
theorem wheel_new {r:Nat} (h1:1≤r) (h2:r≤64) (w:World):Calls Tryz.prog 166 #[.int .i64 r] w fun e w'=>∃B:WB,e=.returned (.tuple #[.pointer (some ⟨B.b,0,none⟩),.int .i64 0])∧Below w.heap.size w w'∧WheelAt B ws0 w'∧B.p.room=r∧B.c.room=r∧∀k,B.all k→w.heap.size≤k:=by
 go_enter Tryz.func166,Tryz.ntmps166
 go_wp2_with (go_at_call 235;fail)
 refine(pool_new h1 h2 w).mono ?_;rintro e w1 ⟨P,rfl,hb1,hP,hr1,hl1,ho1⟩
 go_wp2_with (go_at_call 236;fail)
 refine(chain_new h1 (by omega) w1).mono ?_;rintro e w2 ⟨C,rfl,hb2,hC,hr2,hl2,ho2⟩;go_wp2;have hp:=hP.lt;have hc:=hC.lt;have hs1:=hb1.size;have hs2:=hb2.size;have hP2:=hP.below hb2 hp;have hB3:Below w.heap.size w (w2.alloc (Obj.cells #[.pointer (some ⟨P.b,0,none⟩),.pointer (some ⟨C.b,0,none⟩),.int .u64 0,.int .u64 0,.int .u64 0,.int .u64 0,.int .u64 0,.int .u64 0,.int .u64 0,.int .u64 0,.int .u64 0,.int .u64 0] 215)):=(hb1.trans (hb2.mono hs1)).alloc (Nat.le_trans hs1 hs2) _;have hb3:Below w2.heap.size w2 (w2.alloc (Obj.cells #[.pointer (some ⟨P.b,0,none⟩),.pointer (some ⟨C.b,0,none⟩),.int .u64 0,.int .u64 0,.int .u64 0,.int .u64 0,.int .u64 0,.int .u64 0,.int .u64 0,.int .u64 0,.int .u64 0,.int .u64 0] 215)):=(Below.refl _ w2).alloc (Nat.le_refl _) _;have z:Blk (w2.alloc (Obj.cells #[.pointer (some ⟨P.b,0,none⟩),.pointer (some ⟨C.b,0,none⟩),.int .u64 0,.int .u64 0,.int .u64 0,.int .u64 0,.int .u64 0,.int .u64 0,.int .u64 0,.int .u64 0,.int .u64 0,.int .u64 0] 215)) w2.heap.size _ 215:=Blk.new w2 _ _;have o1:=ho2 C.hb (.inl rfl);refine bodyPost_ret (v:=.tuple #[.pointer (some ⟨w2.heap.size,0,none⟩),.int .i64 0]) ?_ rfl ⟨⟨w2.heap.size,P,C⟩,rfl,hB3,⟨z,hP2.below hb3 (by have:=hP2.lt;exact this),hC.below hb3 hc,?_,?_⟩,hr1,hr2,?_⟩
 ·simp[results,Tryz.results166,go_sem]
 ·show P.re≠C.hb
  omega
 ·show P.ro≠C.hb
  omega
 ·rintro k ((e|e|e)|e|e)
  ·simp only at e
   omega
  ·exact ho1 k e
  ·have:=ho2 k e
   omega
  ·simp only at e
   omega
  ·simp only at e
   omega
theorem first_free:∀n:Nat,n<32→firstN (18446744073709551615-(2^n-1)) 0=(n:Int):=by decide
theorem mark_next:∀n:Nat,n<32→markW (2^n-1) n true+1=2^(n+1):=by decide
structure FullW (B:WB) (r n:Nat) (S:WS) (ls:Int×Int→List Nat):Prop where
 ok:WOk B S ls
 own2:¬B.own 2
 rp:B.p.room=r
 rc:B.c.room=r
 hr:r≤31
 hn:n≤r
 base:S.base=0
 order:S.order=n
 free:∀a,n≤a→S.p.ent a=none
 live:∀a,a<n→∃t,S.p.ent a=some t
 gen:∀a,S.p.gen a=0
 cnt:S.p.n=n
 word:S.p.word=2^n-1
 out:∀a k,n≤a→a∉ls k
 key:∀k a,a∈ls k→(k.1<0∨8≤k.1)∨slotK k
 fst:0<n→∃k l,ls k=0::l
section
variable {B:WB} {S:WS} {ls:Int×Int→List Nat} {r n:Nat}
theorem FullW.add (h:FullW B r n S ls) (hlt:n<r) {d:Nat} (hd:d<18446744073709551616):∃S' ls',Ad B S d 0 (4096+n) S'∧FullW B r (n+1) S' ls':=by
 have hr:=h.hr;have hw2:2^n≤2^31:=Nat.pow_le_pow_right (by omega) (by omega);have hw1:1≤2^n:=Nat.one_le_two_pow
 have hA:=h.ok.add h.own2 (a:=n) (nw:=18446744073709551615-(2^n-1)) (by rw[h.word];omega) (first_free n (by omega)) (by omega) (by rw[h.rp];exact hlt) (by rw[h.rc];exact hlt) (h.free n (Nat.le_refl _)) (by rw[h.gen];omega)
  (d:=d) (p:=0) hd (by rw[h.base];omega) (by rw[h.order];omega) (fun k=>h.out n k (Nat.le_refl _))
 have hh:hN S.p n=4096+n:=by unfold hN;rw[h.gen]
 rw[hh] at hA;refine⟨_,_,hA.1,hA.2,h.own2,h.rp,h.rc,h.hr,by omega,h.base,?_,?_,?_,h.gen,?_,?_,?_,?_,?_⟩
 ·show S.order+1=n+1
  rw[h.order]
 ·intro a ha
  exact(fset_ne _ _ (by omega)).trans (h.free a (by omega))
 ·intro a ha
  by_cases e:a=n
  ·subst e
   exact⟨_,fset_same _ _ _⟩
  ·obtain⟨t,ht⟩:=h.live a (by omega)
   exact⟨t,(fset_ne _ _ e).trans ht⟩
 ·show S.p.n+1=n+1
  rw[h.cnt]
 ·show markW S.p.word n true=2^(n+1)-1
  rw[h.word];have:=mark_next n (by omega);omega
 ·intro a k ha hk
  by_cases e:k=placeOf S.base d
  ·rw[e,fset_same] at hk
   simp only[List.mem_append,List.mem_singleton] at hk;rcases hk with hk|hk
   ·exact h.out a _ (by omega) hk
   ·omega
  ·rw[fset_ne _ _ e] at hk
   exact h.out a k (by omega) hk
 ·intro k a ha
  by_cases e:k=placeOf S.base d
  ·rw[e]
   exact placeOf_key _ _
  ·rw[fset_ne _ _ e] at ha
   exact h.key k a ha
 ·intro _
  by_cases h0:0<n
  ·obtain⟨k,l,hk⟩:=h.fst h0
   by_cases e:k=placeOf S.base d
   ·refine⟨k,l++[n],?_⟩
    rw[←e,fset_same,hk];rfl
   ·exact⟨k,l,(fset_ne _ _ e).trans hk⟩
  ·have hn0:n=0:=by omega
   subst hn0;refine⟨placeOf S.base d,[],?_⟩;rw[fset_same]
   have:ls (placeOf S.base d)=[]:=by
    cases hc:ls (placeOf S.base d) with
    |nil=>rfl
    |cons a l=>exact absurd (by rw[hc];simp) (h.out a (placeOf S.base d) (Nat.zero_le _))
   rw[this];rfl
end
section
variable {I:BI} {B:WB} {Z:SB} {a:I.A} {S:WS} {w w':World}
theorem port_at (h:SvcAt I B Z a S w):Calls Tryz.prog 24 #[.pointer (some ⟨Z.b,0,none⟩)] w fun e w'=>e=.returned (.pointer (some ⟨I.pb,0,none⟩))∧w'=w:=by
 have c3:w.cell? ⟨Z.b,3,none⟩=some (.pointer (some ⟨I.pb,0,none⟩)):=h.blk.cell 3 rfl;go_enter Tryz.func24,Tryz.ntmps24;go_wp2;refine bodyPost_ret (v:=.pointer (some ⟨I.pb,0,none⟩)) ?_ rfl ⟨rfl,rfl⟩;simp[results,Tryz.results24,go_sem]
end
end Go.Proofs.YtkndlfdpmpdihaaGreatDoor
