/- A new board. The port over the told board. The port: the gap ahead of an access; an access. The port: an access, a store, a load. The port: a store, a load. The trigger: it is armed by three stores. Conditions: those that each statement shows. -/
import Derived.Test.YtkndlfdpmpdihaaGreatDoorY40
import Derived.Test.YtkndlfdpmpdihaaGreatDoorY38
import Derived.Test.YtkndlfdpmpdihaaGreatDoorY16
namespace Go.Proofs.YtkndlfdpmpdihaaGreatDoor
open Go.RowKit Go.Ev Go.Mv
set_option linter.unusedVariables false
set_option linter.unusedSimpArgs false
set_option maxRecDepth 1000000
theorem Sx.names {l:List Obj} {ks:List (Nat×Nat)} {ρ:Nat→Option Value} {ft:Nat→Prop} {w:World} (hl:l.length≤65536) (h:Sx l ks ρ ft w) (K:List Nat) (hK:∀k∈K,∃o,l[k]?=some o∧live o=true) :
 ∃b:Nat→Nat,Sx l (K.map fun k=>(k,b k)) ρ ft w∧(∀k∈K,ft (b k))∧∀p∈ks,p.1∈K→b p.1=p.2:=by
 obtain⟨τ,hst,hks⟩:=h;obtain⟨H,hR,hw⟩:=hst.wt
 have hr:∀k∈K,∃r i,τ.r k r i∧ft r:=by
  intro k hk;obtain⟨o,ho,hlv⟩:=hK k hk;have hkl:k<l.length:=(List.getElem?_eq_some_iff.1 ho).1
  have hH:H[k]?=some o:=by
   have h1:=hR.get k (by omega);have h2:=(fillT_rep hl).get k (by omega);rw[←h1,h2];simpa using ho
  obtain⟨r,i,o',a,b,c⟩:=hw.blk k o hH hlv;have hd:=hw.dom k r i a;exact⟨r,i,a,fr_none (hd.2.2 ⟨_,hH,hlv⟩) hd.2.1⟩
 have hb:∃b:Nat→Nat,∀k∈K,∃i,τ.r k (b k) i∧ft (b k):=by
  refine⟨fun k=>if h:k∈K then Classical.choose (hr k h) else 0,fun k hk=>?_⟩;simp only[hk,dif_pos];exact Classical.choose_spec (hr k hk)
 obtain⟨b,hb⟩:=hb;refine⟨b,⟨τ,hst,fun p hp=>?_⟩,fun k hk=>?_,fun p hp hpK=>?_⟩
 ·obtain⟨k,hk,rfl⟩:=List.mem_map.1 hp
  obtain⟨i,hi,_⟩:=hb k hk;exact⟨i,hi⟩
 ·obtain⟨i,_,h⟩:=hb k hk
  exact h
 ·obtain⟨i,hi⟩:=hks p hp
  obtain⟨j,hj,_⟩:=hb _ hpK;exact(hw.fn _ _ _ _ _ hj hi).1
theorem Sx.start {W:World} (h:Tabs W) (ρ:Nat→Option Value):Sx g8 [] ρ (fun _=>False) W:=by
 have hB:fr (fun _=>False) W=fun r=>W.heap[r]?:=funext fun r=>fr_of id;have hw:=Tabs.start (G:=pl ρ) rfl h;exact⟨_,⟨⟨_,fillT_rep (by decide),by rw[hB];exact hw⟩,fun r _ h=>h⟩,fun p hp=>by cases hp⟩
def piN:List Nat:=[0,1,2,3,4,5,6,7,9,18,20,21,22,23,25,26,27,28,29]
def exN:List Value:=[(Lit.u64 0),(Lit.u64 18446744073709551615),(Lit.u64 0),(Lit.u32 0),(Lit.u32 0)]
def bt0:BT:=⟨0,18446744073709551615,0,0,0⟩
theorem bnew_run (ρ:Nat→Option Value) (h:DL ρ []):askW (evD (mkG 8 ρ [] h)) 7 [.agg #[.int .i64 1,.int .i64 1,.int .u32 10]] g8 (.tuple ⟨[(.pointer (some ⟨27,0,none⟩)),(.int .i64 0)]⟩) 8 piN exN Lit.lB=true:=by kernel_rfl
theorem bnew_ex (ρ:Nat→Option Value):EX ρ (ρB bt0) 0 exN:=(EX.cons (Da.nat .u64 0) rfl (EX.cons (Da.nat .u64 18446744073709551615) rfl (EX.cons (Da.nat .u64 0) rfl (EX.cons (Da.nat .u32 0) rfl (EX.cons (Da.nat .u32 0) rfl (EX.nil _ _ _))))))
theorem bnew {w:World} (hT:Tabs w):Calls Tryz.prog 7 #[.agg #[.int .i64 1,.int .i64 1,.int .u32 10]] w fun e w'=>
 ∃b:Nat→Nat,e=.returned (.tuple #[.pointer (some ⟨b 16,0,none⟩),.int .i64 0])∧Below w.heap.size w w'∧BoardAt b bt0 w'∧∀r,FT (ksB b) r→w.heap.size≤r:=by
 refine((Sx.start hT (fun _=>none)).go (fun _ _ h=>h) (DL.nil _) (bnew_ex _) (fun τ _ _=>AR.one (.agg _ _ rfl fun i v v' h1 h2=>?_)) (by decide) (bnew_run _ (DL.nil _))).mono ?_
 ·match i,h1,h2 with
  | 0,h1,h2=>cases h1;cases h2;exact .int _ _
  | 1,h1,h2=>cases h1;cases h2;exact .int _ _
  | 2,h1,h2=>cases h1;cases h2;exact .int _ _
  |n+3,h1,h2=>cases h1
 rintro e w' ⟨τ1,v',rfl,hv,hs,hkp,_,hall⟩;obtain⟨x,y,rfl,hx,hy⟩:=vr_t2 hv;rw[vr_int hy];obtain⟨r,i,rfl,hr⟩:=vr_ptr hx
 have h1:=hall [(16,r)] (fun p hp=>by
  rw[List.mem_singleton] at hp;subst hp
  exact⟨27,rfl,i,hr⟩)
 obtain⟨b,hb,hft,hbr⟩:=h1.names (by decide) [8,9,10,11,12,13,14,15,16,17,18] (by
  intro k hk;simp only[List.mem_cons,List.not_mem_nil,or_false] at hk
  rcases hk with rfl|rfl|rfl|rfl|rfl|rfl|rfl|rfl|rfl|rfl|rfl<;>exact⟨_,rfl,rfl⟩)
 have e16:b 16=r:=hbr (16,r) (by simp) (by simp);have hks:([8,9,10,11,12,13,14,15,16,17,18].map fun k=>(k,b k))=ksB b:=rfl;rw[hks] at hb
 have hft':∀r,FT (ksB b) r→grow (fun _=>False) w w' r:=by
  rintro r ⟨k,hk⟩
  have hk':k∈[8,9,10,11,12,13,14,15,16,17,18]∧r=b k:=by
   rw[←hks] at hk;obtain⟨k',h1,h2⟩:=List.mem_map.1 hk;cases h2;exact⟨h1,rfl⟩
  rw[hk'.2];exact hft k hk'.1
 have h2:=hb.shrink (ft2:=FT (ksB b)) (by decide) (lB_named b) (fun p hp=>⟨p.1,hp⟩) hft';refine⟨b,by rw[e16],⟨hkp.os,hkp.tape,hkp.output,hkp.size,fun j hj=>kp_keep hkp hj (fun e=>e)⟩,⟨⟨by decide,by decide,by decide,rfl⟩,h2⟩,fun r hr=>?_⟩;rcases hft' r hr with h|h
 ·exact h.elim
 ·exact h.1
end Go.Proofs.YtkndlfdpmpdihaaGreatDoor
namespace Go.Proofs.YtkndlfdpmpdihaaGreatDoor
open Go.RowKit Go.Ev Go.Mv
set_option linter.unusedVariables false
set_option linter.unusedSimpArgs false
set_option maxRecDepth 100000
section
variable {b:Nat→Nat} {s:BT} {w:World}
theorem BoardAt.resets (h:BoardAt b s w):w.cell? ⟨b 16,10,none⟩=some (.slice none 0 0):=by
 obtain⟨τ,cs',hs,hc,hA,_,_⟩:=h.2.cells (k:=16) (r:=b 16) (by decide) (by simp[ksB]) rfl
 have h10:10<cs'.size:=by rw[←hA.1];decide
 have hv:=hA.2 10 _ cs'[10] rfl (Array.getElem?_eq_getElem h10);rw[World.cell?,hc];show cs'[10]?=_;rw[Array.getElem?_eq_getElem h10,vr_sl0 hv]
theorem clone52 (w:World):Calls Tryz.prog 52 #[.slice none 0 0] w fun e w'=>e=.returned (.slice none 0 0)∧w'=w:=by
 have e0:∀w,(Sem.run Tryz.prog (binOp BinOp.eql 45 (.slice none 0 0) (.slice none 0 0)) w)=.ok (.bool true) w:=fun w=>by kernel_rfl
 go_enter Tryz.func52,Tryz.ntmps52;go_wp2;refine bodyPost_ret (v:=.slice none 0 0) ?_ rfl ⟨rfl,rfl⟩;simp[results,Tryz.results52,go_sem]
theorem resets16 (h:BoardAt b s w):Calls Tryz.prog 16 #[.pointer (some ⟨b 16,0,none⟩)] w fun e w'=>e=.returned (.slice none 0 0)∧w'=w:=by
 have c10:=h.resets;go_enter Tryz.func16,Tryz.ntmps16
 go_wp2_with (go_at_call 52;refine(clone52 w).mono ?_;rintro e w1 ⟨rfl,rfl⟩)
 refine bodyPost_ret (v:=.slice none 0 0) ?_ rfl ⟨rfl,rfl⟩;simp[results,Tryz.results16,go_sem]
end
structure QB where
 b:Nat→Nat
 pb:Nat
 ga:Option Addr
 gc:Nat
 gb:Nat
 gl:List Nat
structure QS where
 s:BT
 made:Nat
 sp:Int
def portV (Q:QB) (S:QS):Array Value:=#[.int .i64 S.made,.int .u64 S.sp,.int .i64 0,.pointer (some ⟨Q.b 16,0,none⟩),.slice Q.ga Q.gl.length Q.gc]
def QB.gap (Q:QB) (n:Nat):Nat:=(Q.gl[n%Q.gl.length]?).getD 0
def QB.ft (Q:QB):Nat→Prop:=fun r=>FT (ksB Q.b) r∨r=Q.pb∨(Q.gl≠[]∧r=Q.gb)
structure PortAt (Q:QB) (S:QS) (w:World):Prop where
 board:BoardAt Q.b S.s w
 blk:Blk w Q.pb (portV Q S) 104
 ga:Q.gl≠[]→Q.ga=some ⟨Q.gb,0,none⟩∧Q.gb<w.heap.size
 gap:∀(j v:Nat),Q.gl[j]?=some v→v<4294967296∧w.cell? ⟨Q.gb,j,none⟩=some (.int .u32 v)
 out:¬FT (ksB Q.b) Q.pb
 outg:Q.gl≠[]→¬FT (ksB Q.b) Q.gb∧Q.gb≠Q.pb∧8≤Q.gb
 hi:8≤Q.pb
section
variable {Q:QB} {S:QS} {w w':World}
theorem QB.gap_le (h:PortAt Q S w) (n:Nat):Q.gap n<4294967296:=by
 unfold QB.gap
 cases e:Q.gl[n%Q.gl.length]? with
 |none=>show 0<_;omega
 |some v=>exact(h.gap _ v e).1
theorem PortAt.lt (h:PortAt Q S w):∀r,Q.ft r→r<w.heap.size:=by
 rintro r (hr|rfl|⟨hn,rfl⟩)
 ·exact h.board.lt r hr
 ·exact h.blk.lt
 ·exact(h.ga hn).2
theorem PortAt.tch (h:PortAt Q S w) {X:Nat→Prop} (ht:Tch X w w') (hx:∀k,X k→¬Q.ft k∧8≤k):PortAt Q S w':=by
 have hl:=h.lt;refine⟨h.board.tch ht (fun k e=>⟨fun e'=>(hx k e).1 (.inl e'),(hx k e).2⟩),(ht.block _ h.blk.lt (fun e=>(hx _ e).1 (.inr (.inl rfl)))).trans h.blk,fun hn=>⟨(h.ga hn).1,Nat.lt_of_lt_of_le (h.ga hn).2 ht.size⟩,fun j v hj=>⟨(h.gap j v hj).1,?_⟩,h.out,h.outg,h.hi⟩
 have hn:Q.gl≠[]:=by rintro e;rw[e] at hj;simp at hj
 have:=(h.gap j v hj).2;unfold World.cell? at this ⊢;rw[ht.block Q.gb (h.ga hn).2 (fun e=>(hx _ e).1 (.inr (.inr ⟨hn,rfl⟩)))];exact this
theorem PortAt.below (h:PortAt Q S w) (hb:Below w.heap.size w w'):PortAt Q S w':=h.tch (X:=fun _=>False) (Tch.of_below hb) (fun k e=>e.elim)
theorem PortAt.boardT (h:PortAt Q S w) {s':BT} (ht:Tch (FT (ksB Q.b)) w w') (hb:BoardAt Q.b s' w'):PortAt Q { S with s:=s' } w':=by
 refine⟨hb,(ht.block _ h.blk.lt h.out).trans h.blk,fun hn=>⟨(h.ga hn).1,Nat.lt_of_lt_of_le (h.ga hn).2 ht.size⟩,fun j v hj=>⟨(h.gap j v hj).1,?_⟩,h.out,h.outg,h.hi⟩
 have hn:Q.gl≠[]:=by rintro e;rw[e] at hj;simp at hj
 have:=(h.gap j v hj).2;unfold World.cell? at this ⊢;rw[ht.block Q.gb (h.ga hn).2 (h.outg hn).1];exact this
theorem PortAt.selfT (h:PortAt Q S w) {m:Nat} {sp:Int} (ht:Tch (fun r=>r=Q.pb) w w') (hb:Blk w' Q.pb (portV Q ⟨S.s,m,sp⟩) 104):PortAt Q ⟨S.s,m,sp⟩ w':=by
 refine⟨h.board.tch ht (fun k e=>e ▸ ⟨h.out,h.hi⟩),hb,fun hn=>⟨(h.ga hn).1,Nat.lt_of_lt_of_le (h.ga hn).2 ht.size⟩,fun j v hj=>⟨(h.gap j v hj).1,?_⟩,h.out,h.outg,h.hi⟩
 have hn:Q.gl≠[]:=by rintro e;rw[e] at hj;simp at hj
 have:=(h.gap j v hj).2;unfold World.cell? at this ⊢;rw[ht.block Q.gb (h.ga hn).2 (h.outg hn).2.1];exact this
theorem resets59 (h:PortAt Q S w):Calls Tryz.prog 59 #[.pointer (some ⟨Q.pb,0,none⟩)] w fun e w'=>e=.returned (.int .i64 0)∧w'=w:=by
 have c3:w.cell? ⟨Q.pb,3,none⟩=some (.pointer (some ⟨Q.b 16,0,none⟩)):=h.blk.cell 3 rfl;go_enter Tryz.func59,Tryz.ntmps59
 go_wp2_with (go_at_call 16;refine(resets16 h.board).mono ?_;rintro e w1 ⟨rfl,rfl⟩)
 refine bodyPost_ret (v:=.int .i64 0) ?_ rfl ⟨rfl,rfl⟩;simp[results,Tryz.results59,go_sem]
theorem down22 (h:PortAt Q S w):Calls Tryz.prog 22 #[.pointer (some ⟨Q.pb,0,none⟩)] w fun e w'=>e=.returned (.bool false)∧Below w.heap.size w w':=by
 have c2:∀x:WX w,x.w.cell? ⟨Q.pb,2,none⟩=some (.int .i64 0):=h.blk.wx 2 rfl;go_enter Tryz.func22,Tryz.ntmps22;go_wp2;refine wp_region_grown (by kernel_rfl) (by kernel_rfl) ?_
 repeat (go_big_quiet_step (first|(go_at_call 59;exact WX.of_same ((resets59 (h.below (by first|assumption|exact WX.h _))).mono fun e w' h=>⟨h.1,h.2.symm⟩))))
 refine wpQuiet_nil ?_;intro w2 hb2;go_wp2;refine bodyPost_ret (v:=.bool false) ?_ rfl ⟨rfl,hb2⟩;simp[results,Tryz.results22,go_sem]
theorem pboard25 (h:PortAt Q S w):Calls Tryz.prog 25 #[.pointer (some ⟨Q.pb,0,none⟩)] w fun e w'=>e=.returned (.pointer (some ⟨Q.b 16,0,none⟩))∧w'=w:=by
 have c3:w.cell? ⟨Q.pb,3,none⟩=some (.pointer (some ⟨Q.b 16,0,none⟩)):=h.blk.cell 3 rfl;go_enter Tryz.func25,Tryz.ntmps25;go_wp2;refine bodyPost_ret (v:=.pointer (some ⟨Q.b 16,0,none⟩)) ?_ rfl ⟨rfl,rfl⟩;simp[results,Tryz.results25,go_sem]
end
section
variable {Q:QB} {S:QS} {w w':World}
theorem addG (a b:Int):∃v:Int,∀w,Calls Tryz.prog 91 #[.int .u64 a,.int .u64 b] w fun e w'=>e=.returned (.int .u64 v)∧w'=w:=⟨_,fun w=>add_any a b w⟩
def Gapped (Q:QB) (S:QS) (w w':World):Prop:=Tch Q.ft w w'∧∃s' sp',s'.time=S.s.time+Q.gap S.made∧s'.cmp=S.s.cmp∧PortAt Q ⟨s',S.made+1,sp'⟩ w'
set_option maxHeartbeats 1000000 in
theorem gap144 (h:PortAt Q S w) (hm:S.made<4611686018427387904) {g:Nat} (hg:Q.gap S.made=g) (ht:S.s.time+g<9223372036854775808):Calls Tryz.prog 144 #[.pointer (some ⟨Q.pb,0,none⟩)] w fun e w'=>e=.returned (.tuple #[])∧Gapped Q S w w':=by
 unfold Gapped;have hgl:=hg ▸ QB.gap_le h S.made;have c4:∀x:WX w,x.w.cell? ⟨Q.pb,4,none⟩=some (.slice Q.ga Q.gl.length Q.gc):=h.blk.wx 4 rfl;have d4:w.cell? ⟨Q.pb,4,none⟩=some (.slice Q.ga Q.gl.length Q.gc):=h.blk.cell 4 rfl;have c0:∀x:WX w,x.w.cell? ⟨Q.pb,0,none⟩=some (.int .i64 S.made):=h.blk.wx 0 rfl;have hw1:IntKind.i64.wrap ((S.made:Int)+1)=(S.made:Int)+1:=IntWalk.i64_in _ ⟨by omega,by omega⟩;go_enter Tryz.func144,Tryz.ntmps144
 have hk:((Q.gl.length:Nat):Int)=0∨0<Q.gl.length:=by omega
 obtain⟨n,hnl⟩:∃n,n=Q.gl.length:=⟨_,rfl⟩;rw[←hnl] at c4 d4
 by_cases hn:n=0
 ·subst hn
  have hg0:g=0:=by
   rw[←hg];unfold QB.gap;rw[List.getElem?_eq_none_iff.2 (by omega)];rfl
  subst hg0;rw[hg];clear hnl hg hk c4 c0;have d0:w.cell? ⟨Q.pb,0,none⟩=some (.int .i64 S.made):=h.blk.cell 0 rfl;have f0:=h.blk.free 0;have z1:=h.blk.set 0 (.int .i64 ((S.made:Int)+1));have q1:(w.setCell ⟨Q.pb,0,none⟩ (.int .i64 ((S.made:Int)+1))).cell? ⟨Q.pb,1,none⟩=some (.int .u64 S.sp):=z1.cell 1 rfl;have f1:=z1.free 1;obtain⟨sp',hadd⟩:=addG S.sp 0;have z2:=z1.set 1 (.int .u64 sp');have q3:((w.setCell ⟨Q.pb,0,none⟩ (.int .i64 ((S.made:Int)+1))).setCell ⟨Q.pb,1,none⟩ (.int .u64 sp')).cell? ⟨Q.pb,3,none⟩=some (.pointer (some ⟨Q.b 16,0,none⟩)):=z2.cell 3 rfl;have hp2:=h.selfT (m:=S.made+1) (sp:=sp') (((Tch.refl (fun r=>r=Q.pb) w).setCell (a:=⟨Q.pb,0,none⟩) (.int .i64 ((S.made:Int)+1)) (.inl rfl)).setCell (a:=⟨Q.pb,1,none⟩) (.int .u64 sp') (.inl rfl)) z2;have ht2:Tch Q.ft w ((w.setCell ⟨Q.pb,0,none⟩ (.int .i64 ((S.made:Int)+1))).setCell ⟨Q.pb,1,none⟩ (.int .u64 sp')):=(Tch.refl Q.ft w).trans (((Tch.refl Q.ft w).setCell (a:=⟨Q.pb,0,none⟩) (.int .i64 ((S.made:Int)+1)) (.inl (.inr (.inl rfl)))).setCell (a:=⟨Q.pb,1,none⟩) (.int .u64 sp') (.inl (.inr (.inl rfl))))
  go_wp2_with (first|(go_at_call 91;refine(hadd _).mono ?_;rintro e w1 ⟨rfl,rfl⟩)|(go_at_call 15;fail))
  refine(btick hp2.board (n:=0) ht).mono ?_;rintro e w3 ⟨rfl,ht3,s',e1,e2,hb3⟩;go_wp2
  go_end0
  exact⟨rfl,ht2.trans (ht3.mono fun r hr=>.inl hr),s',sp',e1,e2,hp2.boardT ht3 hb3⟩
 ·have hj:S.made%n<n:=Nat.mod_lt _ (by omega)
  have htm:(S.made:Int).tmod (n:Int)=((S.made%n:Nat):Int):=by rw[Int.tmod_eq_emod_of_nonneg (by omega)];rfl
  obtain⟨j,hje⟩:∃j,j=S.made%n:=⟨_,rfl⟩;rw[←hje] at hj htm
  have hgj:Q.gl[j]?=some g:=by
   have h1:j<Q.gl.length:=by omega
   rw[List.getElem?_eq_getElem h1,←hg];unfold QB.gap;rw[←hnl,←hje,List.getElem?_eq_getElem h1];rfl
  have hgn:Q.gl≠[]:=by rintro e;rw[e] at hgj;simp at hgj
  have hga:=h.ga hgn;rw[hga.1] at c4 d4;have cg:∀x:WX w,x.w.cell? ⟨Q.gb,j,none⟩=some (.int .u32 g):=fun x=>WX.cell x (h.gap j g hgj).2
  have hn0:((n:Nat):Int)≠0:=by omega
  have htm2:(S.made:Int)%(n:Int)=(j:Int):=by rw[hje];rfl
  have hn1:0<n:=by omega
  rw[hg];clear hje hnl hg hk hn;go_wp2;refine wp_region_grown (by kernel_rfl) (by kernel_rfl) ?_
  repeat (go_big_quiet_step (fail))
  refine wpQuiet_nil ?_;intro w2 hb2;have h2:=h.below hb2;clear c4 c0 cg d4;have d0:w2.cell? ⟨Q.pb,0,none⟩=some (.int .i64 S.made):=h2.blk.cell 0 rfl;have f0:=h2.blk.free 0;have z1:=h2.blk.set 0 (.int .i64 ((S.made:Int)+1));have q1:(w2.setCell ⟨Q.pb,0,none⟩ (.int .i64 ((S.made:Int)+1))).cell? ⟨Q.pb,1,none⟩=some (.int .u64 S.sp):=z1.cell 1 rfl;have f1:=z1.free 1;obtain⟨sp',hadd⟩:=addG S.sp g;have z2:=z1.set 1 (.int .u64 sp');have q3:((w2.setCell ⟨Q.pb,0,none⟩ (.int .i64 ((S.made:Int)+1))).setCell ⟨Q.pb,1,none⟩ (.int .u64 sp')).cell? ⟨Q.pb,3,none⟩=some (.pointer (some ⟨Q.b 16,0,none⟩)):=z2.cell 3 rfl;have hp2:=h2.selfT (m:=S.made+1) (sp:=sp') (((Tch.refl (fun r=>r=Q.pb) w2).setCell (a:=⟨Q.pb,0,none⟩) (.int .i64 ((S.made:Int)+1)) (.inl rfl)).setCell (a:=⟨Q.pb,1,none⟩) (.int .u64 sp') (.inl rfl)) z2;have ht2:Tch Q.ft w ((w2.setCell ⟨Q.pb,0,none⟩ (.int .i64 ((S.made:Int)+1))).setCell ⟨Q.pb,1,none⟩ (.int .u64 sp')):=(Tch.of_below hb2).trans (((Tch.refl Q.ft w2).setCell (a:=⟨Q.pb,0,none⟩) (.int .i64 ((S.made:Int)+1)) (.inl (.inr (.inl rfl)))).setCell (a:=⟨Q.pb,1,none⟩) (.int .u64 sp') (.inl (.inr (.inl rfl))))
  go_wp2_with (first|(go_at_call 91;refine(hadd _).mono ?_;rintro e w1 ⟨rfl,rfl⟩)|(go_at_call 15;fail))
  refine(btick hp2.board (n:=g) ht).mono ?_;rintro e w3 ⟨rfl,ht3,s',e1,e2,hb3⟩;go_wp2
  go_end0
  exact⟨rfl,ht2.trans (ht3.mono fun r hr=>.inl hr),s',sp',e1,e2,hp2.boardT ht3 hb3⟩
end
section
variable {Q:QB} {S:QS} {w w':World}
theorem access85 (h:PortAt Q S w) (hm:S.made<4611686018427387904) (ht:S.s.time+Q.gap S.made<9223372036854775808) {f:Nat} {caps:Array Value} {X:Nat→Prop} {P:BT→World→Prop}
 (he:∀w,(callFunc f caps).run Tryz.prog w=.ok (.enter f caps) w)
 (hc:∀w1 s1 sp1,s1.time=S.s.time+Q.gap S.made→s1.cmp=S.s.cmp→Tch Q.ft w w1→PortAt Q ⟨s1,S.made+1,sp1⟩ w1 →
  Calls Tryz.prog f caps w1 fun e w2=>e=.returned (.int .i64 0)∧Tch X w1 w2∧∃s2,PortAt Q ⟨s2,S.made+1,sp1⟩ w2∧P s2 w2)
 (hP:∀s w1 w2,P s w1→Below w1.heap.size w1 w2→P s w2) :
 Calls Tryz.prog 85 #[.pointer (some ⟨Q.pb,0,none⟩),.func (.func f) #[] caps] w fun e w'=>e=.returned (.int .i64 0)∧Tch (fun r=>Q.ft r∨X r) w w'∧∃s2 sp,PortAt Q ⟨s2,S.made+1,sp⟩ w'∧P s2 w':=by
 go_enter Tryz.func85,Tryz.ntmps85
 go_wp2_with (go_at_call 22;fail)
 refine(down22 h).mono ?_;rintro e w1 ⟨rfl,hb1⟩;have h1:=h.below hb1;have ht1:Tch Q.ft w w1:=Tch.of_below hb1
 go_wp2_with (go_at_call 144;fail)
 refine(gap144 h1 hm rfl ht).mono ?_;rintro e w2 ⟨rfl,ht2,s1,sp1,e1,e2,h2⟩
 go_wp2_with (go_at_call 22;fail)
 refine(down22 h2).mono ?_;rintro e w3 ⟨rfl,hb3⟩;have ht3:Tch Q.ft w w3:=(ht1.trans ht2).trans (Tch.of_below hb3);have hc3:=hc w3 s1 sp1 e1 e2 ht3 (h2.below hb3);clear hc e1 e2 ht2 ht1 h1 h2 hb3
 go_wp2_with (fail)
 refine hc3.mono ?_;rintro e w4 ⟨rfl,ht4,s2,h4,hp4⟩
 go_wp2_with (go_at_call 22;fail)
 refine(down22 h4).mono ?_;rintro e w5 ⟨rfl,hb5⟩;go_wp2;refine bodyPost_ret (v:=.int .i64 0) ?_ rfl ⟨rfl,((ht3.mono fun r hr=>.inl hr).trans (ht4.mono fun r hr=>.inr hr)).trans (Tch.of_below hb5),s2,sp1,h4.below hb5,hP _ _ _ hp4 hb5⟩;simp[results,Tryz.results85,go_sem]
def StD (Q:QB) (c c' addr n:Nat):Prop:=∀W s,BoardAt Q.b s W→s.cmp=c→Calls Tryz.prog 14 #[.pointer (some ⟨Q.b 16,0,none⟩),.int .u32 addr,.int .u32 n] W fun e w'=>e=.returned (.int .i64 0)∧Tch (FT (ksB Q.b)) W w'∧∃s',s'.time=s.time∧s'.cmp=c'∧BoardAt Q.b s' w'
theorem store143 (h:PortAt Q S w) {x0 x1 x2 c c' addr n:Nat} (hd:StD Q c c' addr n) (hcmp:S.s.cmp=c) (h0:Blk w x0 #[.pointer (some ⟨Q.pb,0,none⟩)] 30) (h1:Blk w x1 #[.int .u32 addr] 22) (h2:Blk w x2 #[.int .u32 n] 22) :
 Calls Tryz.prog 143 #[.pointer (some ⟨x0,0,none⟩),.pointer (some ⟨x1,0,none⟩),.pointer (some ⟨x2,0,none⟩)] w fun e w'=>e=.returned (.int .i64 0)∧Tch (FT (ksB Q.b)) w w'∧∃s2,PortAt Q { S with s:=s2 } w'∧(s2.time=S.s.time∧s2.cmp=c'):=by
 let T2:World→Prop:=fun W=>Tch (FT (ksB Q.b)) w W∧∃s',s'.time=S.s.time∧s'.cmp=c'∧BoardAt Q.b s' W
 have hne:=callE_ne T2 w;haveI:=hne.1;haveI:=hne.2;have d0:∀x:One (CallE T2 w false),x.w.cell? ⟨x0,0,none⟩=some (.pointer (some ⟨Q.pb,0,none⟩)):=callE_one h0 0 rfl;have d1:∀x:One (CallE T2 w false),x.w.cell? ⟨Q.pb,3,none⟩=some (.pointer (some ⟨Q.b 16,0,none⟩)):=callE_one h.blk 3 rfl;have d2:∀x:One (CallE T2 w false),x.w.cell? ⟨x1,0,none⟩=some (.int .u32 addr):=callE_one h1 0 rfl;have d3:∀x:One (CallE T2 w false),x.w.cell? ⟨x2,0,none⟩=some (.int .u32 n):=callE_one h2 0 rfl;have hbd:=h.board;go_enter Tryz.func143,Tryz.ntmps143;go_wp2;refine wp_region_two (CallE T2 w) 6 (by decide) (by kernel_rfl) (by kernel_rfl) (Below.refl _ _).drew ?_
 (repeat (first|(refine lexS_skip (by rfl) (by decide) ?_;simp only[Act.put,List.setIfInBounds_toArray,List.set_cons_succ,List.set_cons_zero])|(refine lexS_ewant (by rfl) (by decide) (by kernel_rfl) (by rfl) ?_;intro K hK;go_big_quiet_op;refine hK _ ?_;clear hK K)))
 refine lexS_callT (f:=14) (args:=#[.pointer (some ⟨Q.b 16,0,none⟩),.int .u32 addr,.int .u32 n]) (v:=.int .i64 0) (by rfl) (by rfl) (fun w=>by kernel_rfl) (fun W hW=>((hd W S.s (hbd.tch (X:=fun _=>False) (Tch.of_below hW) (fun k e=>e.elim)) hcmp).mono fun e w' hx=>⟨hx.1,(Tch.of_below hW).trans hx.2.1,hx.2.2⟩)) ?_;simp only[Act.put,List.setIfInBounds_toArray,List.set_cons_succ,List.set_cons_zero]
 (repeat (first|(refine lexS_skip (by rfl) (by decide) ?_;simp only[Act.put,List.setIfInBounds_toArray,List.set_cons_succ,List.set_cons_zero])|(refine lexS_want (by rfl) (by decide) (by rfl) ?_;intro K hK;go_big_quiet_op;refine hK _ ?_;clear hK K)))
 refine fun w4 hw4=>?_;obtain⟨ht4,s',e1,e2,hb4⟩:=hw4;clear d0 d1 d2 d3;go_wp2;refine bodyPost_ret (v:=.int .i64 0) ?_ rfl ⟨rfl,ht4,s',h.boardT ht4 hb4,e1,e2⟩;simp[results,Tryz.results143,go_sem]
end
section
variable {Q:QB} {S:QS} {w w':World}
theorem PortAt.away (h:PortAt Q S w) {x:Nat} (hx:w.heap.size≤x):¬Q.ft x:=fun e=>by have:=h.lt x e;omega
theorem ksB_ft (Q:QB):∀r,FT (ksB Q.b) r→Q.ft r:=fun r h=>.inl h
theorem store84 (h:PortAt Q S w) (hm:S.made<4611686018427387904) (ht:S.s.time+Q.gap S.made<9223372036854775808) {c' addr n:Nat} (hd:StD Q S.s.cmp c' addr n) :
 Calls Tryz.prog 84 #[.pointer (some ⟨Q.pb,0,none⟩),.int .u32 addr,.int .u32 n] w fun e w'=>e=.returned (.int .i64 0)∧Tch Q.ft w w'∧∃s2 sp,PortAt Q ⟨s2,S.made+1,sp⟩ w'∧s2.time=S.s.time+Q.gap S.made∧s2.cmp=c':=by
 have hB4:Below w.heap.size w (((w.alloc (.cells #[.pointer (some ⟨Q.pb,0,none⟩)] 30)).alloc (.cells #[.int .u32 addr] 22)).alloc (.cells #[.int .u32 n] 22)):=(((Below.refl _ w).alloc (Nat.le_refl _) _).alloc (by simp) _).alloc (by simp;omega) _;have z0:Blk (((w.alloc (.cells #[.pointer (some ⟨Q.pb,0,none⟩)] 30)).alloc (.cells #[.int .u32 addr] 22)).alloc (.cells #[.int .u32 n] 22)) w.heap.size #[.pointer (some ⟨Q.pb,0,none⟩)] 30:=((Blk.new w _ _).alloc _).alloc _
 have z1:Blk (((w.alloc (.cells #[.pointer (some ⟨Q.pb,0,none⟩)] 30)).alloc (.cells #[.int .u32 addr] 22)).alloc (.cells #[.int .u32 n] 22)) (w.heap.size+1) #[.int .u32 addr] 22:=by
  have:=(Blk.new (w.alloc (.cells #[.pointer (some ⟨Q.pb,0,none⟩)] 30)) #[.int .u32 (addr:Int)] 22).alloc (.cells #[.int .u32 n] 22);simpa using this
 have z2:Blk (((w.alloc (.cells #[.pointer (some ⟨Q.pb,0,none⟩)] 30)).alloc (.cells #[.int .u32 addr] 22)).alloc (.cells #[.int .u32 n] 22)) (w.heap.size+1+1) #[.int .u32 n] 22:=by
  have:=Blk.new ((w.alloc (.cells #[.pointer (some ⟨Q.pb,0,none⟩)] 30)).alloc (.cells #[.int .u32 addr] 22)) #[.int .u32 (n:Int)] 22;simpa using this
 have h4:=h.below hB4;have y0:=h.away (Nat.le_refl _);have y1:=h.away (x:=w.heap.size+1) (by omega);have y2:=h.away (x:=w.heap.size+1+1) (by omega);have c0:(((w.alloc (.cells #[.pointer (some ⟨Q.pb,0,none⟩)] 30)).alloc (.cells #[.int .u32 addr] 22)).alloc (.cells #[.int .u32 n] 22)).cell? ⟨w.heap.size,0,none⟩=some (.pointer (some ⟨Q.pb,0,none⟩)):=z0.cell 0 rfl;go_enter Tryz.func84,Tryz.ntmps84
 go_wp2_with (go_at_call 85;fail)
 generalize ((w.alloc (.cells #[.pointer (some ⟨Q.pb,0,none⟩)] 30)).alloc (.cells #[.int .u32 addr] 22)).alloc (.cells #[.int .u32 n] 22)=w4 at *
 refine(access85 h4 hm ht (f:=143) (caps:=#[.pointer (some ⟨w.heap.size,0,none⟩),.pointer (some ⟨w.heap.size+1,0,none⟩),.pointer (some ⟨w.heap.size+1+1,0,none⟩)]) (X:=FT (ksB Q.b)) (P:=fun s2 _=>s2.time=S.s.time+Q.gap S.made∧s2.cmp=c') (fun w=>by kernel_rfl)
  (fun w1 s1 sp1 e1 e2 ht1 h1=>(store143 h1 hd e2 ((ht1.block _ z0.lt y0).trans z0) ((ht1.block _ z1.lt y1).trans z1) ((ht1.block _ z2.lt y2).trans z2)).mono fun e w2 hx=>⟨hx.1,hx.2.1,hx.2.2.imp fun s2 hq=>⟨hq.1,hq.2.1.trans e1,hq.2.2⟩⟩)
  (fun s w1 w2 hp _=>hp)).mono ?_
 rintro e w5 ⟨rfl,ht5,s2,sp,h5,e1,e2⟩;go_wp2;refine bodyPost_ret (v:=.int .i64 0) ?_ rfl ⟨rfl,(Tch.of_below hB4).trans (ht5.mono fun r hr=>hr.elim id (ksB_ft Q r)),s2,sp,h5,e1,e2⟩;simp[results,Tryz.results84,go_sem]
def LdD (Q:QB) (t v addr:Nat):Prop:=∀W s,BoardAt Q.b s W→s.time=t→Calls Tryz.prog 20 #[.pointer (some ⟨Q.b 16,0,none⟩),.int .u32 addr] W fun e w'=>e=.returned (.tuple #[.int .u32 v,.int .i64 0])∧Tch (FT (ksB Q.b)) W w'∧BoardAt Q.b s w'
def LdE (Q:QB) (s:BT) (v x2:Nat) (w0:World):Nat→World→Prop
 | 0,w=>Below w0.heap.size w0 w
 | 1,w=>Tch (FT (ksB Q.b)) w0 w∧BoardAt Q.b s w
 |_,w=>Tch (fun r=>FT (ksB Q.b) r∨r=x2) w0 w∧BoardAt Q.b s w∧Blk w x2 #[.int .u32 v] 22
theorem LdE.tch {s:BT} {v x2:Nat} {w0 w:World} {b:Nat} (h:LdE Q s v x2 w0 b w):Tch (fun r=>FT (ksB Q.b) r∨r=x2) w0 w:=by
 match b with
 | 0=>exact Tch.of_below h
 | 1=>exact h.1.mono fun r hr=>.inl hr
 |_+2=>exact h.1
theorem LdE.cell {s:BT} {v x2:Nat} {w0:World} {k:Nat} {T:TypeId} {cs:Array Value} (hk:Blk w0 k cs T) (h1:¬FT (ksB Q.b) k) (h2:k≠x2) (j:Nat) {u:Value} (hv:cs[j]?=some u):∀x:Thr (LdE Q s v x2 w0),x.w.cell? ⟨k,j,none⟩=some u:=fun x=>
 Blk.cell ((x.h.tch.block _ hk.lt (fun e=>e.elim h1 h2)).trans hk) j hv
theorem load86 (h:PortAt Q S w) {x0 x1 x2 v addr:Nat} (hd:LdD Q S.s.time v addr) (h0:Blk w x0 #[.pointer (some ⟨Q.pb,0,none⟩)] 30) (h1:Blk w x1 #[.int .u32 addr] 22) (h2:Blk w x2 #[.int .u32 0] 22) (y0:¬Q.ft x0) (y1:¬Q.ft x1) (y2:¬Q.ft x2) (h8:8≤x2) (n12:x1≠x2) :
 Calls Tryz.prog 86 #[.pointer (some ⟨x0,0,none⟩),.pointer (some ⟨x1,0,none⟩),.pointer (some ⟨x2,0,none⟩)] w fun e w'=>e=.returned (.int .i64 0)∧Tch (fun r=>FT (ksB Q.b) r∨r=x2) w w'∧∃s2,PortAt Q { S with s:=s2 } w'∧(s2=S.s∧Blk w' x2 #[.int .u32 v] 22):=by
 have n02:x0≠x2:=Blk.ne_ h0 h2 (by decide);have hbd:=h.board;have hpx:Q.pb≠x2:=fun e=>y2 (.inr (.inl e.symm));haveI:Nonempty (Thr (LdE Q S.s v x2 w)):=⟨⟨0,w,Below.refl _ _⟩⟩;have c0:∀x:Thr (LdE Q S.s v x2 w),x.w.cell? ⟨x0,0,none⟩=some (.pointer (some ⟨Q.pb,0,none⟩)):=LdE.cell h0 (fun e=>y0 (.inl e)) n02 0 rfl;have c1:∀x:Thr (LdE Q S.s v x2 w),x.w.cell? ⟨x1,0,none⟩=some (.int .u32 addr):=LdE.cell h1 (fun e=>y1 (.inl e)) n12 0 rfl;have c2:∀x:Thr (LdE Q S.s v x2 w),x.w.cell? ⟨Q.pb,3,none⟩=some (.pointer (some ⟨Q.b 16,0,none⟩)):=LdE.cell h.blk h.out hpx 3 rfl;go_enter Tryz.func86,Tryz.ntmps86;go_wp2;refine wp_region_thr (LdE Q S.s v x2 w) 5 9 (by decide) (by kernel_rfl) (by kernel_rfl) (Below.refl _ _).drew ?_
 (repeat (first|(refine lexT_skip (by rfl) (by decide) ?_;simp only[Act.put,List.setIfInBounds_toArray,List.set_cons_succ,List.set_cons_zero])|(refine lexT_want (by rfl) (by decide) (by rfl) ?_;intro K hK;go_big_quiet_op;refine hK _ ?_;clear hK K)))
 refine lexT_callT1 (f:=20) (args:=#[.pointer (some ⟨Q.b 16,0,none⟩),.int .u32 addr]) (v:=.tuple #[.int .u32 v,.int .i64 0]) (by rfl) (by rfl) (fun w=>by kernel_rfl) (fun W hW=>((hd W S.s (hbd.tch (X:=fun _=>False) (Tch.of_below hW) (fun k e=>e.elim)) rfl).mono fun e w' hx=>⟨hx.1,(Tch.of_below hW).trans hx.2.1,hx.2.2⟩)) ?_;simp only[Act.put,List.setIfInBounds_toArray,List.set_cons_succ,List.set_cons_zero]
 (repeat (first|(refine lexT_skip (by rfl) (by decide) ?_;simp only[Act.put,List.setIfInBounds_toArray,List.set_cons_succ,List.set_cons_zero])|(refine lexT_want (by rfl) (by decide) (by rfl) ?_;intro K hK;go_big_quiet_op;refine hK _ ?_;clear hK K)))
 refine lexT_turn2 (by rfl) (by rfl) (by decide) undef (fun W hW=>?_) ?_
 ·have hb:Blk W x2 #[.int .u32 0] 22:=(hW.1.block _ h2.lt (fun e=>y2 (.inl e))).trans h2
  have q0:W.cell? ⟨x2,0,none⟩=some (.int .u32 0):=hb.cell 0 rfl;have f0:=hb.free 0;unfold does
  go_simp
  exact⟨⟨(hW.1.mono fun r hr=>.inl hr).setCell _ (.inl (.inr rfl)),hW.2.tch ((Tch.refl (fun r=>r=x2) W).setCell (a:=⟨x2,0,none⟩) (.int .u32 v) (.inl rfl)) (fun k e=>e ▸ ⟨fun e'=>y2 (.inl e'),h8⟩),hb.set 0 _⟩,rfl⟩
 simp only[Act.put,List.setIfInBounds_toArray,List.set_cons_succ,List.set_cons_zero]
 (repeat (first|(refine lexT_skip (by rfl) (by decide) ?_;simp only[Act.put,List.setIfInBounds_toArray,List.set_cons_succ,List.set_cons_zero])|(refine lexT_want (by rfl) (by decide) (by rfl) ?_;intro K hK;go_big_quiet_op;refine hK _ ?_;clear hK K)))
 intro w3 hw3;obtain⟨ht3,hb3,hv3⟩:=hw3;clear c0 c1 c2;go_wp2
 have hp3:PortAt Q { S with s:=S.s } w3:=by
  refine⟨hb3,(ht3.block _ h.blk.lt (fun e=>e.elim h.out hpx)).trans h.blk,fun hn=>⟨(h.ga hn).1,Nat.lt_of_lt_of_le (h.ga hn).2 ht3.size⟩,fun j v hj=>⟨(h.gap j v hj).1,?_⟩,h.out,h.outg,h.hi⟩
  have hn:Q.gl≠[]:=by rintro e;rw[e] at hj;simp at hj
  have:=(h.gap j v hj).2;unfold World.cell? at this ⊢;rw[ht3.block Q.gb (h.ga hn).2 (fun e=>e.elim (h.outg hn).1 (fun e=>y2 (.inr (.inr ⟨hn,e.symm⟩))))];exact this
 refine bodyPost_ret (v:=.int .i64 0) ?_ rfl ⟨rfl,ht3,S.s,hp3,rfl,hv3⟩;simp[results,Tryz.results86,go_sem]
theorem load44 (h:PortAt Q S w) (hm:S.made<4611686018427387904) (ht:S.s.time+Q.gap S.made<9223372036854775808) {addr v:Nat} (hd:LdD Q (S.s.time+Q.gap S.made) v addr) :
 Calls Tryz.prog 44 #[.pointer (some ⟨Q.pb,0,none⟩),.int .u32 addr] w fun e w'=>e=.returned (.tuple #[.int .u32 v,.int .i64 0])∧Tch Q.ft w w'∧∃s2 sp,PortAt Q ⟨s2,S.made+1,sp⟩ w'∧s2.time=S.s.time+Q.gap S.made∧s2.cmp=S.s.cmp:=by
 have hB4:Below w.heap.size w (((w.alloc (.cells #[.pointer (some ⟨Q.pb,0,none⟩)] 30)).alloc (.cells #[.int .u32 addr] 22)).alloc (.cells #[.int .u32 0] 22)):=(((Below.refl _ w).alloc (Nat.le_refl _) _).alloc (by simp) _).alloc (by simp;omega) _;have z0:Blk (((w.alloc (.cells #[.pointer (some ⟨Q.pb,0,none⟩)] 30)).alloc (.cells #[.int .u32 addr] 22)).alloc (.cells #[.int .u32 0] 22)) w.heap.size #[.pointer (some ⟨Q.pb,0,none⟩)] 30:=((Blk.new w _ _).alloc _).alloc _
 have z1:Blk (((w.alloc (.cells #[.pointer (some ⟨Q.pb,0,none⟩)] 30)).alloc (.cells #[.int .u32 addr] 22)).alloc (.cells #[.int .u32 0] 22)) (w.heap.size+1) #[.int .u32 addr] 22:=by
  have:=(Blk.new (w.alloc (.cells #[.pointer (some ⟨Q.pb,0,none⟩)] 30)) #[.int .u32 (addr:Int)] 22).alloc (.cells #[.int .u32 0] 22);simpa using this
 have z2:Blk (((w.alloc (.cells #[.pointer (some ⟨Q.pb,0,none⟩)] 30)).alloc (.cells #[.int .u32 addr] 22)).alloc (.cells #[.int .u32 0] 22)) (w.heap.size+1+1) #[.int .u32 0] 22:=by
  have:=Blk.new ((w.alloc (.cells #[.pointer (some ⟨Q.pb,0,none⟩)] 30)).alloc (.cells #[.int .u32 addr] 22)) #[.int .u32 0] 22;simpa using this
 have h4:=h.below hB4;have y0:=h.away (Nat.le_refl _);have y1:=h.away (x:=w.heap.size+1) (by omega);have y2:=h.away (x:=w.heap.size+1+1) (by omega)
 have h8:8≤w.heap.size+1+1:=by have:=h.hi;have:=h.blk.lt;omega
 have c0:(((w.alloc (.cells #[.pointer (some ⟨Q.pb,0,none⟩)] 30)).alloc (.cells #[.int .u32 addr] 22)).alloc (.cells #[.int .u32 0] 22)).cell? ⟨w.heap.size,0,none⟩=some (.pointer (some ⟨Q.pb,0,none⟩)):=z0.cell 0 rfl;go_enter Tryz.func44,Tryz.ntmps44
 go_wp2_with (go_at_call 85;fail)
 generalize ((w.alloc (.cells #[.pointer (some ⟨Q.pb,0,none⟩)] 30)).alloc (.cells #[.int .u32 addr] 22)).alloc (.cells #[.int .u32 0] 22)=w4 at *
 refine(access85 h4 hm ht (f:=86) (caps:=#[.pointer (some ⟨w.heap.size,0,none⟩),.pointer (some ⟨w.heap.size+1,0,none⟩),.pointer (some ⟨w.heap.size+1+1,0,none⟩)]) (X:=fun r=>FT (ksB Q.b) r∨r=w.heap.size+1+1) (P:=fun s2 wx=>(s2.time=S.s.time+Q.gap S.made∧s2.cmp=S.s.cmp)∧Blk wx (w.heap.size+1+1) #[.int .u32 v] 22) (fun w=>by kernel_rfl)
  (fun w1 s1 sp1 e1 e2 ht1 h1=>(load86 h1 (by rw[←e1] at hd;exact hd) ((ht1.block _ z0.lt y0).trans z0) ((ht1.block _ z1.lt y1).trans z1) ((ht1.block _ z2.lt y2).trans z2) y0 y1 y2 h8 (by omega)).mono fun e w2 hx=>⟨hx.1,hx.2.1,hx.2.2.imp fun s2 hq=>⟨hq.1,by rw[hq.2.1];exact⟨e1,e2⟩,hq.2.2⟩⟩)
  (fun s w1 w2 hp hb=>⟨hp.1,hp.2.below hb hp.2.lt⟩)).mono ?_
 rintro e w5 ⟨rfl,ht5,s2,sp,h5,⟨e1,e2⟩,z5⟩;have q5:w5.cell? ⟨w.heap.size+1+1,0,none⟩=some (.int .u32 v):=z5.cell 0 rfl;go_wp2;refine bodyPost_ret (v:=.tuple #[.int .u32 v,.int .i64 0]) ?_ rfl ⟨rfl,(Tch.of_below hB4).trans' ht5 ?_,s2,sp,h5,e1,e2⟩
 ·simp[results,Tryz.results44,go_sem]
 ·rintro j hj (e|e|e)
  ·exact e
  ·exact .inl e
  ·omega
end
theorem lo261 (n:Nat) (w:World):Calls Tryz.prog 261 #[.int .u64 n] w fun e w'=>e=.returned (.int .u32 (n%4294967296:Nat))∧w'=w:=by
 have hw:IntKind.u32.wrap (n:Int)=((n%4294967296:Nat):Int):=by simp[IntKind.wrap,IntKind.bits,IntKind.signed]
 go_enter Tryz.func261,Tryz.ntmps261;go_wp2;refine bodyPost_ret (v:=.int .u32 (n%4294967296:Nat)) ?_ rfl ⟨rfl,rfl⟩;simp[results,Tryz.results261,go_sem]
theorem hi260 (n:Nat) (hn:n<18446744073709551616) (w:World):Calls Tryz.prog 260 #[.int .u64 n] w fun e w'=>e=.returned (.int .u32 (n/4294967296:Nat))∧w'=w:=by
 obtain⟨q,hq⟩:∃q:Nat,q=n/4294967296:=⟨_,rfl⟩
 have hql:q<4294967296:=by omega
 have hd:(n:Int)/4294967296=(q:Int):=by rw[hq];rfl
 have hw:IntKind.u32.wrap (q:Int)=(q:Int):=IntWalk.u32_in _ ⟨by omega,by omega⟩;rw[←hq];clear hq;go_enter Tryz.func260,Tryz.ntmps260;go_wp2;refine bodyPost_ret (v:=.int .u32 (q:Nat)) ?_ rfl ⟨rfl,rfl⟩;simp[results,Tryz.results260,go_sem]
theorem words192 (n:Nat) (hn:n<18446744073709551616) (w:World):Calls Tryz.prog 192 #[.int .u64 n] w fun e w'=>e=.returned (.agg #[.int .u32 4294967295,.int .u32 (n/4294967296:Nat),.int .u32 (n%4294967296:Nat)])∧Below w.heap.size w w':=by
 obtain⟨q,hq⟩:∃q:Nat,q=n/4294967296:=⟨_,rfl⟩;obtain⟨r,hr⟩:∃r:Nat,r=n%4294967296:=⟨_,rfl⟩;have h1:=hi260 n hn;have h2:=lo261 n;rw[←hq] at h1 ⊢;rw[←hr] at h2 ⊢;clear hq hr;have hX:=Blk.new w #[.int .u32 0,.int .u32 0,.int .u32 0] 337;have hb:Below w.heap.size w (w.alloc (.cells #[.int .u32 0,.int .u32 0,.int .u32 0] 337)):=(Below.refl _ w).alloc (Nat.le_refl _) _;go_enter Tryz.func192,Tryz.ntmps192
 go_wp2_with (first|(go_at_call 260;refine(h1 _).mono ?_;rintro e w1 ⟨rfl,rfl⟩)|(go_at_call 261;refine(h2 _).mono ?_;rintro e w1 ⟨rfl,rfl⟩))
 have hY:=Blk.new w #[.int .u32 4294967295,.int .u32 q,.int .u32 r] 337;have k0:(w.alloc (.cells #[.int .u32 4294967295,.int .u32 q,.int .u32 r] 337)).cell? ⟨w.heap.size,0,none⟩=some (.int .u32 4294967295):=hY.cell 0 rfl;have k1:(w.alloc (.cells #[.int .u32 4294967295,.int .u32 q,.int .u32 r] 337)).cell? ⟨w.heap.size,1,none⟩=some (.int .u32 q):=hY.cell 1 rfl;have k2:(w.alloc (.cells #[.int .u32 4294967295,.int .u32 q,.int .u32 r] 337)).cell? ⟨w.heap.size,2,none⟩=some (.int .u32 r):=hY.cell 2 rfl;refine bodyPost_ret (v:=.agg #[.int .u32 4294967295,.int .u32 q,.int .u32 r]) ?_ rfl ⟨rfl,(Below.refl _ w).alloc (Nat.le_refl _) _⟩;simp[results,Tryz.results192,go_sem]
def shotV (Q:QB) (am:Nat):Array Value:=#[.pointer (some ⟨Q.pb,0,none⟩),.int .i64 0,.int .u64 am]
structure ShotAt (Q:QB) (hb:Nat) (S:QS) (am:Nat) (w:World):Prop where
 port:PortAt Q S w
 blk:Blk w hb (shotV Q am) 203
 out:¬Q.ft hb
 hi:8≤hb
section
variable {Q:QB} {S:QS} {w w':World} {hb am:Nat}
theorem ShotAt.portT (h:ShotAt Q hb S am w) {S':QS} (ht:Tch Q.ft w w') (hp:PortAt Q S' w'):ShotAt Q hb S' am w':=⟨hp,(ht.block _ h.blk.lt h.out).trans h.blk,h.out,h.hi⟩
theorem ShotAt.selfT (h:ShotAt Q hb S am w) {am':Nat} (ht:Tch (fun r=>r=hb) w w') (hp:Blk w' hb (shotV Q am') 203):ShotAt Q hb S am' w':=⟨h.port.tch ht (fun k e=>e ▸ ⟨h.out,h.hi⟩),hp,h.out,h.hi⟩
theorem ShotAt.tch (h:ShotAt Q hb S am w) {X:Nat→Prop} (ht:Tch X w w') (hx:∀k,X k→¬(Q.ft k∨k=hb)∧8≤k):ShotAt Q hb S am w':=
 ⟨h.port.tch ht (fun k e=>⟨fun e'=>(hx k e).1 (.inl e'),(hx k e).2⟩),(ht.block _ h.blk.lt (fun e=>(hx _ e).1 (.inr rfl))).trans h.blk,h.out,h.hi⟩
theorem lost127 (h:ShotAt Q hb S am w):Calls Tryz.prog 127 #[.pointer (some ⟨hb,0,none⟩)] w fun e w'=>e=.returned (.tuple #[])∧Tch (fun r=>r=hb) w w'∧ShotAt Q hb S 18446744073709551615 w':=by
 have c2:w.cell? ⟨hb,2,none⟩=some (.int .u64 am):=h.blk.cell 2 rfl;have f2:=h.blk.free 2;have z2:=h.blk.set 2 (.int .u64 18446744073709551615);have ht:=(Tch.refl (fun r=>r=hb) w).setCell (a:=⟨hb,2,none⟩) (.int .u64 18446744073709551615) (.inl rfl);have h2:=h.selfT (am':=18446744073709551615) ht z2;go_enter Tryz.func127,Tryz.ntmps127;go_wp2
 go_end0
 exact⟨rfl,ht,h2⟩
theorem armed123 (h:ShotAt Q hb S am w):Calls Tryz.prog 123 #[.pointer (some ⟨hb,0,none⟩)] w fun e w'=>e=.returned (.int .u64 am)∧w'=w:=by
 have c2:w.cell? ⟨hb,2,none⟩=some (.int .u64 am):=h.blk.cell 2 rfl;go_enter Tryz.func123,Tryz.ntmps123;go_wp2;refine bodyPost_ret (v:=.int .u64 am) ?_ rfl ⟨rfl,rfl⟩;simp[results,Tryz.results123,go_sem]
theorem stLo (Q:QB) (c n:Nat) (hn:n<4294967296):StD Q c (c/4294967296*4294967296+n) 33570816 n:=fun W s h hc=>by
 subst hc;exact bslo h hn
theorem stHi (Q:QB) (c n:Nat) (hn:n<4294967296):StD Q c (n*4294967296+c%4294967296) 33570820 n:=fun W s h hc=>by
 subst hc;exact bshi h hn
set_option maxHeartbeats 4000000 in
theorem arm124 (h:ShotAt Q hb S am w) {d:Nat} (hd:d<18446744073709551616) (hm:S.made+3<4611686018427387904) (ht:S.s.time+(Q.gap S.made+Q.gap (S.made+1)+Q.gap (S.made+1+1))<9223372036854775808) :
 Calls Tryz.prog 124 #[.pointer (some ⟨hb,0,none⟩),.int .u64 d] w fun e w'=>e=.returned (.int .i64 0)∧Tch (fun r=>Q.ft r∨r=hb) w w' ∧
  ∃s2 sp,ShotAt Q hb ⟨s2,S.made+3,sp⟩ d w'∧s2.time=S.s.time+(Q.gap S.made+Q.gap (S.made+1)+Q.gap (S.made+1+1))∧s2.cmp=d:=by
 obtain⟨q,hq⟩:∃q:Nat,q=d/4294967296:=⟨_,rfl⟩;obtain⟨r,hr⟩:∃r:Nat,r=d%4294967296:=⟨_,rfl⟩;have hw:=words192 d hd;rw[←hq,←hr] at hw
 have hql:q<4294967296:=by omega
 have hrl:r<4294967296:=by omega
 have hqr:q*4294967296+r=d:=by omega
 clear hq hr;have c1:w.cell? ⟨hb,1,none⟩=some (.int .i64 0):=h.blk.cell 1 rfl;have hX:=Blk.new w #[.int .u32 0,.int .u32 4,.int .u32 0] 337;have hBa:Below w.heap.size w (w.alloc (.cells #[.int .u32 0,.int .u32 4,.int .u32 0] 337)):=(Below.refl _ w).alloc (Nat.le_refl _) _;have h1:=h.tch (X:=fun _=>False) (Tch.of_below hBa) (fun k e=>e.elim);have hxo:¬Q.ft w.heap.size∧w.heap.size≠hb:=⟨h.port.away (Nat.le_refl _),fun e=>by have:=h.blk.lt;omega⟩
 have hi0:∀w,(Instr.index 337 (.agg #[.int .u32 4294967295,.int .u32 q,.int .u32 r]) (.int .i64 0)).run Tryz.prog w=.ok (.int .u32 4294967295) w:=fun _=>by kernel_rfl
 have hi1:∀w,(Instr.index 337 (.agg #[.int .u32 4294967295,.int .u32 q,.int .u32 r]) (.int .i64 1)).run Tryz.prog w=.ok (.int .u32 q) w:=fun _=>by kernel_rfl
 have hi2:∀w,(Instr.index 337 (.agg #[.int .u32 4294967295,.int .u32 q,.int .u32 r]) (.int .i64 2)).run Tryz.prog w=.ok (.int .u32 r) w:=fun _=>by kernel_rfl
 obtain⟨xb,hxb⟩:∃xb,xb=w.heap.size:=⟨_,rfl⟩;go_enter Tryz.func124,Tryz.ntmps124;go_wp2;go_step3
 go_wp2_with (go_at_call 127;fail)
 refine(lost127 h1).mono ?_;rintro e w2 ⟨rfl,ht2,h2⟩;have z2:Blk w2 w.heap.size #[.int .u32 0,.int .u32 4,.int .u32 0] 337:=(ht2.block _ hX.lt hxo.2).trans hX;have hT2:Tch (fun r=>Q.ft r∨r=hb) w w2:=(Tch.of_below hBa).trans (ht2.mono fun r hr=>.inr hr);rw[←hxb] at z2 hxo ⊢;clear hX hBa h1 ht2 c1 h hxb;go_wp2;go_step3
 go_wp2_with (go_at_call 192;fail)
 refine(hw _).mono ?_;rintro e v0 ⟨rfl,hb3⟩;have k0:=h2.tch (X:=fun _=>False) (Tch.of_below hb3) (fun k e=>e.elim);have y0:=z2.below hb3 z2.lt;have t0:=hT2.trans (Tch.of_below hb3);clear hb3 z2 hT2 h2 hw;go_wp2;refine wp_loop_rounds 4 ?_;rw[rounds_succ];go_wp2
 let T0:World→Prop:=fun W=>Tch Q.ft v0 W∧∃z zp,PortAt Q ⟨z,S.made+1,zp⟩ W∧z.time=S.s.time+Q.gap S.made∧z.cmp=S.s.cmp/4294967296*4294967296+4294967295
 have hne0:=callE_ne T0 v0;haveI:=hne0.1;haveI:=hne0.2;have d0:∀x:One (CallE T0 v0 false),x.w.cell? ⟨hb,0,none⟩=some (.pointer (some ⟨Q.pb,0,none⟩)):=callE_one k0.blk 0 rfl;have d1:∀x:One (CallE T0 v0 false),x.w.cell? ⟨xb,0,none⟩=some (.int .u32 0):=callE_one y0 0 rfl;refine wp_region_two (CallE T0 v0) 10 (by decide) (by kernel_rfl) (by kernel_rfl) (Below.refl _ _).drew ?_
 (repeat (first|(refine lexS_skip (by rfl) (by decide) ?_;simp only[Act.put,List.setIfInBounds_toArray,List.set_cons_succ,List.set_cons_zero])|(refine lexS_ewant (by rfl) (by decide) (by kernel_rfl) (by rfl) ?_;intro K hK;go_big_quiet_op;refine hK _ ?_;clear hK K)))
 refine lexS_callT (f:=84) (args:=#[.pointer (some ⟨Q.pb,0,none⟩),.int .u32 33570816,.int .u32 4294967295]) (v:=.int .i64 0) (by rfl) (by rfl) (fun w=>by kernel_rfl) (fun W hW=>((store84 (k0.port.below hW) (by show S.made<_;omega) (by show S.s.time+Q.gap S.made<_;omega) (stLo Q _ 4294967295 (by omega))).mono fun e w' hx=>⟨hx.1,(Tch.of_below hW).trans hx.2.1,hx.2.2⟩)) ?_;simp only[Act.put,List.setIfInBounds_toArray,List.set_cons_succ,List.set_cons_zero]
 (repeat (first|(refine lexS_skip (by rfl) (by decide) ?_;simp only[Act.put,List.setIfInBounds_toArray,List.set_cons_succ,List.set_cons_zero])|(refine lexS_want (by rfl) (by decide) (by rfl) ?_;intro K hK;go_big_quiet_op;refine hK _ ?_;clear hK K)))
 refine fun v1 hv1=>?_;obtain⟨ht1,s1,p1,hp1,e1,c1⟩:=hv1;have k1:=k0.portT ht1 hp1;have y1:Blk v1 xb #[.int .u32 0,.int .u32 4,.int .u32 0] 337:=(ht1.block _ y0.lt hxo.1).trans y0;have t1:=t0.trans (ht1.mono fun r hr=>Or.inl hr);clear d0 d1 hne0 ht1 hp1 k0 y0 t0;go_wp2;rw[rounds_succ];go_wp2
 let T1:World→Prop:=fun W=>Tch Q.ft v1 W∧∃z zp,PortAt Q ⟨z,S.made+1+1,zp⟩ W∧z.time=s1.time+Q.gap (S.made+1)∧z.cmp=q*4294967296+s1.cmp%4294967296
 have hne1:=callE_ne T1 v1;haveI:=hne1.1;haveI:=hne1.2;have d0:∀x:One (CallE T1 v1 false),x.w.cell? ⟨hb,0,none⟩=some (.pointer (some ⟨Q.pb,0,none⟩)):=callE_one k1.blk 0 rfl;have d1:∀x:One (CallE T1 v1 false),x.w.cell? ⟨xb,1,none⟩=some (.int .u32 4):=callE_one y1 1 rfl;refine wp_region_two (CallE T1 v1) 10 (by decide) (by kernel_rfl) (by kernel_rfl) (Below.refl _ _).drew ?_
 (repeat (first|(refine lexS_skip (by rfl) (by decide) ?_;simp only[Act.put,List.setIfInBounds_toArray,List.set_cons_succ,List.set_cons_zero])|(refine lexS_ewant (by rfl) (by decide) (by kernel_rfl) (by rfl) ?_;intro K hK;go_big_quiet_op;refine hK _ ?_;clear hK K)))
 refine lexS_callT (f:=84) (args:=#[.pointer (some ⟨Q.pb,0,none⟩),.int .u32 33570820,.int .u32 q]) (v:=.int .i64 0) (by rfl) (by rfl) (fun w=>by kernel_rfl) (fun W hW=>((store84 (k1.port.below hW) (by show S.made+1<_;omega) (by show s1.time+Q.gap (S.made+1)<_;omega) (stHi Q _ q hql)).mono fun e w' hx=>⟨hx.1,(Tch.of_below hW).trans hx.2.1,hx.2.2⟩)) ?_;simp only[Act.put,List.setIfInBounds_toArray,List.set_cons_succ,List.set_cons_zero]
 (repeat (first|(refine lexS_skip (by rfl) (by decide) ?_;simp only[Act.put,List.setIfInBounds_toArray,List.set_cons_succ,List.set_cons_zero])|(refine lexS_want (by rfl) (by decide) (by rfl) ?_;intro K hK;go_big_quiet_op;refine hK _ ?_;clear hK K)))
 refine fun v2 hv2=>?_;obtain⟨ht2,s2,p2,hp2,e2,c2⟩:=hv2;have k2:=k1.portT ht2 hp2;have y2:Blk v2 xb #[.int .u32 0,.int .u32 4,.int .u32 0] 337:=(ht2.block _ y1.lt hxo.1).trans y1;have t2:=t1.trans (ht2.mono fun r hr=>Or.inl hr);clear d0 d1 hne1 ht2 hp2 k1 y1 t1;go_wp2;rw[rounds_succ];go_wp2
 let T2:World→Prop:=fun W=>Tch Q.ft v2 W∧∃z zp,PortAt Q ⟨z,S.made+1+1+1,zp⟩ W∧z.time=s2.time+Q.gap (S.made+1+1)∧z.cmp=s2.cmp/4294967296*4294967296+r
 have hne2:=callE_ne T2 v2;haveI:=hne2.1;haveI:=hne2.2;have d0:∀x:One (CallE T2 v2 false),x.w.cell? ⟨hb,0,none⟩=some (.pointer (some ⟨Q.pb,0,none⟩)):=callE_one k2.blk 0 rfl;have d1:∀x:One (CallE T2 v2 false),x.w.cell? ⟨xb,2,none⟩=some (.int .u32 0):=callE_one y2 2 rfl;refine wp_region_two (CallE T2 v2) 10 (by decide) (by kernel_rfl) (by kernel_rfl) (Below.refl _ _).drew ?_
 (repeat (first|(refine lexS_skip (by rfl) (by decide) ?_;simp only[Act.put,List.setIfInBounds_toArray,List.set_cons_succ,List.set_cons_zero])|(refine lexS_ewant (by rfl) (by decide) (by kernel_rfl) (by rfl) ?_;intro K hK;go_big_quiet_op;refine hK _ ?_;clear hK K)))
 refine lexS_callT (f:=84) (args:=#[.pointer (some ⟨Q.pb,0,none⟩),.int .u32 33570816,.int .u32 r]) (v:=.int .i64 0) (by rfl) (by rfl) (fun w=>by kernel_rfl) (fun W hW=>((store84 (k2.port.below hW) (by show S.made+1+1<_;omega) (by show s2.time+Q.gap (S.made+1+1)<_;omega) (stLo Q _ r hrl)).mono fun e w' hx=>⟨hx.1,(Tch.of_below hW).trans hx.2.1,hx.2.2⟩)) ?_;simp only[Act.put,List.setIfInBounds_toArray,List.set_cons_succ,List.set_cons_zero]
 (repeat (first|(refine lexS_skip (by rfl) (by decide) ?_;simp only[Act.put,List.setIfInBounds_toArray,List.set_cons_succ,List.set_cons_zero])|(refine lexS_want (by rfl) (by decide) (by rfl) ?_;intro K hK;go_big_quiet_op;refine hK _ ?_;clear hK K)))
 refine fun v3 hv3=>?_;obtain⟨ht3,s3,p3,hp3,e3,c3⟩:=hv3;have k3:=k2.portT ht3 hp3;have y3:Blk v3 xb #[.int .u32 0,.int .u32 4,.int .u32 0] 337:=(ht3.block _ y2.lt hxo.1).trans y2;have t3:=t2.trans (ht3.mono fun r hr=>Or.inl hr);clear d0 d1 hne2 ht3 hp3 k2 y2 t2;go_wp2;rw[rounds_succ]
 have hq2:s2.cmp/4294967296=q:=by omega
 have hce:s3.cmp=d:=by rw[c3,hq2];exact hqr
 have hte:s3.time=S.s.time+(Q.gap S.made+Q.gap (S.made+1)+Q.gap (S.made+1+1)):=by rw[e3,e2,e1];omega
 have q2:v3.cell? ⟨hb,2,none⟩=some (.int .u64 18446744073709551615):=k3.blk.cell 2 rfl;have f2:=k3.blk.free 2;have z3:=k3.blk.set 2 (.int .u64 d);have ht3:=(Tch.refl (fun r=>r=hb) v3).setCell (a:=⟨hb,2,none⟩) (.int .u64 d) (.inl rfl);have k4:=k3.selfT (am':=d) ht3 z3;clear c1 c2 c3 e1 e2 e3 hq2;go_wp2;rw[Exit.noGoto_ret];refine bodyPost_ret (v:=.int .i64 0) ?_ rfl ⟨rfl,t3.trans (ht3.mono fun r hr=>.inr hr),s3,p3,k4,hte,hce⟩;simp[results,Tryz.results124,go_sem]
end
end Go.Proofs.YtkndlfdpmpdihaaGreatDoor
