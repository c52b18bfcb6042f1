/- All that is taken, as a slice. The places of the wheel, as a slice. The places of the wheel, as a slice: the walk. Collect's first loop, in plain law: the places in their order are taken, as far as they are touched. Whether a place is touched. Where a place begins, reckoned. Conditions: those that each statement shows. -/
import Derived.Test.YtkndlfdpmpdihaaGreatDoorY15
import Derived.Test.YtkndlfdpmpdihaaGreatDoorY17
import Derived.Test.YtkndlfdpmpdihaaGreatDoorY10
namespace Go.Proofs.YtkndlfdpmpdihaaGreatDoor
open Go.RowKit Go.Ev Go.Mv
set_option linter.unusedVariables false
set_option linter.unusedSimpArgs false
set_option maxRecDepth 100000
attribute [local go_sem] Oper.semAt_some
theorem info309:(Tryz.prog.info? 309).map (fun i=>(i.zero,i.size,i.bytes))=some (some (.agg #[.int .i64 0,.int .i64 0]),2,16):=by kernel_rfl
theorem under307:Tryz.prog.underlying 307=some (.slice 309):=by kernel_rfl
def pairCells (ys:List (Nat×Nat)):List Value:=ys.flatMap fun x=>[.int .i64 (x.1:Int),.int .i64 (x.2:Int)]
theorem pairCells_len (ys:List (Nat×Nat)):(pairCells ys).length=ys.length*2:=by
 unfold pairCells
 induction ys with
 |nil=>rfl
 |cons a l ih=>simp only[List.flatMap_cons,List.length_append,ih,List.length_cons,List.length_nil];omega
theorem pairCells_snoc (ys:List (Nat×Nat)) (x:Nat×Nat):pairCells (ys++[x])=pairCells ys++[.int .i64 (x.1:Int),.int .i64 (x.2:Int)]:=by
 unfold pairCells;simp
theorem upToL_le {M:Nat→Nat} (hM:∀i,M i<18446744073709551616) {L:Nat→List Nat} (hL:∀l,l<8→Bits (M l) (nxtN (M l) 0) (L l)):∀k,k≤8→(upToL L k).length≤64*k:=by
 intro k
 induction k with
 |zero=>intro _;simp[upToL]
 |succ k ih=>
   intro hk;rw[upToL_succ,List.length_append,List.length_map];have h1:=ih (by omega);obtain⟨hm,hp⟩:=bits_mem (M k) (hM k) (L k) 0 (by omega) (hL k (by omega));have h2:(L k).length≤64:=nodup_le (hp.imp fun h=>Nat.ne_of_lt h) (fun a ha=>((hm a).1 ha).2.1);omega
def AllI (w:World) (n0:Nat) (pre:List (Nat×Nat)) (W:World):Prop:=∃v,Blk W n0 #[v] 307∧W.ownsRow (n0+1) 309 2 v pre.length (pairCells pre)∧Below n0 w W∧n0+1≤W.heap.size
theorem allI_own (w:World) (n0:Nat):OwnFrom (n0+1) (fun pre W=>AllI w n0 pre W):=by
 rintro pre W W' row ⟨v,h1,h2,h3,h4⟩ hg hr;refine⟨v,h1.kept hg (fun r e=>(hr r e).2),h2.kept hg ?_,h3.grown hg (by omega) (fun k e=>by have:=(hr k e).1;omega),Nat.le_trans h4 hg.size⟩
 cases row with
 |none=>cases h:v.ownBlock with
   |none=>exact .inl rfl
   |some x=>exact .inr (fun e=>by cases e)
 |some r=>exact ownsRow_apart h2 (.inr (hr r rfl).2)
set_option maxHeartbeats 4000000 in
theorem appendSeq_in (n:Nat) (hn:3≤n) {M:Nat→Nat} (hM:∀i,M i<18446744073709551616) {L:Nat→List Nat} (hL:∀l,l<8→Bits (M l) (nxtN (M l) 0) (L l)) {bx:Nat} (w:World) (hT:TabW w) (hX:Blk w bx (arr8 M) 213) :
 CallsIn Fence.wide n Tryz.prog 300 #[.slice none 0 0,.func (.func 301) #[] #[.pointer (some ⟨bx,0,none⟩)]] w fun e w'=>∃v,e=.returned v∧w'.ownsRow w.heap.size 309 2 v (upToL L 8).length (pairCells (upToL L 8))∧Below w.heap.size w w':=by
 have h1:1≤n:=by omega
 have hbx:=hX.lt;have hle:=upToL_le hM hL 8 (Nat.le_refl _);obtain⟨i0,hi,hz0,hz1,hz2⟩:=info_parts info309;refine callsIn_of_wp_marks Tryz.func300 rfl trivial ?_ rfl;simp only[Tryz.ntmps300,List.size_toArray,List.length_cons,List.length_nil,Nat.reduceAdd,Nat.reduceSub,Array.replicate_succ,Array.replicate_zero,List.push_toArray,List.append_toArray,List.nil_append,List.cons_append]
 gi_wp2
 have hBo:=Blk.new w #[.slice none 0 0] 307;have hB0:Below w.heap.size w (w.alloc (.cells #[.slice none 0 0] 307)):=(Below.refl _ w).alloc (Nat.le_refl _) _
 have hs0:(w.alloc (.cells #[.slice none 0 0] 307)).heap.size=w.heap.size+1:=by simp
 obtain⟨n0,hn0⟩:∃n0,n0=w.heap.size:=⟨_,rfl⟩;rw[←hn0] at hBo hB0 hs0 hbx ⊢
 have h2n:2<n0:=by rw[hn0];exact hT.lt
 have HN:=Lib.hid hn0;clear hn0;have hT0:TabW (w.alloc (.cells #[.slice none 0 0] 307)):=hT.keep (hB0.block _ h2n);have hX0:Blk (w.alloc (.cells #[.slice none 0 0] 307)) bx (arr8 M) 213:=hX.below hB0 hbx;generalize w.alloc (.cells #[.slice none 0 0] 307)=W0 at *
 refine wpIn_rangeFunc_ownH rfl h1 (gf:=301) (lb:=#[.pointer (some ⟨bx,0,none⟩)]) rfl trivial (enters_of Tryz.func301 (by kernel_rfl) rfl)
  (each_stops (n-1) (by omega) hM hL bx n0 W0 (by omega) (by omega) (by omega) hX0 hT0) belowK_t (belowK_b (by omega)) (Below.refl _ _) (fun _=>rfl)
  (fun pre W=>AllI w n0 pre W) (fun c pre W=>False) (by rw[hs0];exact allI_own w n0) (fun c s X Y row hs hg hr=>hs.elim) ⟨_,hBo,⟨rfl,.inl ⟨rfl,rfl⟩⟩,hB0,by omega⟩
  (fun x a' W=>∃Bx,n0+1≤Bx∧Blk W Bx #[.int .i64 (x.1:Int),.int .i64 (x.2:Int)] 309∧a'={ tmps:=#[.slice none 0 0,.func (.func 301) #[] #[.pointer (some ⟨bx,0,none⟩)],.pointer (some ⟨n0,0,none⟩),undef,.slice none 0 0,.pointer (some ⟨Bx,0,none⟩),.func (.func 301) #[] #[.pointer (some ⟨bx,0,none⟩)],.agg #[.int .i64 (x.1:Int),.int .i64 (x.2:Int)],undef,undef,undef,undef,undef],defers:=[] })
  (fun x a' _ X Y row hs hg hr=>by obtain⟨Bx,e1,e2,e3⟩:=hs;exact⟨Bx,e1,e2.kept hg (fun r e=>(hr r e).2),e3⟩)
  ?assign ?body ?done ?stop
 case assign=>
  rintro l pre x W K ⟨v,b1,hrow,hB1,hz⟩ hK
  gi_wp2
  exact hK _ _ ((KeepsOthers.alloc _ _).from _) ((Below.refl _ W).alloc (by omega) _) ((allI_own w n0).alloc _ ⟨v,b1,hrow,hB1,hz⟩) ⟨W.heap.size,hz,Blk.new W _ _,rfl⟩
 case body=>
  rintro l pre x a' W hl ⟨r,hr⟩ ⟨v,b1,hrow,hB1,hz⟩ ⟨Bx,hBx,bX1,rfl⟩ hlt;have q0:W.cell? ⟨n0,0,none⟩=some v:=b1.cell 0 rfl;have q1:W.cell? ⟨Bx,0,none⟩=some (.int .i64 (x.1:Int)):=bX1.cell 0 rfl;have q2:W.cell? ⟨Bx,1,none⟩=some (.int .i64 (x.2:Int)):=bX1.cell 1 rfl;have HR:=Lib.hid hrow;clear hrow;have hbx1:=b1.lt
  gi_wp2_with (gi_at_builtin;refine wpListIn_append_own _ rfl (.tmp 8) (.tmp 10) 307 rfl (n0+1) 309 i0 (.agg #[.int .i64 0,.int .i64 0]) 2 16 under307 hi hz0 hz1 hz2 rfl (by decide) _ _ _ rfl (HR.out.alloc _) ⟨W.heap.size,0,none⟩ 1 1 [.int .i64 (x.1:Int),.int .i64 (x.2:Int)] rfl rfl ?c1 ?c2 (by unfold maxLen;omega) (by omega) (by simp;omega) ?_)
  case c1=>
   intro j u hj;have hX2:=Blk.new W #[.int .i64 (x.1:Int),.int .i64 (x.2:Int)] 309
   match j,hj with
   | 0,hj=>
     simp at hj;subst hj;exact hX2.cell 0 rfl
   | 1,hj=>
     simp at hj;subst hj;exact hX2.cell 1 rfl
   |j+2,hj=>simp at hj
  case c2=>
   intro u hu;simp at hu
   rcases hu with rfl|rfl<;>rfl
  intro v1 w4 hown1 hg1 _
  obtain⟨g1,cap1,rfl⟩:∃g cap,v1=.slice (some ⟨g,0,none⟩) (pre.length+1) cap:=by
   rcases hown1.2 with⟨_,h0⟩|⟨g,cap,cur,e,_⟩
   ·exact absurd h0 (by omega)
   ·exact⟨g,cap,e⟩
  have hrl:=(HR.out.alloc (Obj.cells #[.int .i64 (x.1:Int),.int .i64 (x.2:Int)] 309)).lt;have hge:∀r,v.ownBlock=some r→n0+1≤r:=fun r e=>(hrl r e).1;have hT4:Tch (fun r=>n0+1≤r) W w4:=(Tch.of_below ((Below.refl _ W).alloc (Nat.le_refl _) (Obj.cells #[.int .i64 (x.1:Int),.int .i64 (x.2:Int)] 309))).trans (tch_grown hg1 hge);have hK4:KeepsOthers W w4:=(KeepsOthers.alloc W (Obj.cells #[.int .i64 (x.1:Int),.int .i64 (x.2:Int)] 309)).trans (KeepsOthers.of_grownBy hg1 (rows_cells (HR.out.alloc _)));have b2:Blk w4 n0 #[v] 307:=(hT4.block _ b1.lt (by omega)).trans b1;have q3:w4.cell? ⟨n0,0,none⟩=some v:=b2.cell 0 rfl;have f3:=b2.free 0;have hT5:=(Tch.refl (fun r=>r=n0) w4).setCell (a:=⟨n0,0,none⟩) (.slice (some ⟨g1,0,none⟩) (pre.length+1) cap1) (.inl rfl);have b3:=b2.set 0 (.slice (some ⟨g1,0,none⟩) (pre.length+1) cap1);have hK5:KeepsFrom W0.heap.size W (w4.setCell ⟨n0,0,none⟩ (.slice (some ⟨g1,0,none⟩) (pre.length+1) cap1)):=(hK4.trans (KeepsOthers.setCell _ _ _)).from _;have hB5:Below n0 W (w4.setCell ⟨n0,0,none⟩ (.slice (some ⟨g1,0,none⟩) (pre.length+1) cap1)):=⟨hT5.os.trans hT4.os,hT5.tape.trans hT4.tape,hT5.output.trans hT4.output,Nat.le_trans hT4.size hT5.size,fun k hk=>(hT5.block k (by have:=hT4.size;omega) (by omega)).trans (hT4.block k (by omega) (by omega))⟩
  have hrow5:(w4.setCell ⟨n0,0,none⟩ (.slice (some ⟨g1,0,none⟩) (pre.length+1) cap1)).ownsRow (n0+1) 309 2 (.slice (some ⟨g1,0,none⟩) (pre.length+1) cap1) (pre++[x]).length (pairCells (pre++[x])):=by
   rw[pairCells_snoc,List.length_append];exact rows_tch hown1 hT5 (fun k e=>by omega)
  have hfin:AllI w n0 (pre++[x]) (w4.setCell ⟨n0,0,none⟩ (.slice (some ⟨g1,0,none⟩) (pre.length+1) cap1)):=⟨_,b3,hrow5,hB1.trans hB5,by have:=hT4.size;have:=hT5.size;omega⟩;clear hown1 hg1 hrl hge q0
  gi_wp2
  first|exact⟨hB5,hfin⟩|exact⟨hK5,hB5,hfin⟩|exact hfin
 case done=>
  rintro D zs W hD rfl ⟨v,b1,hrow,hB1,hz⟩ hK;have q0:W.cell? ⟨n0,0,none⟩=some v:=b1.cell 0 rfl
  gi_wp2
  refine⟨by simp,.inl ⟨_,_,rfl,run_takeDeferred hK,?_⟩⟩;have hno:∃o:Obj,W.heap[D]?=some o∧o.isCells=false:=⟨_,hK,rfl⟩;have hg:=grownBy_putObj' W D (.deferred none);refine⟨v,?_,⟨v,rfl,rows_base (hrow.kept hg (ownsRow_apart hrow (.inr hno))) (by rw[←HN.out];omega),?_⟩⟩
  ·simp[results,Tryz.f300,go_sem]
  ·rw[←HN.out]
   exact hB1.grown hg (by omega) (fun k e=>by cases e;omega)
 case stop=>
  rintro D c pre W hD hpre h hK;exact h.elim
end Go.Proofs.YtkndlfdpmpdihaaGreatDoor
namespace Go.Proofs.YtkndlfdpmpdihaaGreatDoor
open Go.RowKit Go.Ev Go.Mv
set_option linter.unusedVariables false
set_option linter.unusedSimpArgs false
set_option maxRecDepth 100000
section
variable {M:Nat→Nat} {L:Nat→List Nat}
theorem collect238 (hM:∀i,M i<18446744073709551616) (hL:∀l,l<8→Bits (M l) (nxtN (M l) 0) (L l)) {bx:Nat} (w:World) (hT:TabW w) (hX:Blk w bx (arr8 M) 213) :
 Calls Tryz.prog 238 #[.func (.func 301) #[] #[.pointer (some ⟨bx,0,none⟩)]] w fun e w'=>∃v,e=.returned v∧w'.ownsRow w.heap.size 309 2 v (upToL L 8).length (pairCells (upToL L 8))∧Below w.heap.size w w':=by
 have h3:=callsIn_wide.1 (appendSeq_in 3 (Nat.le_refl _) hM hL w hT hX);generalize pairCells (upToL L 8)=pc at *;generalize (upToL L 8).length=len at *;go_enter Tryz.func238,Tryz.ntmps238
 go_wp2_with (go_at_call 300;fail)
 refine h3.mono ?_;rintro e w2 ⟨v,rfl,h4,h5⟩;go_wp2;refine bodyPost_ret (v:=v) ?_ rfl ⟨v,rfl,h4,h5⟩;simp[results,Tryz.results238,go_sem]
theorem all173 (hM:∀i,M i<18446744073709551616) (hL:∀l,l<8→Bits (M l) (nxtN (M l) 0) (L l)) (w:World) (hT:TabW w) :
 Calls Tryz.prog 173 #[.agg (arr8 M)] w fun e w'=>∃v,e=.returned v∧w'.ownsRow w.heap.size 309 2 v (upToL L 8).length (pairCells (upToL L 8))∧Below w.heap.size w w':=by
 have hX:=Blk.new w (arr8 M) 213;have hB:Below w.heap.size w (w.alloc (.cells (arr8 M) 213)):=(Below.refl _ w).alloc (Nat.le_refl _) _;have hE:=callsIn_wide.1 (each_at M 3 (w.alloc (.cells (arr8 M) 213)));have hB2:Below w.heap.size w ((w.alloc (.cells (arr8 M) 213)).alloc (.cells (arr8 M) 213)):=hB.alloc (by simp) _
 have hX2:Blk ((w.alloc (.cells (arr8 M) 213)).alloc (.cells (arr8 M) 213)) (w.heap.size+1) (arr8 M) 213:=by
  have:=Blk.new (w.alloc (.cells (arr8 M) 213)) (arr8 M) 213;simpa using this
 have hT2:TabW ((w.alloc (.cells (arr8 M) 213)).alloc (.cells (arr8 M) 213)):=hT.keep (hB2.block _ hT.lt);have hC:=collect238 hM hL _ hT2 hX2;generalize pairCells (upToL L 8)=pc at *;generalize (upToL L 8).length=len at *;rw[World.size_alloc] at hE;unfold arr8 at hX hB hE hB2 hX2 hC ⊢;go_enter Tryz.func173,Tryz.ntmps173;have c0:(w.alloc (.cells #[.int .u64 (M 0),.int .u64 (M 1),.int .u64 (M 2),.int .u64 (M 3),.int .u64 (M 4),.int .u64 (M 5),.int .u64 (M 6),.int .u64 (M 7)] 213)).cell? ⟨w.heap.size,0,none⟩=some (.int .u64 (M 0)):=hX.cell 0 rfl;have c1:(w.alloc (.cells #[.int .u64 (M 0),.int .u64 (M 1),.int .u64 (M 2),.int .u64 (M 3),.int .u64 (M 4),.int .u64 (M 5),.int .u64 (M 6),.int .u64 (M 7)] 213)).cell? ⟨w.heap.size,1,none⟩=some (.int .u64 (M 1)):=hX.cell 1 rfl;have c2:(w.alloc (.cells #[.int .u64 (M 0),.int .u64 (M 1),.int .u64 (M 2),.int .u64 (M 3),.int .u64 (M 4),.int .u64 (M 5),.int .u64 (M 6),.int .u64 (M 7)] 213)).cell? ⟨w.heap.size,2,none⟩=some (.int .u64 (M 2)):=hX.cell 2 rfl;have c3:(w.alloc (.cells #[.int .u64 (M 0),.int .u64 (M 1),.int .u64 (M 2),.int .u64 (M 3),.int .u64 (M 4),.int .u64 (M 5),.int .u64 (M 6),.int .u64 (M 7)] 213)).cell? ⟨w.heap.size,3,none⟩=some (.int .u64 (M 3)):=hX.cell 3 rfl;have c4:(w.alloc (.cells #[.int .u64 (M 0),.int .u64 (M 1),.int .u64 (M 2),.int .u64 (M 3),.int .u64 (M 4),.int .u64 (M 5),.int .u64 (M 6),.int .u64 (M 7)] 213)).cell? ⟨w.heap.size,4,none⟩=some (.int .u64 (M 4)):=hX.cell 4 rfl;have c5:(w.alloc (.cells #[.int .u64 (M 0),.int .u64 (M 1),.int .u64 (M 2),.int .u64 (M 3),.int .u64 (M 4),.int .u64 (M 5),.int .u64 (M 6),.int .u64 (M 7)] 213)).cell? ⟨w.heap.size,5,none⟩=some (.int .u64 (M 5)):=hX.cell 5 rfl;have c6:(w.alloc (.cells #[.int .u64 (M 0),.int .u64 (M 1),.int .u64 (M 2),.int .u64 (M 3),.int .u64 (M 4),.int .u64 (M 5),.int .u64 (M 6),.int .u64 (M 7)] 213)).cell? ⟨w.heap.size,6,none⟩=some (.int .u64 (M 6)):=hX.cell 6 rfl;have c7:(w.alloc (.cells #[.int .u64 (M 0),.int .u64 (M 1),.int .u64 (M 2),.int .u64 (M 3),.int .u64 (M 4),.int .u64 (M 5),.int .u64 (M 6),.int .u64 (M 7)] 213)).cell? ⟨w.heap.size,7,none⟩=some (.int .u64 (M 7)):=hX.cell 7 rfl
 go_wp2_with (go_at_call 239;fail)
 refine hE.mono ?_;rintro e w1 ⟨rfl,rfl⟩
 go_wp2_with (go_at_call 238;fail)
 refine hC.mono ?_;rintro e w2 ⟨v,rfl,h4,h5⟩;go_wp2;refine bodyPost_ret (v:=v) ?_ rfl ⟨v,rfl,rows_base h4 (by simp;omega),hB2.trans (h5.mono (by simp;omega))⟩;simp[results,Tryz.results173,go_sem]
end
theorem info219:(Tryz.prog.info? 219).map (fun i=>(i.zero,i.size,i.bytes))=some (some (.agg #[.int .i64 0,.int .i64 0]),2,16):=by kernel_rfl
theorem under216:Tryz.prog.underlying 216=some (.slice 219):=by kernel_rfl
def keyCells (ks:List (Int×Int)):List Value:=ks.flatMap fun k=>[.int .i64 k.1,.int .i64 k.2]
theorem keyCells_snoc (ks:List (Int×Int)) (k:Int×Int):keyCells (ks++[k])=keyCells ks++[.int .i64 k.1,.int .i64 k.2]:=by
 unfold keyCells;simp
noncomputable def placesL (ls:Int×Int→List Nat) (L:Nat→List Nat):List (Int×Int):=
 (if ls (-1,0)=[] then[] else[(-1,0)])++(upToL L 8).map (fun x=>((x.1:Int),(x.2:Int)))++(if ls (8,0)=[] then[] else[(8,0)])
theorem len_list {C:CS} {ls:Int×Int→List Nat} {room:Nat} (h:ChainOk C ls room) (k:Int×Int):(hd0 (C.head k)).n=((ls k).length:Int):=by
 rw[h.head k];split
 ·rename_i e
  rw[e];rfl
 ·rfl
theorem pair_cells {ys:List (Nat×Nat)} {i:Nat} (hi:i<ys.length):(pairCells ys)[i*2]?=some (.int .i64 (ys[i].1:Int))∧(pairCells ys)[i*2+1]?=some (.int .i64 (ys[i].2:Int)):=by
 induction ys generalizing i with
 |nil=>simp at hi
 |cons a l ih=>
   cases i with
   |zero=>exact⟨rfl,rfl⟩
   |succ i=>
     have:=ih (i:=i) (by simpa using hi);unfold pairCells at this ⊢;simp only[List.flatMap_cons,List.getElem_cons_succ];rw[show (i+1)*2=i*2+2 by omega];exact this
theorem two_new (w:World) (t:TypeId) (a b:Value):∀j u,[a,b][j]?=some u→(w.alloc (.cells #[a,b] t)).cell? ((⟨w.heap.size,0,none⟩:Addr).add j)=some u:=by
 intro j u hj;have hX:=Blk.new w #[a,b] t
 match j,hj with
 | 0,hj=>
   simp at hj;subst hj;exact hX.cell 0 rfl
 | 1,hj=>
   simp at hj;subst hj;exact hX.cell 1 rfl
 |j+2,hj=>simp at hj
theorem two_ok (a b:Int):∀u∈[Value.int .i64 a,Value.int .i64 b],u.oneCell'=true:=by
 intro u hu;simp at hu
 rcases hu with rfl|rfl<;>rfl
theorem tch_below9 {X:Nat→Prop} {n:Nat} {w w':World} (h:Tch X w w') (hn:n≤w.heap.size) (hx:∀k,X k→n≤k):Below n w w':=
 ⟨h.os,h.tape,h.output,h.size,fun k hk=>h.block k (by omega) (fun e=>by have:=hx k e;omega)⟩
section
variable {B:WB} {S:WS} {ls:Int×Int→List Nat} {w:World}
set_option maxHeartbeats 4000000 in
theorem places107 (h:WheelAt B S w) (hok:WOk B S ls) (hT:TabW w) {L:Nat→List Nat} (hL:∀l,l<8→Bits (S.m l) (nxtN (S.m l) 0) (L l)) :
 Calls Tryz.prog 107 #[.pointer (some ⟨B.b,0,none⟩)] w fun e w'=>∃v,e=.returned v∧w'.ownsRow w.heap.size 219 2 v (placesL ls L).length (keyCells (placesL ls L))∧Below w.heap.size w w':=by
 obtain⟨i0,hi,hz0,hz1,hz2⟩:=info_parts info219;have hlw:=h.lt;have hle:=upToL_le hok.m hL 8 (Nat.le_refl _);have c1:∀x:WX w,x.w.cell? ⟨B.b,1,none⟩=some (.pointer (some ⟨B.c.b,0,none⟩)):=h.blk.wx 1 rfl
 have hln:∀k W,Below w.heap.size w W→Calls Tryz.prog 171 #[.pointer (some ⟨B.c.b,0,none⟩),.agg #[.int .i64 k.1,.int .i64 k.2]] W fun e w'=>e=.returned (.int .i64 ((ls k).length:Nat))∧Below W.heap.size W w':=fun k W hW=>by
  rw[←len_list hok.ch k];exact len_of (h.chain.below hW hlw.2.2) k.1 k.2
 have hlate:=hln (-1,0);have hfar:=hln (8,0);clear hln;go_enter Tryz.func107,Tryz.ntmps107;go_wp2;refine wp_region_grown (by kernel_rfl) (by kernel_rfl) ?_
 repeat (go_big_quiet_step (first|(go_at_call 172;exact WX.of (late_at _))|(go_at_call 171;exact WX.of (hlate _ (by first|assumption|exact WX.h _)))))
 refine wpQuiet_nil ?_;intro w2 hb2;rename_i K1 a1 K0 a0;obtain⟨n0,hn0⟩:∃n0,n0=w.heap.size:=⟨_,rfl⟩
 have hz2w:n0≤w2.heap.size:=by rw[hn0];exact hb2.size
 obtain⟨nl,hnl⟩:∃nl,nl=(ls (-1,0)).length:=⟨_,rfl⟩;rw[←hnl];rw[←hn0] at hb2
 have hll:ls (-1,0)=[]↔nl=0:=by rw[hnl,List.length_eq_zero_iff]
 have HL:=Lib.hid hll;clear hnl hll
 have hn0l:B.b<n0:=by rw[hn0];exact hlw.1
 have hn02:2<n0:=by rw[hn0];exact hT.lt
 have HN0:=Lib.hid hn0;clear hn0
 have key:∀(P0:List (Int×Int)) (V0:Value) (w4:World) (u11 u12 u13 u14 u15 u16:Value),w4.ownsRow n0 219 2 V0 P0.length (keyCells P0)→Below n0 w w4→n0≤w4.heap.size→P0=(if ls (-1,0)=[] then[] else[(-1,0)])→K1 { tmps:=#[.pointer (some ⟨B.b,0,none⟩),undef,.slice none 0 0,V0,undef,undef,.pointer (some ⟨B.b,0,none⟩),.pointer (some ⟨B.b,0,none⟩),.pointer (some ⟨B.b,1,none⟩),.pointer (some ⟨B.c.b,0,none⟩),.agg #[.int .i64 (-1),.int .i64 0],u11,u12,u13,u14,u15,u16,undef,undef,undef,undef,undef,undef,undef,undef,undef,undef,undef,undef,undef,undef,undef,undef,undef,undef,undef,undef,undef,undef,undef,undef,undef,undef,undef,undef,undef,undef,undef],defers:=[] } w4:=by
  intro P0 V0 w4 u11 u12 u13 u14 u15 u16 hrow4 hB4 hz4 hP0;have HP:=Lib.hid hP0;have HR4:=Lib.hid hrow4
  have hlen0:P0.length≤1:=by
   rw[hP0]
   split<;>simp
  clear hP0 hrow4 hlate;refine a1 _ _ ?_;clear a1
  have hBw:Below w.heap.size w w4:=by rw[←HN0.out];exact hB4
  have hX:=h.blk.below hBw hlw.1;have m0:w4.cell? ⟨B.b,2,none⟩=some (.int .u64 (S.m 0)):=hX.cell 2 rfl;have m1:w4.cell? ⟨B.b,3,none⟩=some (.int .u64 (S.m 1)):=hX.cell 3 rfl;have m2:w4.cell? ⟨B.b,4,none⟩=some (.int .u64 (S.m 2)):=hX.cell 4 rfl;have m3:w4.cell? ⟨B.b,5,none⟩=some (.int .u64 (S.m 3)):=hX.cell 5 rfl;have m4:w4.cell? ⟨B.b,6,none⟩=some (.int .u64 (S.m 4)):=hX.cell 6 rfl;have m5:w4.cell? ⟨B.b,7,none⟩=some (.int .u64 (S.m 5)):=hX.cell 7 rfl;have m6:w4.cell? ⟨B.b,8,none⟩=some (.int .u64 (S.m 6)):=hX.cell 8 rfl;have m7:w4.cell? ⟨B.b,9,none⟩=some (.int .u64 (S.m 7)):=hX.cell 9 rfl;have hal:=all173 hok.m hL w4 (hT.keep (hBw.block _ hT.lt));unfold arr8 at hal
  go_wp2_with (go_at_call 173;fail)
  refine hal.mono ?_;rintro e w5 ⟨va,rfl,hva,hb5⟩;clear m0 m1 m2 m3 m4 m5 m6 m7 hal hX;have hr5:w5.ownsRow n0 219 2 V0 P0.length (keyCells P0):=rows_tch HR4.out (Tch.of_below (S:=fun _=>False) hb5) (fun k e=>e.elim);have hB5:Below n0 w w5:=hB4.trans (hb5.mono hz4);have hz5:n0≤w5.heap.size:=Nat.le_trans hz4 hb5.size;obtain⟨N,hN⟩:∃N,N=(upToL L 8).length:=⟨_,rfl⟩;rw[←hN] at hva hle
  obtain⟨pa,ca,hvae,hva0⟩:∃(pa:Option Addr) (ca:Nat),va=.slice pa N ca∧∀i,i<N→∃g x cur,pa=some ⟨g,0,none⟩∧w5.heap[g]?=some (.cells cur 309 (0,0))∧(upToL L 8)[i]?=some x∧cur[i*2]?=some (.int .i64 (x.1:Int))∧cur[i*2+1]?=some (.int .i64 (x.2:Int)):=by
   rcases hva.2 with⟨rfl,h0⟩|⟨g,cap,cur,rfl,hb,hgb,_,_,hcs,htk⟩
   ·exact⟨none,0,by rw[h0],fun i hi=>by omega⟩
   ·refine⟨some ⟨g,0,none⟩,cap,rfl,fun i hi=>?_⟩
    have hil:i<(upToL L 8).length:=by omega
    obtain⟨p1,p2⟩:=pair_cells hil
    have hcu:∀j u,(pairCells (upToL L 8))[j]?=some u→cur[j]?=some u:=fun j u hj=>by
     have hlt:j<N*2:=by
      have:=(List.getElem?_eq_some_iff.1 hj).1;rw[pairCells_len] at this;omega
     rw[←htk,List.getElem?_take_of_lt hlt] at hj;simpa using hj
    exact⟨g,_,cur,rfl,hgb,List.getElem?_eq_getElem hil,hcu _ _ p1,hcu _ _ p2⟩
  subst hvae;have HV:=Lib.hid hva0;have HRR:=Lib.hid hr5;clear hva0 hr5 hva HR4;have HNN:=Lib.hid hN;clear hN;go_wp2
  go_loopg [3,23] N (fun g v i wr=>∃k:Nat,k≤N∧g=N-k∧i=.int .i64 (k:Int)∧wr.ownsRow n0 219 2 v (P0.length+k) (keyCells (P0++((upToL L 8).take k).map (fun x=>((x.1:Int),(x.2:Int)))))∧Below n0 w wr∧n0≤wr.heap.size∧∀g cur,pa=some ⟨g,0,none⟩→w5.heap[g]?=some (.cells cur 309 (0,0))→wr.heap[g]?=some (.cells cur 309 (0,0)))
  case atStart=>exact⟨0,by omega,rfl,rfl,by simpa using HRR.out,hB5,hz5,fun g cur _ h=>h⟩
  case round=>
   obtain⟨k,hk,hg,rfl,hrow,hB,hz,hkp⟩:=hrel;have HR6:=Lib.hid hrow;have HKP:=Lib.hid hkp;clear hrow hkp
   by_cases hlt:k<N
   ·obtain⟨ga,x,cur,rfl,hcur,hx,q1,q2⟩:=HV.out k hlt
    have hga:=HKP.out ga cur rfl hcur;have c1:wr.cell? ⟨ga,k*2,none⟩=some (.int .i64 (x.1:Int)):=Blk.cell hga (k*2) q1;have c2:wr.cell? ⟨ga,k*2+1,none⟩=some (.int .i64 (x.2:Int)):=Blk.cell hga (k*2+1) q2;have HG:=Lib.hid hga;clear hga q1 q2 hcur
    go_wp2_with (at_builtin;refine wpList_append_own _ rfl (.tmp 27) (.tmp 33) 216 rfl n0 219 i0 (.agg #[.int .i64 0,.int .i64 0]) 2 16 under216 hi hz0 hz1 hz2 rfl (by decide) _ _ _ rfl ((HR6.out.alloc _).alloc _) ⟨wr.heap.size+1,0,none⟩ 1 1 [.int .i64 (x.1:Int),.int .i64 (x.2:Int)] rfl rfl ?c1 (two_ok _ _) (by unfold maxLen;omega) (by omega) (by simp;omega) ?_)
    case c1=>
     have:=two_new (wr.alloc (Obj.cells #[.int .i64 (x.1:Int),.int .i64 (x.2:Int)] 309)) 219 (.int .i64 (x.1:Int)) (.int .i64 (x.2:Int));simpa using this
    intro v1 w7 hown1 hg1 _;have hrl:=((HR6.out.alloc (Obj.cells #[.int .i64 (x.1:Int),.int .i64 (x.2:Int)] 309)).alloc (Obj.cells #[.int .i64 (x.1:Int),.int .i64 (x.2:Int)] 219)).lt;have hBa:Below wr.heap.size wr ((wr.alloc (Obj.cells #[.int .i64 (x.1:Int),.int .i64 (x.2:Int)] 309)).alloc (Obj.cells #[.int .i64 (x.1:Int),.int .i64 (x.2:Int)] 219)):=((Below.refl _ wr).alloc (Nat.le_refl _) _).alloc (by simp) _;have hT7:Tch (fun r=>n0≤r) wr w7:=((Tch.of_below hBa).mono fun r e=>e).trans (tch_grown hg1 (fun r e=>(hrl r e).1));have hB7:Below n0 w w7:=hB.trans (tch_below9 hT7 hz (fun k e=>e));have hz7:n0≤w7.heap.size:=Nat.le_trans hz hT7.size
    have hkp7:∀g cur',(some (⟨ga,0,none⟩:Addr))=some ⟨g,0,none⟩→w5.heap[g]?=some (.cells cur' 309 (0,0))→w7.heap[g]?=some (.cells cur' 309 (0,0)):=by
     intro g cur' hge hc;have h6:=HKP.out g cur' hge hc;have hgl:=(Array.getElem?_eq_some_iff.1 h6).1;have h6a:((wr.alloc (Obj.cells #[.int .i64 (x.1:Int),.int .i64 (x.2:Int)] 309)).alloc (Obj.cells #[.int .i64 (x.1:Int),.int .i64 (x.2:Int)] 219)).heap[g]?=some (.cells cur' 309 (0,0)):=(hBa.block g hgl).trans h6;refine(hg1.block g (Array.getElem?_eq_some_iff.1 h6a).1 (fun e=>?_)).trans h6a;rcases ((HR6.out.alloc (Obj.cells #[.int .i64 (x.1:Int),.int .i64 (x.2:Int)] 309)).alloc (Obj.cells #[.int .i64 (x.1:Int),.int .i64 (x.2:Int)] 219)).2 with⟨e2,_⟩|⟨g2,cap2,cur2,e2,_,hgb2,_⟩
     ·rw[e2] at e;cases e
     ·rw[e2] at e
      have:g=g2:=by simpa[Value.ownBlock] using e
      subst this;rw[h6a] at hgb2;cases hgb2
    have hrow7:w7.ownsRow n0 219 2 v1 (P0.length+(k+1)) (keyCells (P0++((upToL L 8).take (k+1)).map (fun x=>((x.1:Int),(x.2:Int))))):=by
     rw[List.take_add_one,hx,Option.toList_some,List.map_append,←List.append_assoc,List.map_singleton,keyCells_snoc];have h7:=hown1;simpa[List.map_take,Nat.add_assoc] using h7
    have HO7:=Lib.hid hrow7;have HK7:=Lib.hid hkp7;clear hrow7 hkp7 hown1 hg1 hrl hBa hT7;go_wp2
    go_roundg (N-(k+1))
    case measure=>rw[hg];exact Nat.sub_lt_sub_left hlt (Nat.lt_succ_self k)
    case rel=>exact⟨k+1,by omega,rfl,by simp,HO7.out,hB7,hz7,HK7.out⟩
   ·have hkN:k=N:=by omega
    subst hkN
    have htk:(upToL L 8).take k=upToL L 8:=by rw[HNN.out,List.take_length]
    have hrow8:=HR6.out;rw[htk] at hrow8;have HR8:=Lib.hid hrow8;clear hrow8 htk;obtain⟨K8,hK8⟩:∃K8,K8=P0++(upToL L 8).map (fun x=>((x.1:Int),(x.2:Int))):=⟨_,rfl⟩
    have hr8:wr.ownsRow n0 219 2 u3 K8.length (keyCells K8):=by
     rw[hK8,List.length_append,List.length_map,←HNN.out];exact HR8.out
    have HR9:=Lib.hid hr8
    have hPL:placesL ls L=K8++(if ls (8,0)=[] then[] else[(8,0)]):=by rw[hK8];unfold placesL;rw[←HP.out]
    have hK8l:K8.length≤513:=by rw[hK8,List.length_append,List.length_map,←HNN.out];omega
    have HPL:=Lib.hid hPL;clear hK8 hr8 hPL
    have hBw9:Below w.heap.size w wr:=by rw[←HN0.out];exact hB
    have c1:∀y:WX wr,y.w.cell? ⟨B.b,1,none⟩=some (.pointer (some ⟨B.c.b,0,none⟩)):=(h.blk.below hBw9 hlw.1).wx 1 rfl;have hfar9:∀W,Below wr.heap.size wr W→Calls Tryz.prog 171 #[.pointer (some ⟨B.c.b,0,none⟩),.agg #[.int .i64 8,.int .i64 0]] W fun e w'=>e=.returned (.int .i64 ((ls (8,0)).length:Nat))∧Below W.heap.size W w':=fun W hW=>hfar W (hBw9.trans (hW.mono hBw9.size));obtain⟨nf,hnf⟩:∃nf,nf=(ls (8,0)).length:=⟨_,rfl⟩;rw[←hnf] at hfar9
    have hff:ls (8,0)=[]↔nf=0:=by rw[hnf,List.length_eq_zero_iff]
    have HF:=Lib.hid hff;clear hff hnf hfar;go_wp2;refine wp_region_grown (by kernel_rfl) (by kernel_rfl) ?_
    repeat (go_big_quiet_step (first|(go_at_call 174;exact WX.of (far_at _))|(go_at_call 171;exact WX.of (hfar9 _ (by first|assumption|exact WX.h _)))))
    refine wpQuiet_nil ?_;intro wf hbf;have hrf:wf.ownsRow n0 219 2 u3 K8.length (keyCells K8):=rows_tch HR9.out (Tch.of_below (S:=fun _=>False) hbf) (fun k e=>e.elim);have hzf:n0≤wf.heap.size:=Nat.le_trans hz hbf.size;have hBf:Below n0 w wf:=hB.trans (hbf.mono hz);have HRF:=Lib.hid hrf;clear hrf c1 hfar9
    by_cases h9:nf=0
    ·subst h9
     have hfz:ls (8,0)=[]:=HF.out.2 rfl;have hpl:=HPL.out;rw[if_pos hfz,List.append_nil] at hpl;have HPZ:=Lib.hid hpl;clear HF HPL hfz hpl;go_wp2;refine bodyPost_ret (v:=u3) ?_ rfl ⟨u3,rfl,by rw[HPZ.out,←HN0.out];exact HRF.out,by rw[←HN0.out];exact hBf⟩;simp[results,Tryz.results107,go_sem]
    ·have hpos:0<nf:=by omega
     have hfz:ls (8,0)≠[]:=fun e=>h9 (HF.out.1 e);have hpl:=HPL.out;rw[if_neg hfz] at hpl;have HPZ:=Lib.hid hpl;clear HF HPL hfz hpl h9
     go_wp2_with (go_at_call 174;fail)
     refine(far_at _).mono ?_;rintro e wg ⟨rfl,hbg⟩;have hrg:wg.ownsRow n0 219 2 u3 K8.length (keyCells K8):=rows_tch HRF.out (Tch.of_below (S:=fun _=>False) hbg) (fun k e=>e.elim);have hzg:n0≤wg.heap.size:=Nat.le_trans hzf hbg.size;have hBg:Below n0 w wg:=hBf.trans (hbg.mono hzf);have HRG:=Lib.hid hrg;clear hrg
     go_wp2_with (at_builtin;refine wpList_append_own _ rfl (.tmp 43) (.tmp 45) 216 rfl n0 219 i0 (.agg #[.int .i64 0,.int .i64 0]) 2 16 under216 hi hz0 hz1 hz2 rfl (by decide) _ _ _ rfl (HRG.out.alloc _) ⟨wg.heap.size,0,none⟩ 1 1 [.int .i64 8,.int .i64 0] rfl rfl (two_new wg 219 _ _) (two_ok _ _) (by unfold maxLen;omega) (by omega) (by simp;omega) ?_)
     intro v1 wh hown1 hg1 _;have hTh:Tch (fun r=>n0≤r) wg wh:=(Tch.of_below ((Below.refl _ wg).alloc (Nat.le_refl _) (Obj.cells #[.int .i64 8,.int .i64 0] 219))).trans (tch_grown hg1 (fun r e=>((HRG.out.alloc (Obj.cells #[.int .i64 8,.int .i64 0] 219)).lt r e).1));have hBh:Below n0 w wh:=hBg.trans (tch_below9 hTh hzg (fun k e=>e));have HOH:=Lib.hid hown1;clear hown1 hg1 hTh;go_wp2;refine bodyPost_ret (v:=v1) ?_ rfl ⟨v1,rfl,?_,by rw[←HN0.out];exact hBh⟩
     ·simp[results,Tryz.results107,go_sem]
     ·rw[HPZ.out,List.length_append,keyCells_snoc,←HN0.out]
      exact HOH.out
 clear a1 hlate
 by_cases h0:nl=0
 ·subst h0
  have hlz:ls (-1,0)=[]:=HL.out.2 rfl;have hk:=key [] (.slice none 0 0) w2;rw[if_pos hlz] at hk;clear HL key hlz;go_wp2;exact hk _ _ _ _ _ _ (World.ownsRow_nil w2 n0 219 2) hb2 hz2w trivial
 ·have hpos:0<nl:=by omega
  have hlz:ls (-1,0)≠[]:=fun e=>h0 (HL.out.1 e);have hk:=fun V0 w4=>key [(-1,0)] V0 w4;rw[if_neg hlz] at hk;clear HL key hlz h0;have HKK:=Lib.hid hk;clear hk
  go_wp2_with (go_at_call 172;fail)
  refine(late_at _).mono ?_;rintro e w3 ⟨rfl,hb3⟩;have hn3:=World.ownsRow_nil w3 n0 219 2;have HR:=Lib.hid hn3;have hz3:n0≤w3.heap.size:=Nat.le_trans hz2w hb3.size;have hB3:Below n0 w w3:=hb2.trans (hb3.mono hz2w);clear hn3
  go_wp2_with (at_builtin;refine wpList_append_own _ rfl (.tmp 13) (.tmp 15) 216 rfl n0 219 i0 (.agg #[.int .i64 0,.int .i64 0]) 2 16 under216 hi hz0 hz1 hz2 rfl (by decide) _ _ _ rfl (HR.out.alloc _) ⟨w3.heap.size,0,none⟩ 1 1 [.int .i64 (-1),.int .i64 0] rfl rfl (two_new w3 219 _ _) (two_ok _ _) (by decide) (by decide) (by simp;omega) ?_)
  intro v1 w4 hown1 hg1 _
  obtain⟨g1,cap1,rfl⟩:∃g cap,v1=.slice (some ⟨g,0,none⟩) (0+1) cap:=by
   rcases hown1.2 with⟨_,h0⟩|⟨g,cap,cur,e,_⟩
   ·exact absurd h0 (by omega)
   ·exact⟨g,cap,e⟩
  have hT4:Tch (fun r=>n0≤r) w3 w4:=(Tch.of_below ((Below.refl _ w3).alloc (Nat.le_refl _) (Obj.cells #[.int .i64 (-1),.int .i64 0] 219))).trans (tch_grown hg1 (fun r e=>((HR.out.alloc (Obj.cells #[.int .i64 (-1),.int .i64 0] 219)).lt r e).1));have hB4:Below n0 w w4:=hB3.trans (tch_below9 hT4 hz3 (fun k e=>e));have hz4:n0≤w4.heap.size:=Nat.le_trans hz3 hT4.size;have HO:=Lib.hid hown1;clear hown1 hg1;go_wp2;exact HKK.out _ _ _ _ _ _ _ _ (by simpa[keyCells] using HO.out) hB4 hz4 trivial
end
theorem WMid.congr {B:WB} {S:WS} {ls ls':Int×Int→List Nat} {b:Nat} {M M':Nat→Prop} (h:WMid B S ls b M) (hl:∀k,ls' k=ls k) (hM:∀x,M' x↔M x):WMid B S ls' b M':=by
 have e1:ls'=ls:=funext hl;have e2:M'=M:=funext fun x=>propext (hM x);rw[e1,e2];exact h
theorem keyLt_irrefl (k:Int×Int):¬keyLt k k:=by
 rintro (h|⟨_,h⟩)<;>omega
section
variable {B:WB} {S:WS} {ls:Int×Int→List Nat} {b:Nat} {M:Nat→Prop} {L:Nat→List Nat}
theorem mem_upToL (L:Nat→List Nat) (n:Nat) (x:Nat×Nat):x∈upToL L n↔x.1<n∧x.2∈L x.1:=by
 unfold upToL;rw[List.mem_flatMap];constructor
 ·rintro ⟨l,hl,hx⟩
  obtain⟨s,hs,rfl⟩:=List.mem_map.1 hx;exact⟨List.mem_range.1 hl,hs⟩
 ·rintro ⟨h1,h2⟩
  exact⟨x.1,List.mem_range.2 h1,List.mem_map.2 ⟨x.2,h2,rfl⟩⟩
theorem WMid.bitL (h:WMid B S ls b M) (hL:∀l,l<8→Bits (S.m l) (nxtN (S.m l) 0) (L l)) {l s:Nat} (hl:l<8):s∈L l↔s<64∧ls ((l:Int),(s:Int))≠[]:=by
 rw[(bits_mem (S.m l) (h.ok.m l) (L l) 0 (by omega) (hL l hl)).1 s];constructor
 ·rintro ⟨_,h1,h2⟩
  exact⟨h1,(h.bits l s hl h1).1 h2⟩
 ·rintro ⟨h1,h2⟩
  exact⟨Nat.zero_le _,h1,(h.bits l s hl h1).2 h2⟩
theorem WMid.mem_places (h:WMid B S ls b M) (hL:∀l,l<8→Bits (S.m l) (nxtN (S.m l) 0) (L l)) (k:Int×Int):k∈placesL ls L↔ls k≠[]:=by
 unfold placesL;rw[List.mem_append,List.mem_append];constructor
 ·rintro ((hk|hk)|hk)
  ·split at hk
   ·cases hk
   ·rw[List.mem_singleton] at hk;subst hk;assumption
  ·obtain⟨x,hx,rfl⟩:=List.mem_map.1 hk
   obtain⟨h1,h2⟩:=(mem_upToL L 8 x).1 hx;exact((h.bitL hL h1).1 h2).2
  ·split at hk
   ·cases hk
   ·rw[List.mem_singleton] at hk;subst hk;assumption
 ·intro hk
  cases hl:ls k with
  |nil=>exact absurd hl hk
  |cons a l=>
    obtain⟨t,_,hp⟩:=h.pl k a (by rw[hl];simp)
    cases hp with
    |late=>exact .inl (.inl (by rw[if_neg hk];simp))
    |far=>exact .inr (by rw[if_neg hk];simp)
    |slot l' hl' _ _ _=>
      have hs:t.d/64^l'%64<64:=Nat.mod_lt _ (by omega);exact .inl (.inr (List.mem_map.2 ⟨(l',t.d/64^l'%64),(mem_upToL L 8 _).2 ⟨hl',(h.bitL hL hl').2 ⟨hs,hk⟩⟩,rfl⟩))
theorem upToL_sorted (hs:∀l,l<8→(L l).Pairwise (· < ·)):∀n,n≤8→(upToL L n).Pairwise fun x y=>x.1<y.1∨(x.1=y.1∧x.2<y.2):=by
 intro n
 induction n with
 |zero=>intro _;simp[upToL]
 |succ n ih=>
   intro hn;rw[upToL_succ,List.pairwise_append];refine⟨ih (by omega),?_,fun x hx y hy=>?_⟩
   ·rw[List.pairwise_map]
    exact(hs n (by omega)).imp fun h=>.inr ⟨rfl,h⟩
   ·obtain⟨h1,_⟩:=(mem_upToL L n x).1 hx
    obtain⟨s,_,rfl⟩:=List.mem_map.1 hy;exact .inl h1
theorem WMid.sorted (h:WMid B S ls b M) (hL:∀l,l<8→Bits (S.m l) (nxtN (S.m l) 0) (L l)):(placesL ls L).Pairwise keyLt:=by
 have hs:∀l,l<8→(L l).Pairwise (· < ·):=fun l hl=>(bits_mem (S.m l) (h.ok.m l) (L l) 0 (by omega) (hL l hl)).2;unfold placesL;rw[List.pairwise_append,List.pairwise_append];refine⟨⟨?_,?_,?_⟩,?_,?_⟩
 ·split<;>simp
 ·rw[List.pairwise_map]
  refine(upToL_sorted hs 8 (Nat.le_refl _)).imp fun{x y} hxy=>?_;rcases hxy with hxy|⟨h1,h2⟩
  ·exact .inl (by show (x.1:Int)<(y.1:Int);omega)
  ·exact .inr ⟨by show (x.1:Int)=(y.1:Int);omega,by show (x.2:Int)<(y.2:Int);omega⟩
 ·intro x hx y hy
  split at hx
  ·cases hx
  ·rw[List.mem_singleton] at hx
   subst hx;obtain⟨z,_,rfl⟩:=List.mem_map.1 hy;exact .inl (by show (-1:Int)<(z.1:Int);omega)
 ·split<;>simp
 ·intro x hx y hy
  split at hy
  ·cases hy
  ·rw[List.mem_singleton] at hy
   subst hy;rcases List.mem_append.1 hx with hx|hx
   ·split at hx
    ·cases hx
    ·rw[List.mem_singleton] at hx
     subst hx;exact .inl (by decide)
   ·obtain⟨z,hz,rfl⟩:=List.mem_map.1 hx
    have:=((mem_upToL L 8 z).1 hz).1;exact .inl (by show (z.1:Int)<8;omega)
structure Taken (B:WB) (S:WS) (ls:Int×Int→List Nat) (K:List (Int×Int)) (j:Nat) (S':WS):Prop where
 mid:WMid B S' (fun k=>if k∈K.take j then[] else ls k) S.base (fun x=>∃k∈K.take j,x∈ls k)
 p:S'.p=S.p
 base:S'.base=S.base
 order:S'.order=S.order
theorem Taken.zero (h:WMid B S ls S.base (fun _=>False)) (K:List (Int×Int)):Taken B S ls K 0 S:=
 ⟨h.congr (fun k=>by simp) (fun x=>by simp),rfl,rfl,rfl⟩
theorem take_mem {K:List (Int×Int)} {j:Nat} {k k':Int×Int} (hk:K[j]?=some k):k'∈K.take (j+1)↔k'∈K.take j∨k'=k:=by
 rw[List.take_add_one,hk,Option.toList_some,List.mem_append,List.mem_singleton]
theorem not_in_take {K:List (Int×Int)} (hs:K.Pairwise keyLt) {j:Nat} {k:Int×Int} (hk:K[j]?=some k):k∉K.take j:=by
 intro hm;obtain⟨i,hi,he⟩:=List.mem_iff_getElem.1 hm;rw[List.getElem_take] at he;have hj:=(List.getElem?_eq_some_iff.1 hk);obtain⟨hj1,hj2⟩:=hj
 have hij:i<j:=by simp at hi;omega
 have:=List.pairwise_iff_getElem.1 hs i j (by simp at hi;omega) hj1 hij;rw[he,hj2] at this;exact keyLt_irrefl _ this
theorem Taken.step {K:List (Int×Int)} (hs:K.Pairwise keyLt) {j:Nat} {S':WS} (h:Taken B S ls K j S') {k:Int×Int} (hk:K[j]?=some k) (hne:ls k≠[]) {C:CS}
 (hC:ChainOk C (fset (fun k=>if k∈K.take j then[] else ls k) k []) B.c.room):Taken B S ls K (j+1) { S' with c:=C,m:=leftM { S' with c:=C } k }:=by
 have hn:=not_in_take hs hk;have hlk:(if k∈K.take j then[] else ls k)=ls k:=if_neg hn;have ht:=h.mid.take (k:=k) (by rw[hlk];exact hne) hC;refine⟨ht.congr (fun k'=>?_) (fun x=>?_),h.p,h.base,h.order⟩
 ·by_cases e:k'=k
  ·subst e
   rw[fset_same,if_pos ((take_mem hk).2 (.inr rfl))]
  ·rw[fset_ne _ _ e]
   by_cases e2:k'∈K.take j
   ·rw[if_pos e2,if_pos ((take_mem hk).2 (.inl e2))]
   ·rw[if_neg e2,if_neg (fun h=>((take_mem hk).1 h).elim e2 e)]
 ·rw[hlk]
  constructor
  ·rintro ⟨k',hk',hx⟩
   rcases (take_mem hk).1 hk' with h1|rfl
   ·exact .inl ⟨k',h1,hx⟩
   ·exact .inr hx
  ·rintro (⟨k',hk',hx⟩|hx)
   ·exact⟨k',(take_mem hk).2 (.inl hk'),hx⟩
   ·exact⟨k,(take_mem hk).2 (.inr rfl),hx⟩
theorem WMid.spans (h:WMid B S ls b M) {k:Int×Int} (hk:ls k≠[]):∃f a t,Sp b k f∧a∈ls k∧S.p.ent a=some t∧Pl b t.d k∧f≤t.d:=by
 cases hl:ls k with
 |nil=>exact absurd hl hk
 |cons a l=>
   obtain⟨t,ht,hp⟩:=h.pl k a (by rw[hl];simp);obtain⟨f,hf,hle⟩:=hp.span;exact⟨f,a,t,hf,by simp,ht,hp,hle⟩
theorem Taken.rest {tt:Nat} (h0:WMid B S ls S.base (fun _=>False)) (hL:∀l,l<8→Bits (S.m l) (nxtN (S.m l) 0) (L l)) {j:Nat} {k:Int×Int} {f:Nat} (hk:(placesL ls L)[j]?=some k) (hf:Sp S.base k f) (hlt:tt<f) :
 ∀k',(if k'∈(placesL ls L).take j then[] else ls k')≠[]→∃f',Sp S.base k' f'∧tt<f':=by
 intro k' hk';have hs:=h0.sorted hL
 by_cases hm:k'∈(placesL ls L).take j
 ·rw[if_pos hm] at hk'
  exact absurd rfl hk'
 ·rw[if_neg hm] at hk'
  have hmem:=(h0.mem_places hL k').2 hk';obtain⟨i,hi,he⟩:=List.mem_iff_getElem.1 hmem;obtain⟨hj1,hj2⟩:=List.getElem?_eq_some_iff.1 hk
  by_cases hij:i<j
  ·exact absurd (List.mem_iff_getElem.2 ⟨i,by simp;omega,by rw[List.getElem_take];exact he⟩) hm
  ·by_cases hij2:i=j
   ·subst hij2
    have:k'=k:=he.symm.trans hj2;subst this;exact⟨f,hf,hlt⟩
   ·have hkl:=List.pairwise_iff_getElem.1 hs j i hj1 hi (by omega)
    rw[hj2,he] at hkl;obtain⟨f',_,_,hf',_⟩:=h0.spans hk';have hkn:ls k≠[]:=(h0.mem_places hL k).1 (List.mem_of_getElem? hk);obtain⟨f2,a,t,hf2,_,_,hp,hle⟩:=h0.spans hkn;have e:=hf.uniq hf2;subst e;exact⟨f',hf',Nat.lt_of_lt_of_le hlt (Nat.le_of_lt (Nat.lt_of_le_of_lt hle (hp.ahead hf' hkl)))⟩
theorem Taken.none {tt:Nat} (h0:WMid B S ls S.base (fun _=>False)) (hL:∀l,l<8→Bits (S.m l) (nxtN (S.m l) 0) (L l)) :
 ∀k',(if k'∈(placesL ls L).take (placesL ls L).length then[] else ls k')≠[]→∃f',Sp S.base k' f'∧tt<f':=by
 intro k' hk';rw[List.take_length] at hk'
 by_cases hm:k'∈placesL ls L
 ·rw[if_pos hm] at hk'
  exact absurd rfl hk'
 ·rw[if_neg hm] at hk'
  exact absurd ((h0.mem_places hL k').2 hk') hm
end
theorem within303 (n lo hi:Int) (w:World):Calls Tryz.prog 303 #[.int .i64 n,.int .i64 lo,.int .i64 hi] w fun e w'=>e=.returned (.bool (decide (lo≤n)&&decide (n<hi)))∧w'=w:=by
 by_cases h:lo≤n
 ·have hd:decide (lo≤n)=true:=by simp[h]
  have hg:decide (n≥lo)=true:=by simp[h]
  go_enter Tryz.func303,Tryz.ntmps303;go_wp2;refine bodyPost_ret (v:=.bool (decide (n<hi))) ?_ rfl ⟨by first|rfl|rw[hd,Bool.true_and],rfl⟩;simp[results,Tryz.results303,go_sem]
 ·have hd:decide (lo≤n)=false:=by simp;omega
  have hg:decide (n≥lo)=false:=by simp;omega
  go_enter Tryz.func303,Tryz.ntmps303;go_wp2;refine bodyPost_ret (v:=.bool false) ?_ rfl ⟨by first|rfl|rw[hd,Bool.false_and],rfl⟩;simp[results,Tryz.results303,go_sem]
theorem right_core {l s:Int} {q1 q2 q:Bool} (e1:∀w,(Op.equalIn 10000 219 (.agg #[.int .i64 l,.int .i64 s]) (.agg #[.int .i64 (-1),.int .i64 0])).run Tryz.prog w=.ok q1 w) (e2:∀w,(Op.equalIn 10000 219 (.agg #[.int .i64 l,.int .i64 s]) (.agg #[.int .i64 8,.int .i64 0])).run Tryz.prog w=.ok q2 w)
 (e3:(decide (0≤l)&&decide (l<8))=q) (e4:q=true→(decide (1≤s)&&decide (s<64))=true) (w:World):Calls Tryz.prog 240 #[.agg #[.int .i64 l,.int .i64 s]] w fun e w'=>e=.returned (.bool (q1 || q2 || q))∧Below w.heap.size w w':=by
 have hX:=Blk.new w #[.int .i64 l,.int .i64 s] 219;have hB:Below w.heap.size w (w.alloc (.cells #[.int .i64 l,.int .i64 s] 219)):=(Below.refl _ w).alloc (Nat.le_refl _) _;have c1:=fun w=>within303 l 0 8 w;have c2:=fun w=>within303 s 1 64 w;rw[e3] at c1;go_enter Tryz.func240,Tryz.ntmps240;go_wp2;generalize w.alloc (.cells #[.int .i64 l,.int .i64 s] 219)=w1 at *;have k0:∀x:WX w1,x.w.cell? ⟨w.heap.size,0,none⟩=some (.int .i64 l):=hX.wx 0 rfl;have k1:∀x:WX w1,x.w.cell? ⟨w.heap.size,1,none⟩=some (.int .i64 s):=hX.wx 1 rfl;refine wp_region_grown (by kernel_rfl) (by kernel_rfl) ?_
 repeat (go_big_quiet_step (first|(go_at_call 172;exact WX.of (late_at _))))
 refine wpQuiet_nil ?_;intro w2 hb2;have hX2:=hX.below hb2 hX.lt;have hB2:=hB.trans (hb2.mono hB.size);clear k0 k1
 cases q1 with
 |true=>
   go_wp2;refine bodyPost_ret (v:=.bool true) ?_ rfl ⟨rfl,hB2⟩;simp[results,Tryz.results240,go_sem]
 |false=>
   have k0:∀x:WX w2,x.w.cell? ⟨w.heap.size,0,none⟩=some (.int .i64 l):=hX2.wx 0 rfl;have k1:∀x:WX w2,x.w.cell? ⟨w.heap.size,1,none⟩=some (.int .i64 s):=hX2.wx 1 rfl;go_wp2;refine wp_region_grown (by kernel_rfl) (by kernel_rfl) ?_
   repeat (go_big_quiet_step (first|(go_at_call 174;exact WX.of (far_at _))))
   refine wpQuiet_nil ?_;intro w3 hb3;have hX3:=hX2.below hb3 hX2.lt;have hB3:=hB2.trans (hb3.mono (by have:=hX2.lt;have:=hB2.size;exact hB2.size));have d0:w3.cell? ⟨w.heap.size,0,none⟩=some (.int .i64 l):=hX3.cell 0 rfl;have d1:w3.cell? ⟨w.heap.size,1,none⟩=some (.int .i64 s):=hX3.cell 1 rfl;clear k0 k1
   cases q2 with
   |true=>
     go_wp2;refine bodyPost_ret (v:=.bool true) ?_ rfl ⟨rfl,hB3⟩;simp[results,Tryz.results240,go_sem]
   |false=>
     cases q with
     |true=>
       rw[e4 rfl] at c2
       go_wp2_with (go_at_call 303;fail)
       trace_state
       refine(c1 _).mono ?_;rintro e w4 ⟨rfl,rfl⟩
       go_wp2_with (go_at_call 303;fail)
       refine(c2 _).mono ?_;rintro e w4 ⟨rfl,rfl⟩;go_wp2;refine bodyPost_ret (v:=.bool true) ?_ rfl ⟨rfl,hB3⟩;simp[results,Tryz.results240,go_sem]
     |false=>
       go_wp2_with (go_at_call 303;refine(c1 _).mono ?_;rintro e w4 ⟨rfl,rfl⟩)
       refine bodyPost_ret (v:=.bool false) ?_ rfl ⟨rfl,hB3⟩;simp[results,Tryz.results240,go_sem]
theorem bvn (a:Nat) (h:a<18446744073709551616):(BitVec.ofInt 64 (a:Int)).toNat=a:=by
 rw[BitVec.toNat_ofInt];omega
theorem u64n (a:Nat) (h:a<18446744073709551616):IntKind.u64.wrap (a:Int)=a:=IntWalk.u64_in _ ⟨by omega,by omega⟩
theorem with_eq (n l s:Nat) (hs:s<64):n/2^(6*l)/2^6*2^6*2^(6*l) ||| s*2^(6*l)=n/64^(l+1)*64^(l+1)+s*64^l:=by
 have e64:∀l:Nat,64^l=2^(6*l):=fun l=>by rw[show (64:Nat)=2^6 by decide,←Nat.pow_mul]
 rw[sp_slot,e64];generalize n/2^(6*l)=x;have h:=Nat.two_pow_add_eq_or_of_lt (i:=6*l+6) (b:=s*2^(6*l)) (by rw[Nat.pow_add,Nat.mul_comm];exact Nat.mul_lt_mul_of_pos_left (by omega) (Nat.pow_pos (by omega))) (x/64)
 have e:x/2^6*2^6*2^(6*l)=2^(6*l+6)*(x/64):=by
  rw[Nat.pow_add,show (2:Nat)^6=64 by decide,Nat.mul_comm (2^(6*l)) 64,Nat.mul_assoc,Nat.mul_comm (64*2^(6*l))]
 rw[e,←h,←e,Nat.add_mul]
theorem bits_or (a b:Nat) (ha:a<18446744073709551616) (hb:b<18446744073709551616):bits BinOp.or .u64 (a:Int) (b:Int)=((a ||| b:Nat):Int):=by
 show IntKind.u64.wrap (BitVec.ofInt 64 (a:Int) ||| BitVec.ofInt 64 (b:Int)).toNat=_;rw[BitVec.toNat_or,bvn a ha,bvn b hb,u64n _ (Nat.or_lt_two_pow (n:=64) (by omega) (by omega))]
theorem bits_and (a b:Nat) (ha:a<18446744073709551616) (hb:b<18446744073709551616):bits BinOp.and .u64 (a:Int) (b:Int)=((a &&& b:Nat):Int):=by
 show IntKind.u64.wrap (BitVec.ofInt 64 (a:Int) &&& BitVec.ofInt 64 (b:Int)).toNat=_;rw[BitVec.toNat_and,bvn a ha,bvn b hb,u64n _ (Nat.lt_of_le_of_lt Nat.and_le_left ha)]
theorem with_bits (n l s m:Nat) (hn:n<18446744073709551616) (hl:l<8) (hs:s<64) (hm:m=6*l) :
 bits BinOp.or .u64 (IntKind.u64.wrap (IntKind.u64.wrap ((n:Int)/2^m/64*64)*2^m)) (IntKind.u64.wrap (bits BinOp.and .u64 (s:Int) 63*2^m))=((n/64^(l+1)*64^(l+1)+s*64^l:Nat):Int):=by
 have hw:=with_eq n l s hs;rw[←hm] at hw;have hp:2^m≤2^42:=Nat.pow_le_pow_right (by omega) (by omega);have hd:n/2^m*2^m≤n:=Nat.div_mul_le_self _ _;have hx1:n/2^m<18446744073709551616:=Nat.lt_of_le_of_lt (Nat.div_le_self _ _) hn
 have c0:(2:Int)^m=((2^m:Nat):Int):=by rw[Int.natCast_pow];rfl
 have hsm:s*2^m<18446744073709551616:=Nat.lt_of_le_of_lt (Nat.mul_le_mul (show s≤63 by omega) hp) (by decide);have hx3:n/2^m/2^6*2^6*2^m<18446744073709551616:=Nat.lt_of_le_of_lt (Nat.le_trans (Nat.mul_le_mul_right _ (by omega)) hd) hn
 have c1:(n:Int)/2^m/64*64=((n/2^m/2^6*2^6:Nat):Int):=by
  rw[c0,Int.natCast_mul,Int.natCast_ediv,Int.natCast_ediv];rfl
 have hs63:s &&& 63=s:=by
  have:∀s:Nat,s<64→s &&& 63=s:=by decide
  exact this s hs
 have c2:bits BinOp.and .u64 (s:Int) 63=(s:Int):=by
  have:=bits_and s 63 (by omega) (by omega);rw[hs63] at this;exact this
 rw[c1,c2,u64n _ (by omega),c0,←Int.natCast_mul,←Int.natCast_mul,u64n _ hx3,u64n _ hsm,bits_or _ _ hx3 hsm,hw]
set_option maxHeartbeats 1000000 in
theorem with_at (n l s:Nat) (hn:n<18446744073709551616) (hl:l<8) (hs:s<64) (w:World):Calls Tryz.prog 242 #[.int .u64 n,.int .i64 l,.int .i64 s] w fun e w'=>e=.returned (.int .u64 (n/64^(l+1)*64^(l+1)+s*64^l:Nat))∧Below w.heap.size w w':=by
 obtain⟨m,hm⟩:∃m,m=6*l:=⟨_,rfl⟩;have hw:=with_bits n l s m hn hl hs hm;generalize n/64^(l+1)*64^(l+1)+s*64^l=F at *;have HW:=Lib.hid hw
 have g1:(6:Int)*(l:Int)=(m:Int):=by omega
 have g2:IntKind.i64.wrap (m:Int)=(m:Int):=IntWalk.i64_in _ ⟨by omega,by omega⟩;have g3:IntKind.u64.wrap (s:Int)=(s:Int):=IntWalk.u64_in _ ⟨by omega,by omega⟩
 have g4:¬((l:Int)<0):=by omega
 have g5:¬((l:Int)≥8):=by omega
 clear hm hw;go_enter Tryz.func242,Tryz.ntmps242;go_wp2;refine wp_region_grown (by kernel_rfl) (by kernel_rfl) ?_
 repeat (go_big_quiet_step (fail))
 refine wpQuiet_nil ?_;intro w2 hb2;go_wp2;refine bodyPost_ret (v:=.int .u64 (F:Nat)) ?_ rfl ⟨rfl,hb2⟩;simp[results,Tryz.results242,go_sem];exact HW.out
end Go.Proofs.YtkndlfdpmpdihaaGreatDoor
