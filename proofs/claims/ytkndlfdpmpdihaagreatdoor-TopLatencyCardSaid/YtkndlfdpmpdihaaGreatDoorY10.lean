/- The pool of timers: a place is taken, or free; an entry is another one. The lowest bit of a word, from a place on. Digits of a number, and where two numbers part. A digit of a number, and the greatest level in which two numbers part. The greatest level in which two numbers part. Where a deadline bel Conditions: those that each statement shows. -/
import Derived.Test.YtkndlfdpmpdihaaGreatDoorY09
import Derived.Laws.Bits64b
import Derived.Shelf.Spec.TrailingZeros
import Derived.Laws.StructEq
import Derived.Deep.RegionWith
namespace Go.Proofs.YtkndlfdpmpdihaaGreatDoor
open Go.RowKit Go.Ev Go.Mv
set_option linter.unusedVariables false
set_option linter.unusedSimpArgs false
set_option maxRecDepth 100000
theorem blkE_one {w2:World} {rb k:Nat} {T T':TypeId} {vs:Bool→Array Value} {cs:Array Value} (hk:Blk w2 k cs T') (hne:k≠rb) (j:Nat) {v:Value} (hv:cs[j]?=some v):∀x:One (BlkE w2 rb T vs false),x.w.cell? ⟨k,j,none⟩=some v:=fun x=>(x.h.other hk hne).cell j hv
theorem blkE_own {w2:World} {rb:Nat} {T:TypeId} {vs:Bool→Array Value} (j:Nat) {v:Value} (hv:(vs false)[j]?=some v):∀x:One (BlkE w2 rb T vs false),x.w.cell? ⟨rb,j,none⟩=some v:=fun x=>x.h.2.cell j hv
theorem one_ne {w2:World} {rb:Nat} {T:TypeId} {vs:Bool→Array Value} (h:Blk w2 rb (vs false) T):Nonempty (One (BlkE w2 rb T vs false))∧Nonempty (Two (BlkE w2 rb T vs)):=⟨⟨⟨w2,Tch.refl _ _,h⟩⟩,⟨⟨false,w2,Tch.refl _ _,h⟩⟩⟩
def markW (word a:Nat) (b:Bool):Nat:=if b then(word &&& (2^64-1-2^a)) ||| 2^a else word &&& (2^64-1-2^a)
theorem bits_andNot_u64 (a b:Nat) (ha:a<18446744073709551616) (hb:b<18446744073709551616):bits .andNot .u64 (a:Int) (b:Int)=((a &&& (2^64-1-b):Nat):Int):=by
 have e:bits .andNot .u64 (a:Int) (b:Int)=IntKind.u64.wrap (((BitVec.ofInt 64 (a:Int)) &&& ~~~(BitVec.ofInt 64 (b:Int))).toNat:Int):=rfl
 have ea:(BitVec.ofInt 64 (a:Int)).toNat=a:=by simp;omega
 have eb:(BitVec.ofInt 64 (b:Int)).toNat=b:=by simp;omega
 rw[e,BitVec.toNat_and,BitVec.toNat_not,ea,eb];have:a &&& (2^64-1-b)≤a:=Nat.and_le_left;exact IntWalk.u64_in _ ⟨by omega,by omega⟩
section
variable {B:PB} {S:PS} {w w':World} {a:Nat} {t:Tm}
theorem mark_at (h:PoolAt B S w) (ha:a<64) (hw:S.word<18446744073709551616) (b:Bool):Calls Tryz.prog 186 #[.pointer (some ⟨B.b,0,none⟩),.agg #[.int .i64 (a:Int)],.bool b] w fun e w'=>e=.returned (.tuple #[])∧Tch (fun r=>r=B.tb) w w'∧Blk w' B.tb #[.int .u64 (markW S.word a b:Nat)] 37:=by
 go_enter Tryz.func186,Tryz.ntmps186
 have hm:((a:Int).tmod 64)=(a:Int):=by rw[Int.tmod_eq_emod_of_nonneg (by omega)];omega
 have hq:((a:Int).tdiv 64)=0:=by rw[Int.tdiv_eq_ediv_of_nonneg (by omega)];omega
 obtain⟨bit,hbit⟩:∃bit:Nat,bit=2^a:=⟨_,rfl⟩
 have hb63:bit≤2^63:=by rw[hbit];exact Nat.pow_le_pow_right (by omega) (by omega)
 have hp:IntKind.u64.wrap ((2:Int)^a)=(bit:Int):=by
  have e:((2:Int)^a)=(bit:Int):=by rw[hbit];simp
  rw[e];exact IntWalk.u64_in _ ⟨by omega,by omega⟩
 have hbit':=Lib.hid hbit;clear hbit;go_wp2;have hBa:Below w.heap.size w (w.alloc (Obj.cells #[Value.int .i64 (a:Int)] 316)):=(Below.refl _ w).alloc (Nat.le_refl _) _;have hlw:=h.lt;have h0:=h.below hBa hlw;have hX:=Blk.new w #[Value.int .i64 (a:Int)] 316;generalize w.alloc (Obj.cells #[Value.int .i64 (a:Int)] 316)=w2 at *;have hl2:=h0.lt;have hap:=h0.apart
 let vs:Bool→Array Value:=fun b=>if b then #[Value.int .u64 (markW S.word a false:Nat)] else #[Value.int .u64 S.word]
 have hne:=one_ne (w2:=w2) (rb:=B.tb) (T:=37) (vs:=vs) h0.tk;haveI:=hne.1;haveI:=hne.2;have c1:∀x:One (BlkE w2 B.tb 37 vs false),x.w.cell? ⟨B.b,2,none⟩=some (.slice (some ⟨B.tb,0,none⟩) 1 1):=blkE_one h0.blk (by omega) 2 rfl;have c2:∀x:One (BlkE w2 B.tb 37 vs false),x.w.cell? ⟨w.heap.size,0,none⟩=some (.int .i64 (a:Int)):=blkE_one hX (by omega) 0 rfl;have c3:∀x:One (BlkE w2 B.tb 37 vs false),x.w.cell? ⟨B.tb,0,none⟩=some (.int .u64 S.word):=blkE_own 0 rfl;refine wp_region_two (BlkE w2 B.tb 37 vs) 12 (by decide) (by kernel_rfl) (by kernel_rfl) ⟨(Tch.refl _ _).drew,h0.tk⟩ ?_
 (repeat (first|(refine lexS_skip (by rfl) (by decide) ?_;simp only[Act.put,List.setIfInBounds_toArray,List.set_cons_succ,List.set_cons_zero])|(refine lexS_ewant (by rfl) (by decide) (by kernel_rfl) (by rfl) ?_;intro K hK;go_big_quiet_op;refine hK _ ?_;clear hK K)))
 rw[bits_andNot_u64 _ _ hw (by omega)]
 have em:S.word &&& (2^64-1-bit)=markW S.word a false:=by rw[hbit'.out];rfl
 have hmw:markW S.word a false≤S.word:=by rw[←em];exact Nat.and_le_left
 rw[em];refine lexS_turn (by rfl) (by rfl) undef (fun W hW=>?_) ?_
 ·have q0:=hW.2.cell 0 rfl
  have f0:=hW.2.free 0;unfold does
  go_simp
  exact⟨⟨hW.1.setCell _ (.inl rfl),hW.2.set 0 _⟩,rfl⟩
 simp only[Act.put,List.setIfInBounds_toArray,List.set_cons_succ,List.set_cons_zero];refine fun w3 hw3=>?_;have hb2:Blk w3 B.b _ 320:=(hw3.1.block _ hl2.1 (by omega)).trans h0.blk;have hX3:Blk w3 w.heap.size _ 316:=(hw3.1.block _ hX.lt (by omega)).trans hX;have hT3:Blk w3 B.tb _ 37:=hw3.2;have hF3:Tch (fun r=>r=B.tb) w w3:=(Tch.of_below hBa).trans' hw3.1 (fun _ _ h=>h)
 cases b with
 |false=>
   go_wp2
   go_end0;exact⟨rfl,hF3,hT3⟩
 |true=>
   go_wp2
   let vs':Bool→Array Value:=fun b=>if b then #[Value.int .u64 (markW S.word a true:Nat)] else #[Value.int .u64 (markW S.word a false:Nat)]
   have hne:=one_ne (w2:=w3) (rb:=B.tb) (T:=37) (vs:=vs') hT3;haveI:=hne.1;haveI:=hne.2;have c1:∀x:One (BlkE w3 B.tb 37 vs' false),x.w.cell? ⟨B.b,2,none⟩=some (.slice (some ⟨B.tb,0,none⟩) 1 1):=blkE_one hb2 (by omega) 2 rfl;have c2:∀x:One (BlkE w3 B.tb 37 vs' false),x.w.cell? ⟨w.heap.size,0,none⟩=some (.int .i64 (a:Int)):=blkE_one hX3 (by omega) 0 rfl;have c3:∀x:One (BlkE w3 B.tb 37 vs' false),x.w.cell? ⟨B.tb,0,none⟩=some (.int .u64 (markW S.word a false:Nat)):=blkE_own 0 rfl;refine wp_region_two (BlkE w3 B.tb 37 vs') 12 (by decide) (by kernel_rfl) (by kernel_rfl) ⟨(Tch.refl _ _).drew,hT3⟩ ?_
   (repeat (first|(refine lexS_skip (by rfl) (by decide) ?_;simp only[Act.put,List.setIfInBounds_toArray,List.set_cons_succ,List.set_cons_zero])|(refine lexS_ewant (by rfl) (by decide) (by kernel_rfl) (by rfl) ?_;intro K hK;go_big_quiet_op;refine hK _ ?_;clear hK K)))
   rw[bits_or_u64_nat _ _ (by omega) (by omega)]
   have em':markW S.word a false ||| bit=markW S.word a true:=by rw[hbit'.out];rfl
   rw[em'];refine lexS_turn (by rfl) (by rfl) undef (fun W hW=>?_) ?_
   ·have q0:=hW.2.cell 0 rfl
    have f0:=hW.2.free 0;unfold does
    go_simp
    exact⟨⟨hW.1.setCell _ (.inl rfl),hW.2.set 0 _⟩,rfl⟩
   simp only[Act.put,List.setIfInBounds_toArray,List.set_cons_succ,List.set_cons_zero];refine fun w4 hw4=>?_;go_wp2
   go_end0;exact⟨rfl,hF3.trans hw4.1,hw4.2⟩
end
def TabW (w:World):Prop:=∃o,w.heap[2]?=some o∧∀w':World,w'.heap[2]?=some o→TabAt 2 Lib.deBruijn64tab w'
theorem TabW.lt {w:World} (h:TabW w):2<w.heap.size:=by obtain⟨o,h,_⟩:=h;exact(Array.getElem?_eq_some_iff.1 h).1
theorem TabW.keep {w w':World} (h:TabW w) (hk:w'.heap[2]?=w.heap[2]?):TabW w':=by obtain⟨o,h1,h2⟩:=h;exact⟨o,hk.trans h1,h2⟩
theorem TabW.tch {w w':World} {S:Nat→Prop} (h:TabW w) (hb:Tch S w w') (hs:¬S 2):TabW w':=h.keep (hb.block _ h.lt hs)
theorem TabW.below {w w':World} (h:TabW w) (hb:Below w.heap.size w w'):TabW w':=h.keep (hb.block _ h.lt)
theorem tz_core (x k idx:Nat) (w:World) (h0:((x:Int)==0)=false)
 (key:IntKind.u64.wrap (bits BinOp.and IntKind.u64 (x:Int) (IntKind.u64.wrap (-(x:Int)))*285870213051353865)/288230376151711744=(idx:Int))
 (hi:idx<64) (hk:k<64) (hcell:w.cell? ⟨2,idx,none⟩=some (.int .u8 k)):Calls Tryz.prog 351 #[.int .u64 x] w fun e w'=>e=.returned (.int .i64 k)∧w'=w:=by
 go_enter Tryz.func351,Tryz.ntmps351
 go_wp2_with (simp only[key])
 go_ret
 exact⟨rfl,rfl⟩
theorem tz64_at (x:Nat) (hx:x<18446744073709551616) (hx0:x≠0) (w:World) (hT:TabW w):Calls Tryz.prog 351 #[.int .u64 x] w fun e w'=>e=.returned (.int .i64 (Lib.ctz 64 x))∧w'=w:=by
 obtain⟨hlow,hk⟩:=Lib.lowest_bit 64 x hx0 hx;obtain⟨hi,htab⟩:=Lib.deBruijn64_at _ hk;obtain⟨ob,hob,htb⟩:=hT;have hcell:=htb w hob _ hi;rw[htab] at hcell;exact tz_core x _ _ w (by simp;omega) (tz64_key x _ hx hx0 hlow) hi hk hcell
theorem mask_at (n:Nat) (hn:n<64) (w:World):Calls Tryz.prog 243 #[.int .i64 n] w fun e w'=>e=.returned (.int .u64 ((2^n-1:Nat):Int))∧w'=w:=by
 obtain⟨bit,hbit⟩:∃bit:Nat,bit=2^n:=⟨_,rfl⟩
 have hb63:bit≤2^63:=by rw[hbit];exact Nat.pow_le_pow_right (by omega) (by omega)
 have hb1:1≤bit:=by rw[hbit];exact Nat.one_le_two_pow
 have hp:IntKind.u64.wrap ((2:Int)^n)=(bit:Int):=by
  have e:((2:Int)^n)=(bit:Int):=by rw[hbit];simp
  rw[e];exact IntWalk.u64_in _ ⟨by omega,by omega⟩
 have hbit':=Lib.hid hbit;clear hbit;go_enter Tryz.func243,Tryz.ntmps243;go_wp2
 all_goals first
  |(refine bodyPost_ret (v:=.int .u64 ((bit:Int)-1)) ?_ rfl ⟨?_,rfl⟩
    ·simp[results,Tryz.results243,go_sem]
    ·congr 2
     rw[←hbit'.out]
     omega)
def firstN (n from_:Nat):Int:=if n &&& (2^64-1-(2^from_-1))=0 then -1 else Lib.ctz 64 (n &&& (2^64-1-(2^from_-1)))
theorem behind_at {n m:Nat} (hn:n<18446744073709551616) (hm:m<64) {w:World} {b1 b2:Nat} (h1:Blk w b1 #[.int .u64 n] 37) (h2:Blk w b2 #[.int .i64 m] 3) :
 Calls Tryz.prog 350 #[.pointer (some ⟨b1,0,none⟩),.pointer (some ⟨b2,0,none⟩)] w fun e w'=>e=.returned (.int .u64 ((n &&& (2^64-1-(2^m-1)):Nat):Int))∧Below w.heap.size w w':=by
 go_enter Tryz.func350,Tryz.ntmps350;have c1:=h1.wx 0 rfl;have c2:=h2.wx 0 rfl;go_wp2;refine wp_region_grown (by kernel_rfl) (by kernel_rfl) ?_
 repeat (go_big_quiet_step (first|(go_at_call 243;exact WX.of_same ((mask_at m hm _).mono fun e w' h=>⟨h.1,h.2.symm⟩))))
 refine wpQuiet_nil ?_;intro w2 hb;have hlt:2^m≤2^63:=Nat.pow_le_pow_right (by omega) (by omega);rw[bits_andNot_u64 _ _ hn (by omega)];go_wp2;refine bodyPost_ret (v:=.int .u64 ((n &&& (2^64-1-(2^m-1)):Nat):Int)) ?_ rfl ⟨rfl,hb⟩;simp[results,Tryz.results350,go_sem]
theorem first_at {n m:Nat} (hn:n<18446744073709551616) (hm:m<64) {w:World} (hT:TabW w):Calls Tryz.prog 299 #[.int .u64 n,.int .i64 m] w fun e w'=>e=.returned (.int .i64 (firstN n m))∧Below w.heap.size w w':=by
 go_enter Tryz.func299,Tryz.ntmps299;have hBa:Below w.heap.size w ((w.alloc (.cells #[.int .u64 n] 37)).alloc (.cells #[.int .i64 m] 3)):=((Below.refl _ w).alloc (Nat.le_refl _) _).alloc (by simp) _;have h1:Blk ((w.alloc (.cells #[.int .u64 n] 37)).alloc (.cells #[.int .i64 m] 3)) w.heap.size #[.int .u64 n] 37:=(Blk.new w _ _).alloc _
 have h2:Blk ((w.alloc (.cells #[.int .u64 n] 37)).alloc (.cells #[.int .i64 m] 3)) (w.heap.size+1) #[.int .i64 m] 3:=by
  have:=Blk.new (w.alloc (.cells #[.int .u64 n] 37)) #[.int .i64 (m:Int)] 3;simpa using this
 have hr:n &&& (2^64-1-(2^m-1))≤n:=Nat.and_le_left
 have hf:firstN n m=if n &&& (2^64-1-(2^m-1))=0 then -1 else((Lib.ctz 64 (n &&& (2^64-1-(2^m-1))):Nat):Int):=rfl
 have hbeh:∀w2,Below ((w.alloc (.cells #[.int .u64 n] 37)).alloc (.cells #[.int .i64 m] 3)).heap.size ((w.alloc (.cells #[.int .u64 n] 37)).alloc (.cells #[.int .i64 m] 3)) w2→Calls Tryz.prog 350 #[.pointer (some ⟨w.heap.size,0,none⟩),.pointer (some ⟨w.heap.size+1,0,none⟩)] w2 fun e w'=>e=.returned (.int .u64 ((n &&& (2^64-1-(2^m-1)):Nat):Int))∧Below w2.heap.size w2 w':=fun w2 hb=>
  behind_at hn hm (h1.below hb h1.lt) (h2.below hb h2.lt)
 generalize n &&& (2^64-1-(2^m-1))=r at *;have c2:=h2.cell 0 rfl;have hsz:=hBa.size;have hT1:TabW ((w.alloc (.cells #[.int .u64 n] 37)).alloc (.cells #[.int .i64 m] 3)):=hT.keep (hBa.block _ hT.lt);clear h1 h2
 by_cases hz:r=0
 ·subst hz
  go_wp2_with (go_at_call 350;refine(hbeh _ (Below.refl _ _)).mono ?_;rintro e w2 ⟨rfl,hb2⟩)
  refine bodyPost_ret (v:=.int .i64 (firstN n m)) ?_ rfl ⟨rfl,hBa.trans (hb2.mono hsz)⟩;simp[results,Tryz.results299,go_sem,hf]
 ·have hz':((r:Int)==0)=false:=by simp;exact hz
  go_wp2_with (first|(go_at_call 350;refine(hbeh _ (Below.refl _ _)).mono ?_;rintro e w2 ⟨rfl,hb2⟩)|(go_at_call 350;refine(hbeh _ hb2).mono ?_;rintro e w3 ⟨rfl,hb3⟩)|(go_at_call 351;refine(tz64_at r (by omega) hz _ ((hT1.below hb2).below hb3)).mono ?_;rintro e w4 ⟨rfl,rfl⟩))
  refine bodyPost_ret (v:=.int .i64 (firstN n m)) ?_ rfl ⟨rfl,hBa.trans ((hb2.trans (hb3.mono hb2.size)).mono hsz)⟩;simp[results,Tryz.results299,go_sem,hf,hz]
theorem all_range_ints:∀(xs ys:List Int),xs.length=ys.length→((List.range xs.length).all fun i=>xs.getD i 0==ys.getD i 0)=(xs==ys)
 | [],[],_=>rfl
 |x::xs,y::ys,h=>by
   have ih:=all_range_ints xs ys (by simpa using h);rw[List.length_cons,List.range_succ_eq_map,List.all_cons,List.all_map];simp only[List.getD_cons_zero,Function.comp_def,List.getD_cons_succ,ih];simp[List.cons_beq_cons]
 | [],_::_,h=>by simp at h
 |_::_,[],h=>by simp at h
theorem run_equalIn_ints {P:Program} (w:World) (k:IntKind) (d:Nat) (t e:TypeId) (n:Nat) (ht:P.underlying t=some (.array n e)) (he:P.underlying e=some (.int k)) (hsz:∀w,(sizeOf e).run P w=.ok 1 w)
 (xs ys:List Int) (hx:xs.length=n) (hy:ys.length=n) :
 (Op.equalIn (d+2) t (.agg (xs.map (Value.int k)).toArray) (.agg (ys.map (Value.int k)).toArray)).run P w=.ok (xs==ys) w:=by
 rw[←all_range_ints xs ys (hx.trans hy.symm),hx,List.range_eq_range',Op.equalIn];simp only[Sem.run_bind,run_underlying ht,Result.andThen_ok,hsz,Std.Legacy.Range.forIn_eq_forIn_range',Std.Legacy.Range.size,Nat.sub_zero,Nat.add_sub_cancel,Nat.div_one]
 have hl:∀i∈List.range' 0 n 1,i<n:=fun i hi=>by simpa using(List.mem_range'_1.1 hi).2
 generalize List.range' 0 n 1=l at hl ⊢
 induction l with
 |nil=>simp
 |cons i l ih=>
   have hi:i<n:=hl i (by simp)
   have px:(part e (xs.map (Value.int k)).toArray (i*1)).run P w=.ok (.int k (xs.getD i 0)) w:=by
    simp[part,isAgg,run_underlying he,List.getD,List.getElem?_eq_getElem (show i<xs.length by omega)]
   have py:(part e (ys.map (Value.int k)).toArray (i*1)).run P w=.ok (.int k (ys.getD i 0)) w:=by
    simp[part,isAgg,run_underlying he,List.getD,List.getElem?_eq_getElem (show i<ys.length by omega)]
   have pe:(Op.equalIn (d+1) e (.int k (xs.getD i 0)) (.int k (ys.getD i 0))).run P w=.ok (xs.getD i 0==ys.getD i 0) w:=
    run_equalIn_int w d e k k _ _ he
   simp only[List.forIn_cons,Sem.run_bind,px,py,pe,Result.andThen_ok,List.all_cons];cases hb:(xs.getD i 0==ys.getD i 0)
   ·simp
   ·simp only[Bool.not_true,Bool.false_eq_true,if_false,Sem.run_pure,Result.andThen_ok,Bool.true_and]
    exact ih fun j hj=>hl j (by simp[hj])
theorem size37 (w:World):(sizeOf 37).run Tryz.prog w=.ok 1 w:=by kernel_rfl
theorem under435:Tryz.prog.underlying 435=some (.array 9 37):=by kernel_rfl
theorem under37:Tryz.prog.underlying 37=some (.int .u64):=by kernel_rfl
theorem eq_digs (x0 x1 x2 x3 x4 x5 x6 x7 x8 y0 y1 y2 y3 y4 y5 y6 y7 y8:Int) (w:World) :
 (Op.equalIn 10000 435 (.agg #[.int .u64 x0,.int .u64 x1,.int .u64 x2,.int .u64 x3,.int .u64 x4,.int .u64 x5,.int .u64 x6,.int .u64 x7,.int .u64 x8]) (.agg #[.int .u64 y0,.int .u64 y1,.int .u64 y2,.int .u64 y3,.int .u64 y4,.int .u64 y5,.int .u64 y6,.int .u64 y7,.int .u64 y8])).run Tryz.prog w=.ok ([x0,x1,x2,x3,x4,x5,x6,x7,x8]==[y0,y1,y2,y3,y4,y5,y6,y7,y8]) w:=
 run_equalIn_ints w .u64 9998 435 37 9 under435 under37 size37 [x0,x1,x2,x3,x4,x5,x6,x7,x8] [y0,y1,y2,y3,y4,y5,y6,y7,y8] rfl rfl
theorem and63 (m:Nat) (hm:m<18446744073709551616):bits .and .u64 (m:Int) 63=((m%64:Nat):Int):=by
 have:=bits_and_u64_nat m 63 hm (by omega);rw[show ((63:Nat):Int)=63 by rfl] at this;rw[this];congr 1;exact Nat.and_two_pow_sub_one_eq_mod m 6
set_option maxHeartbeats 1000000 in
theorem digits_at (n:Nat) (hn:n<18446744073709551616) (w:World):Calls Tryz.prog 304 #[.int .u64 n] w fun e w'=>e=.returned (.agg #[.int .u64 (n%64:Nat),.int .u64 (n/64%64:Nat),.int .u64 (n/4096%64:Nat),.int .u64 (n/262144%64:Nat),.int .u64 (n/16777216%64:Nat),.int .u64 (n/1073741824%64:Nat),.int .u64 (n/68719476736%64:Nat),.int .u64 (n/4398046511104%64:Nat),.int .u64 (n/281474976710656:Nat)])∧Below w.heap.size w w':=by
 have a0:=and63 n hn
 have a1:bits .and .u64 ((n:Int)/64) 63=(n:Int)/64%64:=by have:=and63 (n/64) (by omega);simpa using this
 have a2:bits .and .u64 ((n:Int)/4096) 63=(n:Int)/4096%64:=by have:=and63 (n/4096) (by omega);simpa using this
 have a3:bits .and .u64 ((n:Int)/262144) 63=(n:Int)/262144%64:=by have:=and63 (n/262144) (by omega);simpa using this
 have a4:bits .and .u64 ((n:Int)/16777216) 63=(n:Int)/16777216%64:=by have:=and63 (n/16777216) (by omega);simpa using this
 have a5:bits .and .u64 ((n:Int)/1073741824) 63=(n:Int)/1073741824%64:=by have:=and63 (n/1073741824) (by omega);simpa using this
 have a6:bits .and .u64 ((n:Int)/68719476736) 63=(n:Int)/68719476736%64:=by have:=and63 (n/68719476736) (by omega);simpa using this
 have a7:bits .and .u64 ((n:Int)/4398046511104) 63=(n:Int)/4398046511104%64:=by have:=and63 (n/4398046511104) (by omega);simpa using this
 go_enter Tryz.func304,Tryz.ntmps304;go_wp2;refine wp_loop_rounds 9 ?_
 iterate 9 (rw[rounds_succ];go_wp2)
 have hb:Below w.heap.size w ((w.alloc (.cells #[.int .u64 0,.int .u64 0,.int .u64 0,.int .u64 0,.int .u64 0,.int .u64 0,.int .u64 0,.int .u64 0,.int .u64 0] 435)).alloc (.cells #[.int .u64 0,.int .u64 0,.int .u64 0,.int .u64 0,.int .u64 0,.int .u64 0,.int .u64 0,.int .u64 0,.int .u64 0] 435)):=((Below.refl _ w).alloc (Nat.le_refl _) _).alloc (by simp) _;refine bodyPost_ret (v:=.agg #[.int .u64 (n%64:Nat),.int .u64 (n/64%64:Nat),.int .u64 (n/4096%64:Nat),.int .u64 (n/262144%64:Nat),.int .u64 (n/16777216%64:Nat),.int .u64 (n/1073741824%64:Nat),.int .u64 (n/68719476736%64:Nat),.int .u64 (n/4398046511104%64:Nat),.int .u64 (n/281474976710656:Nat)]) ?_ rfl ⟨rfl,?_⟩
 ·simp[results,Tryz.results304,go_sem,a0,a1,a2,a3,a4,a5,a6,a7]
 ·exact((Below.refl _ w).alloc (Nat.le_refl _) _).alloc (by simp) _
theorem digit_0 (n:Nat) (hn:n<18446744073709551616) (w:World):Calls Tryz.prog 241 #[.int .u64 n,.int .i64 0] w fun e w'=>e=.returned (.int .i64 (n%64:Nat))∧Below w.heap.size w w':=by
 have hd:=digits_at n hn;have hx:n%64<64:=Nat.mod_lt _ (by omega);generalize n/64%64=x1 at *;generalize n/4096%64=x2 at *;generalize n/262144%64=x3 at *;generalize n/16777216%64=x4 at *;generalize n/1073741824%64=x5 at *;generalize n/68719476736%64=x6 at *;generalize n/4398046511104%64=x7 at *;generalize n/281474976710656=x8 at *;generalize n%64=x0 at *
 have hix:∀w,(Instr.index 435 (.agg #[.int .u64 x0,.int .u64 x1,.int .u64 x2,.int .u64 x3,.int .u64 x4,.int .u64 x5,.int .u64 x6,.int .u64 x7,.int .u64 x8]) (.int .i64 0)).run Tryz.prog w=.ok (.int .u64 x0) w:=fun _=>by kernel_rfl
 have a0:bits .and .u64 (x0:Int) 63=(x0:Int):=by
  have:=and63 x0 (by omega);rw[Nat.mod_eq_of_lt hx] at this;exact this
 go_enter Tryz.func241,Tryz.ntmps241
 go_wp2_with (go_at_call 304;refine(hd _).mono ?_;rintro e w1 ⟨rfl,hb1⟩)
 refine bodyPost_ret (v:=.int .i64 x0) ?_ rfl ⟨rfl,hb1⟩;simp[results,Tryz.results241,go_sem]
theorem digit_1 (n:Nat) (hn:n<18446744073709551616) (w:World):Calls Tryz.prog 241 #[.int .u64 n,.int .i64 1] w fun e w'=>e=.returned (.int .i64 (n/64%64:Nat))∧Below w.heap.size w w':=by
 have hd:=digits_at n hn;have hx:n/64%64<64:=Nat.mod_lt _ (by omega);generalize n/64%64=x1 at *;generalize n/4096%64=x2 at *;generalize n/262144%64=x3 at *;generalize n/16777216%64=x4 at *;generalize n/1073741824%64=x5 at *;generalize n/68719476736%64=x6 at *;generalize n/4398046511104%64=x7 at *;generalize n/281474976710656=x8 at *;generalize n%64=x0 at *
 have hix:∀w,(Instr.index 435 (.agg #[.int .u64 x0,.int .u64 x1,.int .u64 x2,.int .u64 x3,.int .u64 x4,.int .u64 x5,.int .u64 x6,.int .u64 x7,.int .u64 x8]) (.int .i64 1)).run Tryz.prog w=.ok (.int .u64 x1) w:=fun _=>by kernel_rfl
 have a0:bits .and .u64 (x1:Int) 63=(x1:Int):=by
  have:=and63 x1 (by omega);rw[Nat.mod_eq_of_lt hx] at this;exact this
 go_enter Tryz.func241,Tryz.ntmps241
 go_wp2_with (go_at_call 304;refine(hd _).mono ?_;rintro e w1 ⟨rfl,hb1⟩)
 refine bodyPost_ret (v:=.int .i64 x1) ?_ rfl ⟨rfl,hb1⟩;simp[results,Tryz.results241,go_sem]
theorem digit_2 (n:Nat) (hn:n<18446744073709551616) (w:World):Calls Tryz.prog 241 #[.int .u64 n,.int .i64 2] w fun e w'=>e=.returned (.int .i64 (n/4096%64:Nat))∧Below w.heap.size w w':=by
 have hd:=digits_at n hn;have hx:n/4096%64<64:=Nat.mod_lt _ (by omega);generalize n/64%64=x1 at *;generalize n/4096%64=x2 at *;generalize n/262144%64=x3 at *;generalize n/16777216%64=x4 at *;generalize n/1073741824%64=x5 at *;generalize n/68719476736%64=x6 at *;generalize n/4398046511104%64=x7 at *;generalize n/281474976710656=x8 at *;generalize n%64=x0 at *
 have hix:∀w,(Instr.index 435 (.agg #[.int .u64 x0,.int .u64 x1,.int .u64 x2,.int .u64 x3,.int .u64 x4,.int .u64 x5,.int .u64 x6,.int .u64 x7,.int .u64 x8]) (.int .i64 2)).run Tryz.prog w=.ok (.int .u64 x2) w:=fun _=>by kernel_rfl
 have a0:bits .and .u64 (x2:Int) 63=(x2:Int):=by
  have:=and63 x2 (by omega);rw[Nat.mod_eq_of_lt hx] at this;exact this
 go_enter Tryz.func241,Tryz.ntmps241
 go_wp2_with (go_at_call 304;refine(hd _).mono ?_;rintro e w1 ⟨rfl,hb1⟩)
 refine bodyPost_ret (v:=.int .i64 x2) ?_ rfl ⟨rfl,hb1⟩;simp[results,Tryz.results241,go_sem]
theorem digit_3 (n:Nat) (hn:n<18446744073709551616) (w:World):Calls Tryz.prog 241 #[.int .u64 n,.int .i64 3] w fun e w'=>e=.returned (.int .i64 (n/262144%64:Nat))∧Below w.heap.size w w':=by
 have hd:=digits_at n hn;have hx:n/262144%64<64:=Nat.mod_lt _ (by omega);generalize n/64%64=x1 at *;generalize n/4096%64=x2 at *;generalize n/262144%64=x3 at *;generalize n/16777216%64=x4 at *;generalize n/1073741824%64=x5 at *;generalize n/68719476736%64=x6 at *;generalize n/4398046511104%64=x7 at *;generalize n/281474976710656=x8 at *;generalize n%64=x0 at *
 have hix:∀w,(Instr.index 435 (.agg #[.int .u64 x0,.int .u64 x1,.int .u64 x2,.int .u64 x3,.int .u64 x4,.int .u64 x5,.int .u64 x6,.int .u64 x7,.int .u64 x8]) (.int .i64 3)).run Tryz.prog w=.ok (.int .u64 x3) w:=fun _=>by kernel_rfl
 have a0:bits .and .u64 (x3:Int) 63=(x3:Int):=by
  have:=and63 x3 (by omega);rw[Nat.mod_eq_of_lt hx] at this;exact this
 go_enter Tryz.func241,Tryz.ntmps241
 go_wp2_with (go_at_call 304;refine(hd _).mono ?_;rintro e w1 ⟨rfl,hb1⟩)
 refine bodyPost_ret (v:=.int .i64 x3) ?_ rfl ⟨rfl,hb1⟩;simp[results,Tryz.results241,go_sem]
theorem digit_4 (n:Nat) (hn:n<18446744073709551616) (w:World):Calls Tryz.prog 241 #[.int .u64 n,.int .i64 4] w fun e w'=>e=.returned (.int .i64 (n/16777216%64:Nat))∧Below w.heap.size w w':=by
 have hd:=digits_at n hn;have hx:n/16777216%64<64:=Nat.mod_lt _ (by omega);generalize n/64%64=x1 at *;generalize n/4096%64=x2 at *;generalize n/262144%64=x3 at *;generalize n/16777216%64=x4 at *;generalize n/1073741824%64=x5 at *;generalize n/68719476736%64=x6 at *;generalize n/4398046511104%64=x7 at *;generalize n/281474976710656=x8 at *;generalize n%64=x0 at *
 have hix:∀w,(Instr.index 435 (.agg #[.int .u64 x0,.int .u64 x1,.int .u64 x2,.int .u64 x3,.int .u64 x4,.int .u64 x5,.int .u64 x6,.int .u64 x7,.int .u64 x8]) (.int .i64 4)).run Tryz.prog w=.ok (.int .u64 x4) w:=fun _=>by kernel_rfl
 have a0:bits .and .u64 (x4:Int) 63=(x4:Int):=by
  have:=and63 x4 (by omega);rw[Nat.mod_eq_of_lt hx] at this;exact this
 go_enter Tryz.func241,Tryz.ntmps241
 go_wp2_with (go_at_call 304;refine(hd _).mono ?_;rintro e w1 ⟨rfl,hb1⟩)
 refine bodyPost_ret (v:=.int .i64 x4) ?_ rfl ⟨rfl,hb1⟩;simp[results,Tryz.results241,go_sem]
theorem digit_5 (n:Nat) (hn:n<18446744073709551616) (w:World):Calls Tryz.prog 241 #[.int .u64 n,.int .i64 5] w fun e w'=>e=.returned (.int .i64 (n/1073741824%64:Nat))∧Below w.heap.size w w':=by
 have hd:=digits_at n hn;have hx:n/1073741824%64<64:=Nat.mod_lt _ (by omega);generalize n/64%64=x1 at *;generalize n/4096%64=x2 at *;generalize n/262144%64=x3 at *;generalize n/16777216%64=x4 at *;generalize n/1073741824%64=x5 at *;generalize n/68719476736%64=x6 at *;generalize n/4398046511104%64=x7 at *;generalize n/281474976710656=x8 at *;generalize n%64=x0 at *
 have hix:∀w,(Instr.index 435 (.agg #[.int .u64 x0,.int .u64 x1,.int .u64 x2,.int .u64 x3,.int .u64 x4,.int .u64 x5,.int .u64 x6,.int .u64 x7,.int .u64 x8]) (.int .i64 5)).run Tryz.prog w=.ok (.int .u64 x5) w:=fun _=>by kernel_rfl
 have a0:bits .and .u64 (x5:Int) 63=(x5:Int):=by
  have:=and63 x5 (by omega);rw[Nat.mod_eq_of_lt hx] at this;exact this
 go_enter Tryz.func241,Tryz.ntmps241
 go_wp2_with (go_at_call 304;refine(hd _).mono ?_;rintro e w1 ⟨rfl,hb1⟩)
 refine bodyPost_ret (v:=.int .i64 x5) ?_ rfl ⟨rfl,hb1⟩;simp[results,Tryz.results241,go_sem]
theorem digit_6 (n:Nat) (hn:n<18446744073709551616) (w:World):Calls Tryz.prog 241 #[.int .u64 n,.int .i64 6] w fun e w'=>e=.returned (.int .i64 (n/68719476736%64:Nat))∧Below w.heap.size w w':=by
 have hd:=digits_at n hn;have hx:n/68719476736%64<64:=Nat.mod_lt _ (by omega);generalize n/64%64=x1 at *;generalize n/4096%64=x2 at *;generalize n/262144%64=x3 at *;generalize n/16777216%64=x4 at *;generalize n/1073741824%64=x5 at *;generalize n/68719476736%64=x6 at *;generalize n/4398046511104%64=x7 at *;generalize n/281474976710656=x8 at *;generalize n%64=x0 at *
 have hix:∀w,(Instr.index 435 (.agg #[.int .u64 x0,.int .u64 x1,.int .u64 x2,.int .u64 x3,.int .u64 x4,.int .u64 x5,.int .u64 x6,.int .u64 x7,.int .u64 x8]) (.int .i64 6)).run Tryz.prog w=.ok (.int .u64 x6) w:=fun _=>by kernel_rfl
 have a0:bits .and .u64 (x6:Int) 63=(x6:Int):=by
  have:=and63 x6 (by omega);rw[Nat.mod_eq_of_lt hx] at this;exact this
 go_enter Tryz.func241,Tryz.ntmps241
 go_wp2_with (go_at_call 304;refine(hd _).mono ?_;rintro e w1 ⟨rfl,hb1⟩)
 refine bodyPost_ret (v:=.int .i64 x6) ?_ rfl ⟨rfl,hb1⟩;simp[results,Tryz.results241,go_sem]
theorem digit_7 (n:Nat) (hn:n<18446744073709551616) (w:World):Calls Tryz.prog 241 #[.int .u64 n,.int .i64 7] w fun e w'=>e=.returned (.int .i64 (n/4398046511104%64:Nat))∧Below w.heap.size w w':=by
 have hd:=digits_at n hn;have hx:n/4398046511104%64<64:=Nat.mod_lt _ (by omega);generalize n/64%64=x1 at *;generalize n/4096%64=x2 at *;generalize n/262144%64=x3 at *;generalize n/16777216%64=x4 at *;generalize n/1073741824%64=x5 at *;generalize n/68719476736%64=x6 at *;generalize n/4398046511104%64=x7 at *;generalize n/281474976710656=x8 at *;generalize n%64=x0 at *
 have hix:∀w,(Instr.index 435 (.agg #[.int .u64 x0,.int .u64 x1,.int .u64 x2,.int .u64 x3,.int .u64 x4,.int .u64 x5,.int .u64 x6,.int .u64 x7,.int .u64 x8]) (.int .i64 7)).run Tryz.prog w=.ok (.int .u64 x7) w:=fun _=>by kernel_rfl
 have a0:bits .and .u64 (x7:Int) 63=(x7:Int):=by
  have:=and63 x7 (by omega);rw[Nat.mod_eq_of_lt hx] at this;exact this
 go_enter Tryz.func241,Tryz.ntmps241
 go_wp2_with (go_at_call 304;refine(hd _).mono ?_;rintro e w1 ⟨rfl,hb1⟩)
 refine bodyPost_ret (v:=.int .i64 x7) ?_ rfl ⟨rfl,hb1⟩;simp[results,Tryz.results241,go_sem]
end Go.Proofs.YtkndlfdpmpdihaaGreatDoor
namespace Go.Proofs.YtkndlfdpmpdihaaGreatDoor
open Go.RowKit Go.Ev Go.Mv
set_option linter.unusedVariables false
set_option linter.unusedSimpArgs false
set_option maxRecDepth 100000
set_option maxHeartbeats 2000000 in
theorem top_core {b d:Nat} {x0 x1 x2 x3 x4 x5 x6 x7 x8 y0 y1 y2 y3 y4 y5 y6 y7 y8:Nat} (hx:∀w,Calls Tryz.prog 304 #[.int .u64 b] w fun e w'=>e=.returned (.agg #[.int .u64 x0,.int .u64 x1,.int .u64 x2,.int .u64 x3,.int .u64 x4,.int .u64 x5,.int .u64 x6,.int .u64 x7,.int .u64 x8])∧Below w.heap.size w w') (hy:∀w,Calls Tryz.prog 304 #[.int .u64 d] w fun e w'=>e=.returned (.agg #[.int .u64 y0,.int .u64 y1,.int .u64 y2,.int .u64 y3,.int .u64 y4,.int .u64 y5,.int .u64 y6,.int .u64 y7,.int .u64 y8])∧Below w.heap.size w w')
 (hne:([(x0:Int),(x1:Int),(x2:Int),(x3:Int),(x4:Int),(x5:Int),(x6:Int),(x7:Int),(x8:Int)]==[(y0:Int),(y1:Int),(y2:Int),(y3:Int),(y4:Int),(y5:Int),(y6:Int),(y7:Int),(y8:Int)])=false) (w:World):Calls Tryz.prog 248 #[.int .u64 b,.int .u64 d] w fun e w'=>e=.returned (.int .i64 ((if x8≠y8 then 8 else if x7≠y7 then 7 else if x6≠y6 then 6 else if x5≠y5 then 5 else if x4≠y4 then 4 else if x3≠y3 then 3 else if x2≠y2 then 2 else if x1≠y1 then 1 else 0:Nat):Int))∧Below w.heap.size w w':=by
 have heq:∀w,(Op.equalIn 10000 435 (.agg #[.int .u64 x0,.int .u64 x1,.int .u64 x2,.int .u64 x3,.int .u64 x4,.int .u64 x5,.int .u64 x6,.int .u64 x7,.int .u64 x8]) (.agg #[.int .u64 y0,.int .u64 y1,.int .u64 y2,.int .u64 y3,.int .u64 y4,.int .u64 y5,.int .u64 y6,.int .u64 y7,.int .u64 y8])).run Tryz.prog w=.ok false w:=fun w=>by rw[eq_digs,hne]
 have HX:=Lib.hid hx;have HY:=Lib.hid hy;clear hx hy hne;go_enter Tryz.func248,Tryz.ntmps248;go_wp2;go_step3
 go_wp2_with (first|first|(go_at_call_of 304 (Value.int .u64 (b:Int));refine(HX.out _).mono ?_;rintro e w1 ⟨rfl,hb1⟩)|(go_at_call_of 304 (Value.int .u64 (d:Int));refine(HY.out _).mono ?_;rintro e w2 ⟨rfl,hb2⟩))
 go_step3;go_wp2;have hB0:Below w.heap.size w w2:=hb1.trans (hb2.mono hb1.size);have hX:=(Blk.new w2 #[.int .u64 x0,.int .u64 x1,.int .u64 x2,.int .u64 x3,.int .u64 x4,.int .u64 x5,.int .u64 x6,.int .u64 x7,.int .u64 x8] 435).alloc (.cells #[.int .u64 y0,.int .u64 y1,.int .u64 y2,.int .u64 y3,.int .u64 y4,.int .u64 y5,.int .u64 y6,.int .u64 y7,.int .u64 y8] 435)
 have hY:Blk ((w2.alloc (.cells #[.int .u64 x0,.int .u64 x1,.int .u64 x2,.int .u64 x3,.int .u64 x4,.int .u64 x5,.int .u64 x6,.int .u64 x7,.int .u64 x8] 435)).alloc (.cells #[.int .u64 y0,.int .u64 y1,.int .u64 y2,.int .u64 y3,.int .u64 y4,.int .u64 y5,.int .u64 y6,.int .u64 y7,.int .u64 y8] 435)) (w2.heap.size+1) #[.int .u64 y0,.int .u64 y1,.int .u64 y2,.int .u64 y3,.int .u64 y4,.int .u64 y5,.int .u64 y6,.int .u64 y7,.int .u64 y8] 435:=by
  have:=Blk.new (w2.alloc (.cells #[.int .u64 x0,.int .u64 x1,.int .u64 x2,.int .u64 x3,.int .u64 x4,.int .u64 x5,.int .u64 x6,.int .u64 x7,.int .u64 x8] 435)) #[.int .u64 y0,.int .u64 y1,.int .u64 y2,.int .u64 y3,.int .u64 y4,.int .u64 y5,.int .u64 y6,.int .u64 y7,.int .u64 y8] 435;simpa using this
 have hB1:Below w.heap.size w ((w2.alloc (.cells #[.int .u64 x0,.int .u64 x1,.int .u64 x2,.int .u64 x3,.int .u64 x4,.int .u64 x5,.int .u64 x6,.int .u64 x7,.int .u64 x8] 435)).alloc (.cells #[.int .u64 y0,.int .u64 y1,.int .u64 y2,.int .u64 y3,.int .u64 y4,.int .u64 y5,.int .u64 y6,.int .u64 y7,.int .u64 y8] 435)):=(hB0.alloc hB0.size _).alloc (by have:=hB0.size;simp;omega) _;generalize (w2.alloc (.cells #[.int .u64 x0,.int .u64 x1,.int .u64 x2,.int .u64 x3,.int .u64 x4,.int .u64 x5,.int .u64 x6,.int .u64 x7,.int .u64 x8] 435)).alloc (.cells #[.int .u64 y0,.int .u64 y1,.int .u64 y2,.int .u64 y3,.int .u64 y4,.int .u64 y5,.int .u64 y6,.int .u64 y7,.int .u64 y8] 435)=w3 at *;refine wp_loop_rounds 9 ?_
 rename Below w.heap.size w w3=>hB
 rw[rounds_succ];go_wp2;have p8:∀x:WX w3,x.w.cell? ⟨w2.heap.size,8,none⟩=some (.int .u64 x8):=hX.wx 8 rfl;have q8:∀x:WX w3,x.w.cell? ⟨w2.heap.size+1,8,none⟩=some (.int .u64 y8):=hY.wx 8 rfl;refine wp_region_grown (by kernel_rfl) (by kernel_rfl) ?_
 repeat (go_big_quiet_step (fail))
 refine wpQuiet_nil ?_;intro v8 hv8;have hB8':Below w.heap.size w v8:=hB.trans (hv8.mono hB.size)
 replace hX:=hX.below hv8 hX.lt
 replace hY:=hY.below hv8 hY.lt
 clear hB p8 q8
 rename Below w.heap.size w v8=>hB
 by_cases h8:x8=y8
 rotate_left
 ·have hn:((x8:Int) != (y8:Int))=true:=by simp;omega
  have hn':¬((x8:Int)=(y8:Int)):=by omega
  go_wp2;rw[Exit.noGoto_ret];refine bodyPost_ret (v:=.int .i64 8) ?_ rfl ⟨by simp[*],hB⟩;simp[results,Tryz.results248,go_sem]
 have hn:((x8:Int) != (y8:Int))=false:=by simp;omega
 have hn':((x8:Int)=(y8:Int)):=by omega
 go_wp2;clear hn hn';rw[rounds_succ];go_wp2;have p7:∀x:WX v8,x.w.cell? ⟨w2.heap.size,7,none⟩=some (.int .u64 x7):=hX.wx 7 rfl;have q7:∀x:WX v8,x.w.cell? ⟨w2.heap.size+1,7,none⟩=some (.int .u64 y7):=hY.wx 7 rfl;refine wp_region_grown (by kernel_rfl) (by kernel_rfl) ?_
 repeat (go_big_quiet_step (fail))
 refine wpQuiet_nil ?_;intro v7 hv7;have hB7':Below w.heap.size w v7:=hB.trans (hv7.mono hB.size)
 replace hX:=hX.below hv7 hX.lt
 replace hY:=hY.below hv7 hY.lt
 clear hB p7 q7
 rename Below w.heap.size w v7=>hB
 by_cases h7:x7=y7
 rotate_left
 ·have hn:((x7:Int) != (y7:Int))=true:=by simp;omega
  have hn':¬((x7:Int)=(y7:Int)):=by omega
  go_wp2;rw[Exit.noGoto_ret];refine bodyPost_ret (v:=.int .i64 7) ?_ rfl ⟨by simp[*],hB⟩;simp[results,Tryz.results248,go_sem]
 have hn:((x7:Int) != (y7:Int))=false:=by simp;omega
 have hn':((x7:Int)=(y7:Int)):=by omega
 go_wp2;clear hn hn';rw[rounds_succ];go_wp2;have p6:∀x:WX v7,x.w.cell? ⟨w2.heap.size,6,none⟩=some (.int .u64 x6):=hX.wx 6 rfl;have q6:∀x:WX v7,x.w.cell? ⟨w2.heap.size+1,6,none⟩=some (.int .u64 y6):=hY.wx 6 rfl;refine wp_region_grown (by kernel_rfl) (by kernel_rfl) ?_
 repeat (go_big_quiet_step (fail))
 refine wpQuiet_nil ?_;intro v6 hv6;have hB6':Below w.heap.size w v6:=hB.trans (hv6.mono hB.size)
 replace hX:=hX.below hv6 hX.lt
 replace hY:=hY.below hv6 hY.lt
 clear hB p6 q6
 rename Below w.heap.size w v6=>hB
 by_cases h6:x6=y6
 rotate_left
 ·have hn:((x6:Int) != (y6:Int))=true:=by simp;omega
  have hn':¬((x6:Int)=(y6:Int)):=by omega
  go_wp2;rw[Exit.noGoto_ret];refine bodyPost_ret (v:=.int .i64 6) ?_ rfl ⟨by simp[*],hB⟩;simp[results,Tryz.results248,go_sem]
 have hn:((x6:Int) != (y6:Int))=false:=by simp;omega
 have hn':((x6:Int)=(y6:Int)):=by omega
 go_wp2;clear hn hn';rw[rounds_succ];go_wp2;have p5:∀x:WX v6,x.w.cell? ⟨w2.heap.size,5,none⟩=some (.int .u64 x5):=hX.wx 5 rfl;have q5:∀x:WX v6,x.w.cell? ⟨w2.heap.size+1,5,none⟩=some (.int .u64 y5):=hY.wx 5 rfl;refine wp_region_grown (by kernel_rfl) (by kernel_rfl) ?_
 repeat (go_big_quiet_step (fail))
 refine wpQuiet_nil ?_;intro v5 hv5;have hB5':Below w.heap.size w v5:=hB.trans (hv5.mono hB.size)
 replace hX:=hX.below hv5 hX.lt
 replace hY:=hY.below hv5 hY.lt
 clear hB p5 q5
 rename Below w.heap.size w v5=>hB
 by_cases h5:x5=y5
 rotate_left
 ·have hn:((x5:Int) != (y5:Int))=true:=by simp;omega
  have hn':¬((x5:Int)=(y5:Int)):=by omega
  go_wp2;rw[Exit.noGoto_ret];refine bodyPost_ret (v:=.int .i64 5) ?_ rfl ⟨by simp[*],hB⟩;simp[results,Tryz.results248,go_sem]
 have hn:((x5:Int) != (y5:Int))=false:=by simp;omega
 have hn':((x5:Int)=(y5:Int)):=by omega
 go_wp2;clear hn hn';rw[rounds_succ];go_wp2;have p4:∀x:WX v5,x.w.cell? ⟨w2.heap.size,4,none⟩=some (.int .u64 x4):=hX.wx 4 rfl;have q4:∀x:WX v5,x.w.cell? ⟨w2.heap.size+1,4,none⟩=some (.int .u64 y4):=hY.wx 4 rfl;refine wp_region_grown (by kernel_rfl) (by kernel_rfl) ?_
 repeat (go_big_quiet_step (fail))
 refine wpQuiet_nil ?_;intro v4 hv4;have hB4':Below w.heap.size w v4:=hB.trans (hv4.mono hB.size)
 replace hX:=hX.below hv4 hX.lt
 replace hY:=hY.below hv4 hY.lt
 clear hB p4 q4
 rename Below w.heap.size w v4=>hB
 by_cases h4:x4=y4
 rotate_left
 ·have hn:((x4:Int) != (y4:Int))=true:=by simp;omega
  have hn':¬((x4:Int)=(y4:Int)):=by omega
  go_wp2;rw[Exit.noGoto_ret];refine bodyPost_ret (v:=.int .i64 4) ?_ rfl ⟨by simp[*],hB⟩;simp[results,Tryz.results248,go_sem]
 have hn:((x4:Int) != (y4:Int))=false:=by simp;omega
 have hn':((x4:Int)=(y4:Int)):=by omega
 go_wp2;clear hn hn';rw[rounds_succ];go_wp2;have p3:∀x:WX v4,x.w.cell? ⟨w2.heap.size,3,none⟩=some (.int .u64 x3):=hX.wx 3 rfl;have q3:∀x:WX v4,x.w.cell? ⟨w2.heap.size+1,3,none⟩=some (.int .u64 y3):=hY.wx 3 rfl;refine wp_region_grown (by kernel_rfl) (by kernel_rfl) ?_
 repeat (go_big_quiet_step (fail))
 refine wpQuiet_nil ?_;intro v3 hv3;have hB3':Below w.heap.size w v3:=hB.trans (hv3.mono hB.size)
 replace hX:=hX.below hv3 hX.lt
 replace hY:=hY.below hv3 hY.lt
 clear hB p3 q3
 rename Below w.heap.size w v3=>hB
 by_cases h3:x3=y3
 rotate_left
 ·have hn:((x3:Int) != (y3:Int))=true:=by simp;omega
  have hn':¬((x3:Int)=(y3:Int)):=by omega
  go_wp2;rw[Exit.noGoto_ret];refine bodyPost_ret (v:=.int .i64 3) ?_ rfl ⟨by simp[*],hB⟩;simp[results,Tryz.results248,go_sem]
 have hn:((x3:Int) != (y3:Int))=false:=by simp;omega
 have hn':((x3:Int)=(y3:Int)):=by omega
 go_wp2;clear hn hn';rw[rounds_succ];go_wp2;have p2:∀x:WX v3,x.w.cell? ⟨w2.heap.size,2,none⟩=some (.int .u64 x2):=hX.wx 2 rfl;have q2:∀x:WX v3,x.w.cell? ⟨w2.heap.size+1,2,none⟩=some (.int .u64 y2):=hY.wx 2 rfl;refine wp_region_grown (by kernel_rfl) (by kernel_rfl) ?_
 repeat (go_big_quiet_step (fail))
 refine wpQuiet_nil ?_;intro v2 hv2;have hB2':Below w.heap.size w v2:=hB.trans (hv2.mono hB.size)
 replace hX:=hX.below hv2 hX.lt
 replace hY:=hY.below hv2 hY.lt
 clear hB p2 q2
 rename Below w.heap.size w v2=>hB
 by_cases h2:x2=y2
 rotate_left
 ·have hn:((x2:Int) != (y2:Int))=true:=by simp;omega
  have hn':¬((x2:Int)=(y2:Int)):=by omega
  go_wp2;rw[Exit.noGoto_ret];refine bodyPost_ret (v:=.int .i64 2) ?_ rfl ⟨by simp[*],hB⟩;simp[results,Tryz.results248,go_sem]
 have hn:((x2:Int) != (y2:Int))=false:=by simp;omega
 have hn':((x2:Int)=(y2:Int)):=by omega
 go_wp2;clear hn hn';rw[rounds_succ];go_wp2;have p1:∀x:WX v2,x.w.cell? ⟨w2.heap.size,1,none⟩=some (.int .u64 x1):=hX.wx 1 rfl;have q1:∀x:WX v2,x.w.cell? ⟨w2.heap.size+1,1,none⟩=some (.int .u64 y1):=hY.wx 1 rfl;refine wp_region_grown (by kernel_rfl) (by kernel_rfl) ?_
 repeat (go_big_quiet_step (fail))
 refine wpQuiet_nil ?_;intro v1 hv1;have hB1':Below w.heap.size w v1:=hB.trans (hv1.mono hB.size)
 replace hX:=hX.below hv1 hX.lt
 replace hY:=hY.below hv1 hY.lt
 clear hB p1 q1
 rename Below w.heap.size w v1=>hB
 by_cases h1:x1=y1
 rotate_left
 ·have hn:((x1:Int) != (y1:Int))=true:=by simp;omega
  have hn':¬((x1:Int)=(y1:Int)):=by omega
  go_wp2;rw[Exit.noGoto_ret];refine bodyPost_ret (v:=.int .i64 1) ?_ rfl ⟨by simp[*],hB⟩;simp[results,Tryz.results248,go_sem]
 have hn:((x1:Int) != (y1:Int))=false:=by simp;omega
 have hn':((x1:Int)=(y1:Int)):=by omega
 go_wp2;clear hn hn';rw[rounds_succ];go_wp2;rw[Exit.noGoto_ret];refine bodyPost_ret (v:=.int .i64 0) ?_ rfl ⟨by simp[*],hB⟩;simp[results,Tryz.results248,go_sem]
end Go.Proofs.YtkndlfdpmpdihaaGreatDoor
namespace Go.Proofs.YtkndlfdpmpdihaaGreatDoor
open Go.RowKit Go.Ev Go.Mv
set_option linter.unusedVariables false
set_option linter.unusedSimpArgs false
set_option maxRecDepth 100000
def topN (b d:Nat):Nat:=if b/281474976710656≠d/281474976710656 then 8 else if b/4398046511104%64≠d/4398046511104%64 then 7 else if b/68719476736%64≠d/68719476736%64 then 6 else if b/1073741824%64≠d/1073741824%64 then 5 else if b/16777216%64≠d/16777216%64 then 4 else if b/262144%64≠d/262144%64 then 3 else if b/4096%64≠d/4096%64 then 2 else if b/64%64≠d/64%64 then 1 else 0
def digN (n:Nat):Nat→Nat
 | 0=>n%64
 | 1=>n/64%64
 | 2=>n/4096%64
 | 3=>n/262144%64
 | 4=>n/16777216%64
 | 5=>n/1073741824%64
 | 6=>n/68719476736%64
 | 7=>n/4398046511104%64
 |_=>0
def placeOf (b d:Nat):Int×Int:=if d≤b then(-1,0) else if topN b d=8 then(8,0) else((topN b d:Nat),(digN d (topN b d):Nat))
theorem digs_inj (b d:Nat) (h:b%64=d%64∧b/64%64=d/64%64∧b/4096%64=d/4096%64∧b/262144%64=d/262144%64∧b/16777216%64=d/16777216%64∧b/1073741824%64=d/1073741824%64∧b/68719476736%64=d/68719476736%64∧b/4398046511104%64=d/4398046511104%64∧b/281474976710656=d/281474976710656):b=d:=by
 omega
theorem topN_le (b d:Nat):topN b d≤8:=by
 unfold topN
 repeat' split
 all_goals omega
theorem top_at (b d:Nat) (hb:b<18446744073709551616) (hd:d<18446744073709551616) (hlt:b<d) (w:World):Calls Tryz.prog 248 #[.int .u64 b,.int .u64 d] w fun e w'=>e=.returned (.int .i64 (topN b d:Nat))∧Below w.heap.size w w':=by
 refine top_core (digits_at b hb) (digits_at d hd) ?_ w;rw[beq_eq_false_iff_ne];intro he;simp only[List.cons.injEq,and_true] at he;have:=digs_inj b d (by obtain⟨h0,h1,h2,h3,h4,h5,h6,h7,h8⟩:=he;exact⟨by exact_mod_cast h0,by exact_mod_cast h1,by exact_mod_cast h2,by exact_mod_cast h3,by exact_mod_cast h4,by exact_mod_cast h5,by exact_mod_cast h6,by exact_mod_cast h7,by exact_mod_cast h8⟩);omega
theorem late_at (w:World):Calls Tryz.prog 172 #[] w fun e w'=>e=.returned (.agg #[.int .i64 (-1),.int .i64 0])∧Below w.heap.size w w':=by
 go_enter Tryz.func172,Tryz.ntmps172;go_wp2;refine bodyPost_ret (v:=.agg #[.int .i64 (-1),.int .i64 0]) ?_ rfl ⟨rfl,(Below.refl _ _).alloc (Nat.le_refl _) _⟩;simp[results,Tryz.results172,go_sem]
theorem far_at (w:World):Calls Tryz.prog 174 #[] w fun e w'=>e=.returned (.agg #[.int .i64 8,.int .i64 0])∧Below w.heap.size w w':=by
 go_enter Tryz.func174,Tryz.ntmps174;go_wp2;refine bodyPost_ret (v:=.agg #[.int .i64 8,.int .i64 0]) ?_ rfl ⟨rfl,(Below.refl _ _).alloc (Nat.le_refl _) _⟩;simp[results,Tryz.results174,go_sem]
theorem of_core {b d k:Nat} {v:Int} (hlt:b<d) (htop:∀w,Calls Tryz.prog 248 #[.int .u64 b,.int .u64 d] w fun e w'=>e=.returned (.int .i64 (k:Nat))∧Below w.heap.size w w') (hk:k<8)
 (hdig:∀w,Calls Tryz.prog 241 #[.int .u64 d,.int .i64 k] w fun e w'=>e=.returned (.int .i64 v)∧Below w.heap.size w w') (w:World):Calls Tryz.prog 180 #[.int .u64 b,.int .u64 d] w fun e w'=>e=.returned (.agg #[.int .i64 k,.int .i64 v])∧Below w.heap.size w w':=by
 have hn:¬((d:Int)≤(b:Int)):=by omega
 have hk':¬((8:Int)≤(k:Int)):=by omega
 have hR:=Blk.new w #[.int .i64 0,.int .i64 0] 219;have hBa:Below w.heap.size w (w.alloc (.cells #[.int .i64 0,.int .i64 0] 219)):=(Below.refl _ w).alloc (Nat.le_refl _) _;have HT:=Lib.hid htop;have HD:=Lib.hid hdig;clear htop hdig;go_enter Tryz.func180,Tryz.ntmps180
 go_wp2_with (go_at_call 248;fail)
 refine(HT.out _).mono ?_;rintro e w1 ⟨rfl,hb1⟩
 go_wp2_with (go_at_call 241;fail)
 refine(HD.out _).mono ?_;rintro e w2 ⟨rfl,hb2⟩;have hR2:=(hR.below hb1 hR.lt).below hb2 (Nat.lt_of_lt_of_le hR.lt hb1.size);have q0:=hR2.cell 0 rfl;have q1:=hR2.cell 1 rfl;have f0:=hR2.free 0;have f1:=hR2.free 1;go_wp2;have e1:=(hR2.set 0 (.int .i64 k)).set 1 (.int .i64 v);have hB2:Below w.heap.size w w2:=hBa.trans ((hb1.trans (hb2.mono hb1.size)).mono hBa.size);refine bodyPost_ret (v:=.agg #[.int .i64 k,.int .i64 v]) ?_ rfl ⟨rfl,(hB2.setCell (Nat.le_refl _) _).setCell (Nat.le_refl _) _⟩;simp[results,Tryz.results180,go_sem,e1.cell 0 rfl,e1.cell 1 rfl]
theorem of_far {b d:Nat} (hlt:b<d) (htop:∀w,Calls Tryz.prog 248 #[.int .u64 b,.int .u64 d] w fun e w'=>e=.returned (.int .i64 8)∧Below w.heap.size w w') (w:World):Calls Tryz.prog 180 #[.int .u64 b,.int .u64 d] w fun e w'=>e=.returned (.agg #[.int .i64 8,.int .i64 0])∧Below w.heap.size w w':=by
 have hn:¬((d:Int)≤(b:Int)):=by omega
 have hR:=Blk.new w #[.int .i64 0,.int .i64 0] 219;have hBa:Below w.heap.size w (w.alloc (.cells #[.int .i64 0,.int .i64 0] 219)):=(Below.refl _ w).alloc (Nat.le_refl _) _;have HT:=Lib.hid htop;clear htop;go_enter Tryz.func180,Tryz.ntmps180
 go_wp2_with (go_at_call 248;fail)
 refine(HT.out _).mono ?_;rintro e w1 ⟨rfl,hb1⟩
 go_wp2_with (go_at_call 174;fail)
 refine(far_at _).mono ?_;rintro e w2 ⟨rfl,hb2⟩;have hR2:=(hR.below hb1 hR.lt).below hb2 (Nat.lt_of_lt_of_le hR.lt hb1.size);have q0:=hR2.cell 0 rfl;have q1:=hR2.cell 1 rfl;have f0:=hR2.free 0;have f1:=hR2.free 1;go_wp2;have e1:=(hR2.set 0 (.int .i64 8)).set 1 (.int .i64 0);have hB2:Below w.heap.size w w2:=hBa.trans ((hb1.trans (hb2.mono hb1.size)).mono hBa.size);refine bodyPost_ret (v:=.agg #[.int .i64 8,.int .i64 0]) ?_ rfl ⟨rfl,(hB2.setCell (Nat.le_refl _) _).setCell (Nat.le_refl _) _⟩;simp[results,Tryz.results180,go_sem,e1.cell 0 rfl,e1.cell 1 rfl]
theorem of_late {b d:Nat} (hle:d≤b) (w:World):Calls Tryz.prog 180 #[.int .u64 b,.int .u64 d] w fun e w'=>e=.returned (.agg #[.int .i64 (-1),.int .i64 0])∧Below w.heap.size w w':=by
 have hn:((d:Int)≤(b:Int)):=by omega
 have hR:=Blk.new w #[.int .i64 0,.int .i64 0] 219;have hBa:Below w.heap.size w (w.alloc (.cells #[.int .i64 0,.int .i64 0] 219)):=(Below.refl _ w).alloc (Nat.le_refl _) _;go_enter Tryz.func180,Tryz.ntmps180
 go_wp2_with (go_at_call 172;fail)
 refine(late_at _).mono ?_;rintro e w2 ⟨rfl,hb2⟩;have hR2:=hR.below hb2 hR.lt;have q0:=hR2.cell 0 rfl;have q1:=hR2.cell 1 rfl;have f0:=hR2.free 0;have f1:=hR2.free 1;go_wp2;have e1:=(hR2.set 0 (.int .i64 (-1))).set 1 (.int .i64 0);have hB2:Below w.heap.size w w2:=hBa.trans (hb2.mono hBa.size);refine bodyPost_ret (v:=.agg #[.int .i64 (-1),.int .i64 0]) ?_ rfl ⟨rfl,(hB2.setCell (Nat.le_refl _) _).setCell (Nat.le_refl _) _⟩;simp[results,Tryz.results180,go_sem,e1.cell 0 rfl,e1.cell 1 rfl]
theorem of_at (b d:Nat) (hb:b<18446744073709551616) (hd:d<18446744073709551616) (w:World):Calls Tryz.prog 180 #[.int .u64 b,.int .u64 d] w fun e w'=>e=.returned (.agg #[.int .i64 (placeOf b d).1,.int .i64 (placeOf b d).2])∧Below w.heap.size w w':=by
 by_cases hle:d≤b
 ·have e:placeOf b d=(-1,0):=if_pos hle
  rw[e];exact of_late hle w
 ·have hlt:b<d:=by omega
  have ht:=top_at b d hb hd hlt;have e:placeOf b d=(if topN b d=8 then((8:Int),(0:Int)) else(((topN b d:Nat):Int),((digN d (topN b d):Nat):Int))):=if_neg hle;rw[e];have hk:=topN_le b d;generalize topN b d=k at *
  match k,hk with
  | 0,_=>exact of_core (k:=0) hlt ht (by omega) (digit_0 d hd) w
  | 1,_=>exact of_core (k:=1) hlt ht (by omega) (digit_1 d hd) w
  | 2,_=>exact of_core (k:=2) hlt ht (by omega) (digit_2 d hd) w
  | 3,_=>exact of_core (k:=3) hlt ht (by omega) (digit_3 d hd) w
  | 4,_=>exact of_core (k:=4) hlt ht (by omega) (digit_4 d hd) w
  | 5,_=>exact of_core (k:=5) hlt ht (by omega) (digit_5 d hd) w
  | 6,_=>exact of_core (k:=6) hlt ht (by omega) (digit_6 d hd) w
  | 7,_=>exact of_core (k:=7) hlt ht (by omega) (digit_7 d hd) w
  | 8,_=>exact of_far hlt ht w
def arr8 (m:Nat→Nat):Array Value:=#[.int .u64 (m 0),.int .u64 (m 1),.int .u64 (m 2),.int .u64 (m 3),.int .u64 (m 4),.int .u64 (m 5),.int .u64 (m 6),.int .u64 (m 7)]
theorem arr8_at (m:Nat→Nat) (l:Nat) (hl:l<8):(arr8 m)[l]?=some (.int .u64 (m l)):=by
 match l,hl with
 | 0,_=>rfl
 | 1,_=>rfl
 | 2,_=>rfl
 | 3,_=>rfl
 | 4,_=>rfl
 | 5,_=>rfl
 | 6,_=>rfl
 | 7,_=>rfl
theorem arr8_set (m:Nat→Nat) (l v:Nat) (hl:l<8):(arr8 m).setIfInBounds l (.int .u64 v)=arr8 (fset m l v):=by
 apply Array.ext_getElem?;intro i
 by_cases hi:i<8
 ·rw[arr8_at _ _ hi]
  by_cases h:l=i
  ·subst h
   rw[Array.getElem?_setIfInBounds_self,fset_same];have:(arr8 m).size=8:=rfl;rw[if_pos (by omega)]
  ·rw[Array.getElem?_setIfInBounds_ne h,arr8_at _ _ hi,fset_ne _ _ (Ne.symm h)]
 ·rw[Array.getElem?_eq_none (by rw[Array.size_setIfInBounds];exact Nat.le_of_not_lt hi),Array.getElem?_eq_none (by exact Nat.le_of_not_lt hi)]
theorem bit_at (l s:Nat) (hl:l<8) (hs:s<64) (w:World):Calls Tryz.prog 247 #[.int .i64 l,.int .i64 s] w fun e w'=>e=.returned (.int .u64 (2^s:Nat))∧w'=w:=by
 obtain⟨bit,hbit⟩:∃bit:Nat,bit=2^s:=⟨_,rfl⟩
 have hb63:bit≤2^63:=by rw[hbit];exact Nat.pow_le_pow_right (by omega) (by omega)
 have hp:IntKind.u64.wrap ((2:Int)^s)=(bit:Int):=by
  have e:((2:Int)^s)=(bit:Int):=by rw[hbit];simp
  rw[e];exact IntWalk.u64_in _ ⟨by omega,by omega⟩
 rw[←hbit];clear hbit
 have h1:¬((l:Int)<0):=by omega
 have h2:¬((8:Int)≤(l:Int)):=by omega
 have h3:¬((s:Int)<0):=by omega
 have h4:¬((64:Int)≤(s:Int)):=by omega
 go_enter Tryz.func247,Tryz.ntmps247;go_wp2;refine bodyPost_ret (v:=.int .u64 (bit:Nat)) ?_ rfl ⟨rfl,rfl⟩;simp[results,Tryz.results247,go_sem]
theorem bitNo_at {l:Int} (s:Int) (hl:l<0∨8≤l) (w:World):Calls Tryz.prog 247 #[.int .i64 l,.int .i64 s] w fun e w'=>e=.returned (.int .u64 0)∧w'=w:=by
 rcases hl with hl|hl
 ·go_enter Tryz.func247,Tryz.ntmps247
  go_wp2;refine bodyPost_ret (v:=.int .u64 0) ?_ rfl ⟨rfl,rfl⟩;simp[results,Tryz.results247,go_sem]
 ·have hn:¬(l<0):=by omega
  go_enter Tryz.func247,Tryz.ntmps247;go_wp2;refine bodyPost_ret (v:=.int .u64 0) ?_ rfl ⟨rfl,rfl⟩;simp[results,Tryz.results247,go_sem]
end Go.Proofs.YtkndlfdpmpdihaaGreatDoor
