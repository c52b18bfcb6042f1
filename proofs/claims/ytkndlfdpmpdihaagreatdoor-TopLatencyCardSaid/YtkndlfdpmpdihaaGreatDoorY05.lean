/- Maps whose keys are places, or the wheel's keys: where a key lies. Maps whose keys are the wheel's keys (a level and a slot): where a key lies. Maps whose keys are places, or the wheel's keys: what an assignment and a delete do to them. pool.Split and the handle of a place. Words on memory: worlds t Conditions: those that each statement shows. -/
import Derived.Test.YtkndlfdpmpdihaaGreatDoorProg
import Derived.Test.YtkndlfdpmpdihaaGreatDoorY04
import Derived.WalkKit
import Derived.WalkLawsBesides
import Derived.KernelRfl
import Derived.WalkSpells
import Derived.RegionTactic
import Derived.StillTailTactics
import Derived.BigQuiet
import Derived.Laws.Bits64b
import Derived.Deep.QuietTactic
import Derived.Deep.LoopGhost
import Derived.Lib.Hide
import Derived.Deep.DrawnRows
import Derived.Maps.AppendAt
import Derived.Laws.OwnMore
import Derived.Deep.AppendLies
import Derived.OwnWalk
namespace Go.Proofs.YtkndlfdpmpdihaaGreatDoor
open Go.RowKit Go.Ev
set_option linter.unusedVariables false
set_option linter.unusedSimpArgs false
def PK (a:Int):Value:=.agg #[.int .i64 a]
theorem eq316 (a b:Int) (w:World):(Op.equal 316 (PK a) (PK b)).run Tryz.prog w=.ok (a==b) w:=by
 have e3:∀w:World,(Op.equalIn 9999 3 (.int .i64 a) (.int .i64 b)).run Tryz.prog w=.ok (a==b) w:=fun w=>run_equalIn_int w 9998 3 .i64 .i64 _ _ Tryz.underlying3
 have p1:∀(n:Int) (w:World),(part 3 #[.int .i64 n] 0).run Tryz.prog w=.ok (.int .i64 n) w:=fun n w=>by kernel_rfl
 show (Op.equalIn (9999+1) 316 (PK a) (PK b)).run Tryz.prog w=_;rw[Op.equalIn];simp only[Sem.run_bind,run_underlying Tryz.underlying316,Result.andThen_ok,PK];simp[p1,e3]
 cases hab:(a==b)<;>simp_all
def lookP (a:Int):List MapEntry→Nat→Option (Nat×Value)
 | [],_=>none
 |e::es,i=>match e.key with
   |.agg ⟨[.int .i64 b]⟩=>if a=b then some (i,e.val) else lookP a es (i+1)
   |_=>none
theorem find316 {a:Int}:∀(es:List MapEntry) (i:Nat) (w:World),(∀e∈es,∃b,e.key=PK b)→(Instr.findAsking 316 (PK a) es i).run Tryz.prog w=.ok (lookP a es i) w
 | [],i,w,h=>rfl
 |e::es,i,w,h=>by
   obtain⟨b,hb⟩:=h e List.mem_cons_self;have ih:=find316 (a:=a) es (i+1) w (fun x hx=>h x (List.mem_cons_of_mem _ hx));unfold Instr.findAsking lookP;rw[Sem.run_bind,hb,eq316];simp only[Result.andThen_ok,PK]
   by_cases hab:a=b
   ·subst hab
    simp
   ·have h1:(a==b)=false:=by simpa using hab
    rw[h1];simp only[if_neg hab];exact ih
theorem findKey316 {a:Int} (es:List MapEntry) (w:World) (h:∀e∈es,∃b,e.key=PK b):(Instr.findKey 316 (PK a) es).run Tryz.prog w=.ok (lookP a es 0) w:=by
 unfold Instr.findKey;simp only[Sem.run_bind,run_underlying Tryz.underlying316,Result.andThen_ok]
 cases es with
 |nil=>rfl
 |cons e es=>
   obtain⟨b,hb⟩:=h e List.mem_cons_self;simp only[Instr.findNow,hb,PK,Instr.sameNow];exact find316 _ 0 w h
theorem checkKey316 (empty:Bool) (a:Int) (w:World):(Instr.checkKey empty 10000 316 (PK a)).run Tryz.prog w=.ok () w:=by
 cases empty<;>kernel_rfl
theorem look_place {t et:TypeId} {r:Nat} {fs:Array MapEntry} {c:Nat} {w:World} {a:Int} {ok:Bool} {z:Value} (hu:Tryz.prog.underlying t=some (.map 316 et)) (hz:∀w,(zeroValue et).run Tryz.prog w=.ok z w) (hr:w.heap[r]?=some (.map fs c)) (hk:∀e∈fs.toList,∃b,e.key=PK b) :
 (Instr.lookup t (.map (some r)) (PK a) ok).run Tryz.prog w=match lookP a fs.toList 0 with
  |some (_,v)=>.ok (if ok then .tuple #[v,.bool true] else v) w
  |none=>.ok (if ok then .tuple #[z,.bool false] else z) w:=by
 have hf:=fun w=>findKey316 (a:=a) fs.toList w hk;generalize lookP a fs.toList 0=q at hf ⊢;rw[run_look hu (.inr ⟨r,c,rfl,hr⟩) (fun w=>checkKey316 _ a w) hf]
 cases q with
 |some q=>rfl
 |none=>show ((zeroValue et).run Tryz.prog w).andThen _=_;rw[hz];rfl
def KK (l s:Int):Value:=.agg #[.int .i64 l,.int .i64 s]
theorem eq219 (a b c d:Int) (w:World):(Op.equal 219 (KK a b) (KK c d)).run Tryz.prog w=.ok (a==c&&b==d) w:=by
 have e3:∀(a b:Int) (w:World),(Op.equalIn 9999 3 (.int .i64 a) (.int .i64 b)).run Tryz.prog w=.ok (a==b) w:=fun a b w=>run_equalIn_int w 9998 3 .i64 .i64 _ _ Tryz.underlying3
 have p1:∀(m n:Int) (w:World),(part 3 #[.int .i64 m,.int .i64 n] 0).run Tryz.prog w=.ok (.int .i64 m) w:=fun m n w=>by kernel_rfl
 have p2:∀(m n:Int) (w:World),(part 3 #[.int .i64 m,.int .i64 n] 1).run Tryz.prog w=.ok (.int .i64 n) w:=fun m n w=>by kernel_rfl
 show (Op.equalIn (9999+1) 219 (KK a b) (KK c d)).run Tryz.prog w=_;rw[Op.equalIn];simp only[Sem.run_bind,run_underlying Tryz.underlying219,Result.andThen_ok,KK];simp[p1,p2,e3]
 cases hab:(a==c)<;>cases hcd:(b==d)<;>simp_all
def lookK (a b:Int):List MapEntry→Nat→Option (Nat×Value)
 | [],_=>none
 |e::es,i=>match e.key with
   |.agg ⟨[.int .i64 c,.int .i64 d]⟩=>if a=c∧b=d then some (i,e.val) else lookK a b es (i+1)
   |_=>none
theorem find219 {a b:Int}:∀(es:List MapEntry) (i:Nat) (w:World),(∀e∈es,∃c d,e.key=KK c d)→(Instr.findAsking 219 (KK a b) es i).run Tryz.prog w=.ok (lookK a b es i) w
 | [],i,w,h=>rfl
 |e::es,i,w,h=>by
   obtain⟨c,d,hb⟩:=h e List.mem_cons_self;have ih:=find219 (a:=a) (b:=b) es (i+1) w (fun x hx=>h x (List.mem_cons_of_mem _ hx));unfold Instr.findAsking lookK;rw[Sem.run_bind,hb,eq219];simp only[Result.andThen_ok,KK]
   by_cases hab:a=c∧b=d
   ·obtain⟨rfl,rfl⟩:=hab
    simp
   ·have h1:(a==c&&b==d)=false:=by
     rcases Classical.em (a=c) with h|h
     ·have:b≠d:=fun x=>hab ⟨h,x⟩
      simp[this]
     ·simp[h]
    rw[h1];simp only[if_neg hab];exact ih
theorem findKey219 {a b:Int} (es:List MapEntry) (w:World) (h:∀e∈es,∃c d,e.key=KK c d):(Instr.findKey 219 (KK a b) es).run Tryz.prog w=.ok (lookK a b es 0) w:=by
 unfold Instr.findKey;simp only[Sem.run_bind,run_underlying Tryz.underlying219,Result.andThen_ok]
 cases es with
 |nil=>rfl
 |cons e es=>
   obtain⟨c,d,hb⟩:=h e List.mem_cons_self;simp only[Instr.findNow,hb,KK,Instr.sameNow];exact find219 _ 0 w h
theorem checkKey219 (empty:Bool) (a b:Int) (w:World):(Instr.checkKey empty 10000 219 (KK a b)).run Tryz.prog w=.ok () w:=by
 cases empty<;>kernel_rfl
theorem look_key {t et:TypeId} {r:Nat} {fs:Array MapEntry} {c:Nat} {w:World} {a b:Int} {ok:Bool} {z:Value} (hu:Tryz.prog.underlying t=some (.map 219 et)) (hz:∀w,(zeroValue et).run Tryz.prog w=.ok z w) (hr:w.heap[r]?=some (.map fs c)) (hk:∀e∈fs.toList,∃c d,e.key=KK c d) :
 (Instr.lookup t (.map (some r)) (KK a b) ok).run Tryz.prog w=match lookK a b fs.toList 0 with
  |some (_,v)=>.ok (if ok then .tuple #[v,.bool true] else v) w
  |none=>.ok (if ok then .tuple #[z,.bool false] else z) w:=by
 have hf:=fun w=>findKey219 (a:=a) (b:=b) fs.toList w hk;generalize lookK a b fs.toList 0=q at hf ⊢;rw[run_look hu (.inr ⟨r,c,rfl,hr⟩) (fun w=>checkKey219 _ a b w) hf]
 cases q with
 |some q=>rfl
 |none=>show ((zeroValue et).run Tryz.prog w).andThen _=_;rw[hz];rfl
theorem lookP_key {a:Int}:∀(es:List MapEntry) (i:Nat) {j:Nat} {v:Value},lookP a es i=some (j,v)→∃e,i≤j∧es[j-i]?=some e∧e.key=PK a∧e.val=v
 | [],i,j,v,h=>by simp[lookP] at h
 |e::es,i,j,v,h=>by
   unfold lookP at h;split at h
   ·rename_i b hb
    by_cases hab:a=b
    ·subst hab
     rw[if_pos rfl] at h;injection h with h;injection h with h1 h2;subst h1 h2;exact⟨e,Nat.le_refl _,by simp,hb,rfl⟩
    ·rw[if_neg hab] at h
     obtain⟨x,h1,h2,h3⟩:=lookP_key es (i+1) h;refine⟨x,by omega,?_,h3⟩
     have:j-i=(j-(i+1))+1:=by omega
     rw[this,List.getElem?_cons_succ,h2]
   ·exact absurd h (by simp)
theorem lookK_key {a b:Int}:∀(es:List MapEntry) (i:Nat) {j:Nat} {v:Value},lookK a b es i=some (j,v)→∃e,i≤j∧es[j-i]?=some e∧e.key=KK a b∧e.val=v
 | [],i,j,v,h=>by simp[lookK] at h
 |e::es,i,j,v,h=>by
   unfold lookK at h;split at h
   ·rename_i c d hb
    by_cases hab:a=c∧b=d
    ·obtain⟨rfl,rfl⟩:=hab
     rw[if_pos ⟨rfl,rfl⟩] at h;injection h with h;injection h with h1 h2;subst h1 h2;exact⟨e,Nat.le_refl _,by simp,hb,rfl⟩
    ·rw[if_neg hab] at h
     obtain⟨x,h1,h2,h3⟩:=lookK_key es (i+1) h;refine⟨x,by omega,?_,h3⟩
     have:j-i=(j-(i+1))+1:=by omega
     rw[this,List.getElem?_cons_succ,h2]
   ·exact absurd h (by simp)
theorem bitsP (a:Int):Instr.sameBits 10000 (PK a) (PK a)=true:=by
 show Instr.sameBits (9998+2) _ _=true;simp[Instr.sameBits,PK]
theorem bitsK (a b:Int):Instr.sameBits 10000 (KK a b) (KK a b)=true:=by
 show Instr.sameBits (9998+2) _ _=true;simp[Instr.sameBits,KK]
def putM (key v:Value) (fs:Array MapEntry) (c:Nat):Option (Nat×Value)→Obj
 |some (i,_)=>.map (fs.modify i fun e=>{ e with key:=key,val:=v }) c
 |none=>.map (fs.push { key,val:=v,born:=c }) (c+1)
def delM (fs:Array MapEntry) (c:Nat):Option (Nat×Value)→Obj
 |some (i,_)=>.map (fs.eraseIdxIfInBounds i) c
 |none=>.map fs c
theorem upd_place {t et:TypeId} {r:Nat} {fs:Array MapEntry} {c:Nat} {w:World} {a:Int} {v:Value} (hu:Tryz.prog.underlying t=some (.map 316 et)) (hr:w.heap[r]?=some (.map fs c)) (hk:∀e∈fs.toList,∃b,e.key=PK b) :
 (Instr.mapUpdate t (.map (some r)) (PK a) v).run Tryz.prog w=.ok () { w with heap:=w.heap.setIfInBounds r (putM (PK a) v fs c (lookP a fs.toList 0)) }:=by
 rw[run_upd hu hr (fun w=>checkKey316 _ a w) (fun w=>findKey316 (a:=a) fs.toList w hk)]
 ·cases lookP a fs.toList 0<;>rfl
 ·intro i u h
  obtain⟨e,_,h2,h3,_⟩:=lookP_key _ _ h;rw[Nat.sub_zero,Array.getElem?_toList] at h2;rw[h2];simp only[Option.map_some,Option.getD_some,h3];exact bitsP a
theorem upd_key {t et:TypeId} {r:Nat} {fs:Array MapEntry} {c:Nat} {w:World} {a b:Int} {v:Value} (hu:Tryz.prog.underlying t=some (.map 219 et)) (hr:w.heap[r]?=some (.map fs c)) (hk:∀e∈fs.toList,∃c d,e.key=KK c d) :
 (Instr.mapUpdate t (.map (some r)) (KK a b) v).run Tryz.prog w=.ok () { w with heap:=w.heap.setIfInBounds r (putM (KK a b) v fs c (lookK a b fs.toList 0)) }:=by
 rw[run_upd hu hr (fun w=>checkKey219 _ a b w) (fun w=>findKey219 (a:=a) (b:=b) fs.toList w hk)]
 ·cases lookK a b fs.toList 0<;>rfl
 ·intro i u h
  obtain⟨e,_,h2,h3,_⟩:=lookK_key _ _ h;rw[Nat.sub_zero,Array.getElem?_toList] at h2;rw[h2];simp only[Option.map_some,Option.getD_some,h3];exact bitsK a b
theorem del_place {t et ty:TypeId} {ts:Array TypeId} {r:Nat} {fs:Array MapEntry} {c:Nat} {w:World} {a:Int} (h0:ts[0]?=some t) (hu:Tryz.prog.underlying t=some (.map 316 et)) (hr:w.heap[r]?=some (.map fs c)) (hk:∀e∈fs.toList,∃b,e.key=PK b) :
 (Builtin.delete_ ts ty #[.map (some r),PK a]).run Tryz.prog w=.ok (.tuple #[]) { w with heap:=w.heap.setIfInBounds r (delM fs c (lookP a fs.toList 0)) }:=by
 have hf:=fun w=>findKey316 (a:=a) fs.toList w hk;generalize lookP a fs.toList 0=q at hf ⊢;rw[run_del h0 hu hr (fun w=>checkKey316 _ a w) hf]
 cases q<;>rfl
theorem del_key {t et ty:TypeId} {ts:Array TypeId} {r:Nat} {fs:Array MapEntry} {c:Nat} {w:World} {a b:Int} (h0:ts[0]?=some t) (hu:Tryz.prog.underlying t=some (.map 219 et)) (hr:w.heap[r]?=some (.map fs c)) (hk:∀e∈fs.toList,∃c d,e.key=KK c d) :
 (Builtin.delete_ ts ty #[.map (some r),KK a b]).run Tryz.prog w=.ok (.tuple #[]) { w with heap:=w.heap.setIfInBounds r (delM fs c (lookK a b fs.toList 0)) }:=by
 have hf:=fun w=>findKey219 (a:=a) (b:=b) fs.toList w hk;generalize lookK a b fs.toList 0=q at hf ⊢;rw[run_del h0 hu hr (fun w=>checkKey219 _ a b w) hf]
 cases q<;>rfl
theorem mask12 (w:World):Calls Tryz.prog 243 #[.int .i64 12] w fun e w'=>e=.returned (.int .u64 4095)∧w'=w:=by
 go_enter Tryz.func243,Tryz.ntmps243;go_wp2
 go_ret
 exact⟨rfl,rfl⟩
theorem and12 (h:Nat):((h &&& 4095:Nat):Int)=((h%4096:Nat):Int):=by
 rw[show (4095:Nat)=2^12-1 from rfl,Nat.and_two_pow_sub_one_eq_mod]
theorem split_any (h:Nat) (hh:h<18446744073709551616) (w:World):Calls Tryz.prog 189 #[.int .u64 (h:Int)] w fun e w'=>e=.returned (.tuple #[.int .u64 ((h/4096:Nat):Int),.int .i64 ((h%4096:Nat):Int)])∧w'=w:=by
 go_enter Tryz.func189,Tryz.ntmps189
 go_wp2_with (go_at_call 243;refine(mask12 _).mono ?_;rintro e w' ⟨rfl,rfl⟩)
 have hb:bits .and .u64 (h:Int) 4095=((h%4096:Nat):Int):=by
  rw[←and12];exact bits_and_u64_nat h 4095 hh (by decide)
 have hw:wrap64 (bits .and .u64 (h:Int) 4095)=((h%4096:Nat):Int):=by
  rw[hb];unfold wrap64;omega
 refine bodyPost_ret (v:=.tuple #[.int .u64 ((h/4096:Nat):Int),.int .i64 ((h%4096:Nat):Int)]) ?_ rfl ⟨rfl,rfl⟩;simp[results,Tryz.results189,go_sem,hw]
end Go.Proofs.YtkndlfdpmpdihaaGreatDoor
namespace Go.Proofs.YtkndlfdpmpdihaaGreatDoor
open Go.RowKit
set_option linter.unusedVariables false
structure WX (w0:World) where
 w:World
 h:Below w0.heap.size w0 w
instance WX.ne (w0:World):Nonempty (WX w0):=⟨⟨w0,Below.refl _ _⟩⟩
theorem WX.cell {w0:World} (x:WX w0) {b o:Nat} {v:Value} (hc:w0.cell? ⟨b,o,none⟩=some v):x.w.cell? ⟨b,o,none⟩=some v:=by
 have hlt:=World.block_lt_of_cell? (w:=w0) (a:=⟨b,o,none⟩) hc;rw[x.h.cell (p:=⟨b,o,none⟩) hlt];exact hc
theorem WX.of {P:Program} {f:FuncId} {args:Array Value} {w0:World} {x:WX w0} {v:Value}
 (h:Calls P f args x.w fun e w'=>e=.returned v∧Below x.w.heap.size x.w w'):Calls P f args x.w fun e w''=>e=.returned v∧∃y:WX w0,w''=y.w:=
 h.mono fun _ w' ⟨he,hb⟩=>⟨he,⟨w',x.h.trans (hb.mono x.h.size)⟩,rfl⟩
theorem WX.of_same {P:Program} {f:FuncId} {args:Array Value} {w0:World} {x:WX w0} {v:Value}
 (h:Calls P f args x.w fun e w'=>e=.returned v∧x.w=w'):Calls P f args x.w fun e w''=>e=.returned v∧∃y:WX w0,w''=y.w:=
 h.mono fun _ w' ⟨he,hb⟩=>⟨he,x,hb.symm⟩
theorem wp_region_grown {P:Program} {id:Nat} {Q:Exit→Act→World→Prop} {a:Act} {w:World} {l:List Oper} (hm:P.follows .mixedOrders=true) (hB:Region.lexB .any l.toArray=true)
 (h:wpQuiet P l.toArray (fun w'=>∃x:WX w,w'=x.w) (fun a'=>∀w',Below w.heap.size w w'→Q .normal a' w') l a):(Code.region id l.toArray true).wp P Q a w:=
 wp_region_quiet (C:=fun w'=>∃x:WX w,w'=x.w) hm hB ⟨⟨w.drew,(Below.refl _ _).drew⟩,rfl⟩ (by
  have:(fun a'=>∀w',(∃x:WX w,w'=x.w)→Q .normal a' w')=(fun a'=>∀w',Below w.heap.size w w'→Q .normal a' w'):=by
   funext a';apply propext;constructor
   ·intro h w' hb;exact h w' ⟨⟨w',hb⟩,rfl⟩
   ·rintro h w' ⟨x,rfl⟩;exact h _ x.h
  rw[this];simpa using h)
def Blk (w:World) (b:Nat) (vs:Array Value) (T:TypeId):Prop:=w.heap[b]?=some (.cells vs T (0,0))
theorem Blk.cell {w:World} {b:Nat} {vs:Array Value} {T:TypeId} (h:Blk w b vs T) (j:Nat) {v:Value} (hv:vs[j]?=some v):w.cell? ⟨b,j,none⟩=some v:=by
 unfold Blk at h;simp[World.cell?,h,hv]
theorem Blk.free {w:World} {b:Nat} {vs:Array Value} {T:TypeId} (h:Blk w b vs T) (j:Nat):w.frozen? ⟨b,j,none⟩=false:=by
 unfold Blk at h;simp[World.frozen?,h]
theorem Blk.lt {w:World} {b:Nat} {vs:Array Value} {T:TypeId} (h:Blk w b vs T):b<w.heap.size:=by
 unfold Blk at h;exact(Array.getElem?_eq_some_iff.1 h).1
theorem Blk.below {w w':World} {B b:Nat} {vs:Array Value} {T:TypeId} (h:Blk w b vs T) (hb:Below B w w') (hlt:b<B):Blk w' b vs T:=by
 unfold Blk at *;rw[hb.block b hlt];exact h
theorem Blk.set {w:World} {b:Nat} {vs:Array Value} {T:TypeId} (h:Blk w b vs T) (j:Nat) (v:Value):Blk (w.setCell ⟨b,j,none⟩ v) b (vs.setIfInBounds j v) T:=by
 unfold Blk at *;simp[World.setCell,Array.getElem?_modify,h]
theorem Blk.set_ne {w:World} {b c:Nat} {vs:Array Value} {T:TypeId} (h:Blk w b vs T) (j:Nat) (v:Value) (hne:c≠b):Blk (w.setCell ⟨c,j,none⟩ v) b vs T:=by
 unfold Blk at *;simp[World.setCell,Array.getElem?_modify,hne,h]
theorem Blk.alloc {w:World} {b:Nat} {vs:Array Value} {T:TypeId} (h:Blk w b vs T) (o:Obj):Blk (w.alloc o) b vs T:=by
 have:=h.lt;unfold Blk at *;rw[←h];exact Below.heap_alloc w o b this
theorem Blk.drew {w:World} {b:Nat} {vs:Array Value} {T:TypeId} (h:Blk w b vs T):Blk w.drew b vs T:=h
theorem Blk.new (w:World) (vs:Array Value) (T:TypeId):Blk (w.alloc (.cells vs T)) w.heap.size vs T:=by
 unfold Blk;show (w.heap.push _)[w.heap.size]?=_;simp
abbrev I (n:Int):Value:=.int .i64 n
abbrev U (n:Int):Value:=.int .u32 n
abbrev L (n:Int):Value:=.int .u64 n
theorem Blk.grown {w w':World} {g:Nat} {t:TypeId} {cs:Array Value} {row:Option Nat} (h:Blk w g cs t) (hb:w.grownBy w' row) (hg:some g≠row):Blk w' g cs t:=(hb.block g h.lt hg).trans h
theorem Blk.ne_ {w:World} {g g':Nat} {t t':TypeId} {cs cs':Array Value} (h:Blk w g cs t) (h':Blk w g' cs' t') (hne:t≠t'):g≠g':=by
 rintro rfl;unfold Blk at h h';rw[h] at h';injection h' with h';injection h' with _ ht;exact hne ht
theorem own_base {w:World} {base:Nat} {e:TypeId} {size n:Nat} {v:Value} {xs:List Value} (h:w.ownsRow base e size v n xs):∀k,v.ownBlock=some k→base≤k:=by
 rcases h.2 with⟨rfl,_⟩|⟨g',cap,cur,rfl,hb,hh,_⟩
 ·intro k hk;simp[Value.ownBlock] at hk
 ·intro k hk
  have:g'=k:=by simpa[Value.ownBlock] using hk
  omega
theorem Blk.wx {w:World} {b:Nat} {vs:Array Value} {T:TypeId} (h:Blk w b vs T) (j:Nat) {v:Value} (hv:vs[j]?=some v):∀x:WX w,x.w.cell? ⟨b,j,none⟩=some v:=fun x=>x.cell (h.cell j hv)
end Go.Proofs.YtkndlfdpmpdihaaGreatDoor
namespace Go.Proofs.YtkndlfdpmpdihaaGreatDoor
open Go.RowKit Go.Ev
set_option linter.unusedVariables false
set_option linter.unusedSimpArgs false
def poolV (re ro:Nat) (ta:Value) (room:Int):Array Value:=#[.map (some re),.map (some ro),ta,.int .i64 room]
def oldV:Option (Nat×Value)→Value
 |some (_,v)=>v
 |none=>.int .u64 0
theorem quiet_look {P:Program} {C:World→Prop} {a:Act} {o:Oper} {K:Act→Prop} (mo ko:Operand) {t:TypeId} {ok:Bool} {v:Value} (h:o.op=.lookup t mo ko ok) (hl:∀w,C w→(Instr.lookup t (a.eval mo) (a.eval ko) ok).run P w=.ok v w) (hk:K (a.put o.dst v)):o.quiet P a C K:=
 ⟨v,fun w hw=>by
  unfold Oper.quietAt;unfold execOp;rw[h];simp only[Functor.map,Sem.run_bind,Sem.run_map,hl w hw,Result.andThen_ok]
  exact⟨rfl,rfl⟩,hk⟩
theorem handle_any {b re ro room:Nat} {ta:Value} {fs:Array MapEntry} {c:Nat} {w:World} {a g:Nat} (h:Blk w b (poolV re ro ta room) 320) (ho:w.heap[ro]?=some (.map fs c)) (hk:∀e∈fs.toList,∃b,e.key=PK b)
 (hg:oldV (lookP a fs.toList 0)=.int .u64 (g:Int)) (hg1:g<4294967295) (ha:a<4096) :
 Calls Tryz.prog 177 #[.pointer (some ⟨b,0,none⟩),PK a] w fun e w'=>e=.returned (.int .u64 (((g+1)*4096+a:Nat):Int))∧Below w.heap.size w w':=by
 show Calls Tryz.prog 177 #[.pointer (some ⟨b,0,none⟩),.agg #[.int .i64 (a:Int)]] w _;go_enter Tryz.func177,Tryz.ntmps177;go_wp2;have hS:Blk (w.alloc (.cells #[.int .i64 (a:Int)] 316)) w.heap.size #[.int .i64 (a:Int)] 316:=Blk.new w _ _;have h':=h.alloc (.cells #[.int .i64 (a:Int)] 316)
 have ho':(w.alloc (.cells #[.int .i64 (a:Int)] 316)).heap[ro]?=some (.map fs c):=by
  rw[Below.heap_alloc _ _ _ (Array.getElem?_eq_some_iff.mp ho).1,ho]
 have hB:Below w.heap.size w (w.alloc (.cells #[.int .i64 (a:Int)] 316)):=(Below.refl _ w).alloc (Nat.le_refl _) _;generalize hrb:w.heap.size=rb at hS hB ⊢;generalize hw1:w.alloc (.cells #[.int .i64 (a:Int)] 316)=w1 at hS h' ho' hB ⊢
 have hl:∀x:WX w1,(Instr.lookup 318 (.map (some ro)) (.agg #[.int .i64 (a:Int)]) false).run Tryz.prog x.w=.ok (.int .u64 (g:Int)) x.w:=by
  intro x
  have hx:x.w.heap[ro]?=some (.map fs c):=by
   rw[x.h.block ro (Array.getElem?_eq_some_iff.mp ho').1,ho']
  have:=look_place (t:=318) (et:=37) (a:=(a:Int)) (ok:=false) (z:=.int .u64 0) (by kernel_rfl) (fun w=>by kernel_rfl) hx hk;rw[show Value.agg #[.int .i64 (a:Int)]=PK a from rfl,this]
  cases hq:lookP a fs.toList 0 with
  |none=>rw[hq] at hg;simp only[oldV] at hg;simp[hg]
  |some q=>rw[hq] at hg;simp only[oldV] at hg;simp[hg]
 have c1:=h'.wx 1 rfl;have c2:=hS.wx 0 rfl;refine wp_region_grown (by kernel_rfl) (by kernel_rfl) ?_
 repeat (go_big_quiet_step (fail))
 refine BigFrame.wpQuiet_want (by rfl) ?_;intro K hK;refine quiet_look _ _ rfl (v:=.int .u64 (g:Int)) ?_ ?_
 ·rintro w ⟨x,rfl⟩
  exact hl x
 refine hK _ ?_;simp only[Act.put,List.setIfInBounds_toArray,List.set_cons_succ,List.set_cons_zero]
 repeat (go_big_quiet_step (fail))
 refine wpQuiet_nil ?_;intro w2 hb
 have hor:bits .or .u64 (((g:Int)+1)*4096) (a:Int)=(((g+1)*4096+a:Nat):Int):=by
  have h1:=bits_or_u64_nat ((g+1)*4096) a (by omega) (by omega)
  have h2:(g+1)*4096 ||| a=(g+1)*4096+a:=by
   have:=Nat.two_pow_add_eq_or_of_lt (i:=12) (b:=a) ha (g+1);rw[show (g+1)*4096=2^12*(g+1) by omega,this]
  rw[h2] at h1;rw[←h1];congr 1
 rw[hor];go_wp2;refine bodyPost_ret (v:=.int .u64 (((g+1)*4096+a:Nat):Int)) ?_ rfl ⟨rfl,?_⟩
 ·simp[results,Tryz.results177,go_sem]
 ·rw[hrb];exact hB.trans (hb.mono (by rw[←hw1,←hrb];simp[World.alloc_eq]))
end Go.Proofs.YtkndlfdpmpdihaaGreatDoor
namespace Go.Mv
open Go.RowKit
set_option linter.unusedVariables false
set_option linter.unusedSimpArgs false
section
variable {P:Program} {ops:Array Oper} {D:Array Bool→World→Prop}
def upon (P:Program) (E:World→Prop) (v:Value):Result Next→Prop
 |.ok (.value u) w=>E w∧u=v
 |.ok .skip w=>E w∧v=undef
 |.ok (.enter f args) w=>Calls P f args w (fun e w'=>e=.returned v∧E w')
 |_=>False
def does (P:Program) (o:Oper) (a:Act) (E:World→Prop) (w:World) (v:Value):Prop:=upon P E v ((execOp a.eval o).run P w)
def Yld (P:Program) (ops:Array Oper) (D:Array Bool→World→Prop) (k:Nat) (o:Oper) (v:Value) (a:Act):Prop:=
 ∀L w,k∈Region.ready .any ops L→D L w →
  (Region.wanted o (yielded ops a.tmps)=true∧does P o a (D (L.setIfInBounds k true)) w v)∨(Region.wanted o (yielded ops a.tmps)=false∧v=undef∧D (L.setIfInBounds k true) w)
def stp (P:Program) (ops:Array Oper) (D:Array Bool→World→Prop) (k:Nat) (K:Act→Prop) (a:Act):Prop:=
 match ops[k]? with
 |none=>False
 |some o=>∃v,Yld P ops D k o v a∧K (a.put o.dst v)
theorem stp_mono {k:Nat} {a:Act} {K K':Act→Prop} (h:∀a,K a→K' a) (hh:stp P ops D k K a):stp P ops D k K' a:=by
 unfold stp at *;split
 ·rename_i h0;rw[h0] at hh;exact hh
 ·rename_i o h0
  rw[h0] at hh;obtain⟨v,h1,h2⟩:=hh;exact⟨v,h1,h _ h2⟩
def anyM (P:Program) (ops:Array Oper) (D:Array Bool→World→Prop) (Q:Act→Prop):Nat→Array Bool→Act→Prop
 | 0,L,a=>Region.ready .any ops L=[]∧(∀j,j<ops.size→L.getD j true=true)∧Q a
 |n+1,L,a=>(Region.ready .any ops L=[]→(∀j,j<ops.size→L.getD j true=true)∧Q a)∧∀i∈Region.ready .any ops L,stp P ops D i (anyM P ops D Q n (L.setIfInBounds i true)) a
theorem wp_of_does {o:Oper} {a:Act} {w:World} {v:Value} {E:World→Prop} {K:Act→World→Prop} {Q:Exit→Act→World→Prop} (h:does P o a E w v) (hK:∀w',E w'→K (a.put o.dst v) w'):o.wp P a w K Q:=by
 unfold does at h;unfold Oper.wp;generalize (execOp a.eval o).run P w=r at *
 cases r with
 |halt x w'=>exact h.elim
 |ok n w'=>
   cases n with
   |value u=>obtain⟨h1,rfl⟩:=h;exact hK _ h1
   |skip=>obtain⟨h1,rfl⟩:=h;exact hK _ h1
   |enter f args=>exact h.mono fun e w'' ⟨he,hw⟩=>by subst he;exact hK _ hw
   |_=>exact h.elim
theorem wpAny_of {Q:Act→Prop} {Q':Exit→Act→World→Prop} (hQ:∀L a w,(∀j,j<ops.size→L.getD j true=true)→D L w→Q a→Q' .normal a w):∀(n:Nat) (L:Array Bool) (a:Act) (w:World),D L w→anyM P ops D Q n L a→wpAny P .any ops Q' n L a w
 | 0,L,a,w,hD,h=>⟨h.1,hQ L a w h.2.1 hD h.2.2⟩
 |n+1,L,a,w,hD,h=>by
   refine⟨fun h0=>hQ L a w (h.1 h0).1 hD (h.1 h0).2,fun i hi=>?_⟩;have h1:=h.2 i hi;unfold stp at h1;unfold wpOp;split
   ·rename_i h0;rw[h0] at h1;exact h1.elim
   ·rename_i o h0
    rw[h0] at h1;obtain⟨v,hy,hK⟩:=h1;rcases hy L w hi hD with⟨hw,ha⟩|⟨hw,rfl,hd⟩
    ·rw[if_pos hw]
     exact .inl (wp_of_does ha fun w' hw'=>wpAny_of hQ n _ _ _ hw' hK)
    ·rw[if_neg (by rw[hw];decide)]
     exact wpAny_of hQ n _ _ _ hd hK
theorem Yld.same {k:Nat} {o:Oper} {v:Value} {a a':Act} (h:Yld P ops D k o v a) (he:execOp a'.eval o=execOp a.eval o) (hw:Region.wanted o (yielded ops a'.tmps)=Region.wanted o (yielded ops a.tmps)):Yld P ops D k o v a':=by
 intro L w hk hD;have:=h L w hk hD;unfold does at *
 rwa [he,hw]
theorem stp_put {j i:Nat} {oi oj:Oper} {v:Value} (hj:ops[j]?=some oj) (hap:oi.apart ops oj=true) (hsi:∀cs b,oi.op≠.select cs b) (hsj:∀cs b,oj.op≠.select cs b) {K:Act→Prop} {a:Act} (hy:Yld P ops D i oi v a)
 (h:stp P ops D j K (a.put oi.dst v)):stp P ops D j (fun a'=>Yld P ops D i oi v a'∧K (a'.put oi.dst v)) a:=by
 obtain⟨h1,h2,h3⟩:=Oper.apart_spec hap;unfold stp at *;simp only[hj] at *;obtain⟨u,hu,hK⟩:=h;refine⟨u,?_,hy.same (execOp_put oi hsi a oj.dst u h3) (wanted_put oi a oj.dst u h3),by rw[←Act.put_comm a v u h2];exact hK⟩;exact hu.same (execOp_put oj hsj a oi.dst v h1).symm (wanted_put oj a oi.dst v h1).symm
theorem anyM_first {Q:Act→Prop} {i:Nat} {oi:Oper} {v:Value} (hi:ops[i]?=some oi) (hsel:∀(j:Nat) (o:Oper) cs b,ops[j]?=some o→o.op≠.select cs b) :
 ∀(n:Nat) (L:Array Bool) (a:Act),(∀j oj,ops[j]?=some oj→j≠i→L.getD j true=false→(∀e∈oj.after,Region.binds .any e=true→e.on≠i)→oi.apart ops oj=true) →
  i∈Region.ready .any ops L→Yld P ops D i oi v a→anyM P ops D Q n (L.setIfInBounds i true) (a.put oi.dst v)→anyM P ops D Q (n+1) L a
 |n,L,a,hfree,hr,hy,H=>by
   have hstp:∀ {K:Act→Prop},K (a.put oi.dst v)→stp P ops D i K a:=fun hK=>by
    unfold stp;simp only[hi];exact⟨v,hy,hK⟩
   refine⟨fun h=>(by rw[h] at hr;cases hr),fun j hj=>?_⟩
   by_cases hji:j=i
   ·subst hji;exact hstp H
   cases n with
   |zero=>
     have:=ready_mono hj hji;rw[H.1] at this;cases this
   |succ n=>
     have h1:=H.2 j (ready_mono hj hji);obtain⟨hjun,oj,hoj,hall⟩:=mem_ready.1 hj
     have hnot:∀e∈oj.after,Region.binds .any e=true→e.on≠i:=fun e he hb heq=>by
      have h1:=hall e he hb;have h0:=(mem_ready.1 hr).1;rw[heq] at h1;rcases Nat.lt_or_ge i L.size with h'|h'
      ·simp[h'] at h0 h1;rw[h0] at h1;cases h1
      ·simp[Array.getElem?_eq_none h'] at h1
     have h2:=stp_put (i:=i) hoj (hfree j oj hoj hji hjun hnot) (fun cs b=>hsel i oi cs b hi) (fun cs b=>hsel j oj cs b hoj) hy h1;refine stp_mono (fun a' h3=>anyM_first hi hsel n (L.setIfInBounds j true) a' ?_ (ready_mono hr (Ne.symm hji)) h3.1 ?_) h2
     ·intro k ok hk hki hun hno
      refine hfree k ok hk hki ?_ hno
      by_cases hjk:j=k
      ·subst hjk;exact hjun
      ·rw[getD_set_ne true hjk] at hun;exact hun
     ·rw[Array.setIfInBounds_comm _ _ hji]
      exact h3.2
def lexM (P:Program) (ops:Array Oper) (D:Array Bool→World→Prop) (Q:Act→Prop):List Oper→Nat→Act→Prop
 | [],_,a=>Q a
 |o::l,k,a=>∃v,Yld P ops D k o v a∧lexM P ops D Q l (k+1) (a.put o.dst v)
theorem getD_set_self {L:Array Bool} {i:Nat}:(L.setIfInBounds i true).getD i true=true:=by
 rcases Nat.lt_or_ge i L.size with h|h
 ·simp[h]
 ·simp[Array.getElem?_eq_none h]
theorem anyM_lex {Q:Act→Prop} (hs:Region.noSelect ops=true):∀(l:List Oper) (k:Nat) (L:Array Bool) (a:Act),(∀j,l[j]?=ops[k+j]?)→(∀j,j<k→L.getD j true=true) →
 Region.lexFrom .any ops l.length k L=true→lexM P ops D Q l k a→anyM P ops D Q l.length L a
 | [],k,L,a,hl,hk,hB,h=>by
   refine⟨by simpa[Region.lexFrom] using hB,fun j hj=>?_,h⟩
   by_cases h1:j<k
   ·exact hk j h1
   ·have:=hl (j-k)
    rw[show k+(j-k)=j by omega,Array.getElem?_eq_getElem hj] at this;simp at this
 |o::l,k,L,a,hl,hk,hB,h=>by
   have h0:ops[k]?=some o:=by simpa using(hl 0).symm
   simp only[List.length_cons,Region.lexFrom,Bool.and_eq_true] at hB;obtain⟨⟨hr,hf⟩,hB'⟩:=hB;obtain⟨v,hy,hK⟩:=h
   exact anyM_first h0 (Region.noSelect_spec hs) l.length L a (Region.free_spec h0 hf) (by simpa using hr) hy
    (anyM_lex hs l (k+1) _ _ (fun j=>by have:=hl (j+1);simpa[Nat.add_assoc,Nat.add_comm 1 j] using this) (fun j hj=>by
     by_cases hjk:k=j
     ·subst hjk;exact getD_set_self
     ·rw[getD_set_ne true hjk];exact hk j (by omega)) hB' hK)
theorem wp_region_lexM {id:Nat} {Q:Exit→Act→World→Prop} {a:Act} {w:World} (hm:P.follows .mixedOrders=true) (hB:Region.lexB .any ops=true) (hD:D (Array.replicate ops.size false) w.drew)
 (h:lexM P ops D (fun a'=>∀L w',(∀j,j<ops.size→L.getD j true=true)→D L w'→Q .normal a' w') ops.toList 0 a):(Code.region id ops true).wp P Q a w:=by
 simp only[Region.lexB,Bool.and_eq_true] at hB;refine wp_region_any hm (wpAny_of (D:=D) (Q:=fun a'=>∀L w',(∀j,j<ops.size→L.getD j true=true)→D L w'→Q .normal a' w') (fun L a w hL hD h=>h L w hL hD) _ _ _ _ hD ?_);have:=anyM_lex (P:=P) (D:=D) hB.1 ops.toList 0 (Array.replicate ops.size false) a (by simp) (by omega) (by simpa using hB.2) h;simpa using this
end
structure Two (E:Bool→World→Prop) where
 b:Bool
 w:World
 h:E b w
section
variable {P:Program} {ops:Array Oper} {E:Bool→World→Prop} {s:Nat}
def waits (ops:Array Oper) (s1 s2:Nat):Bool:=match ops[s2]? with
 |some o=>o.after.any fun e=>Region.binds .any e&&e.on==s1
 |none=>false
theorem waits_listed {L:Array Bool} {k s:Nat} (h:s∈Region.ready .any ops L) (hw:waits ops k s=true):L.getD k true=true:=by
 obtain⟨hj,o',ho',hall⟩:=mem_ready.1 h;unfold waits at hw;rw[ho'] at hw;obtain⟨i,hi,hb⟩:=Array.any_eq_true.1 hw;rw[Bool.and_eq_true] at hb;have h4:=hall _ (Array.getElem_mem hi) hb.1;rw[beq_iff_eq] at hb;rw[hb.2] at h4;rcases Nat.lt_or_ge k L.size with h'|h'
 ·simp[h'] at h4 ⊢;exact h4
 ·simp[Array.getElem?_eq_none h']
theorem set_true {L:Array Bool} {k j:Nat} (h:L.getD j true=true):(L.setIfInBounds k true).getD j true=true:=by
 by_cases hk:k=j
 ·subst hk;exact getD_set_self
 ·rw[getD_set_ne true hk];exact h
def reachL (ops:Array Oper):Nat→List Nat→List Nat
 | 0,acc=>acc
 |m+1,acc=>reachL ops m (if acc.any (fun j=>waits ops m j) then m::acc else acc)
def waitsT (ops:Array Oper) (k s:Nat):Bool:=(reachL ops s [s]).contains k
def Clo (ops:Array Oper) (L:Array Bool):Prop:=∀j k,j<ops.size→L.getD j true=true→waits ops k j=true→L.getD k true=true∧k<ops.size
theorem waits_lt {ops:Array Oper} {L:Array Bool} {k s:Nat} (h:s∈Region.ready .any ops L) (hw:waits ops k s=true) (hsz:L.size=ops.size):k<ops.size:=by
 obtain⟨hj,o',ho',hall⟩:=mem_ready.1 h;unfold waits at hw;rw[ho'] at hw;obtain⟨i,hi,hb⟩:=Array.any_eq_true.1 hw;rw[Bool.and_eq_true] at hb;have h4:=hall _ (Array.getElem_mem hi) hb.1;rw[beq_iff_eq] at hb;rw[hb.2] at h4;rcases Nat.lt_or_ge k ops.size with h'|h'
 ·exact h'
 ·rw[←hsz] at h'
  simp[Array.getElem?_eq_none h'] at h4
theorem Clo.set {ops:Array Oper} {L:Array Bool} {i:Nat} (h:Clo ops L) (hsz:L.size=ops.size) (hi:i∈Region.ready .any ops L):Clo ops (L.setIfInBounds i true):=by
 intro j k hj hl hw
 by_cases hij:i=j
 ·subst hij
  exact⟨set_true (waits_listed hi hw),waits_lt hi hw hsz⟩
 ·rw[getD_set_ne true hij] at hl
  have:=h j k hj hl hw;exact⟨set_true this.1,this.2⟩
theorem reach_listed {ops:Array Oper} {L:Array Bool} (h:Clo ops L):∀(m:Nat) (acc:List Nat),(∀j∈acc,L.getD j true=true∧j<ops.size)→∀j∈reachL ops m acc,L.getD j true=true∧j<ops.size
 | 0,acc,ha=>ha
 |m+1,acc,ha=>by
   unfold reachL;refine reach_listed h m _ ?_;split
   ·rename_i hany
    obtain⟨j,hj,hw⟩:=List.any_eq_true.1 hany;intro x hx;rcases List.mem_cons.1 hx with rfl|hx
    ·exact h j x (ha j hj).2 (ha j hj).1 hw
    ·exact ha x hx
   ·exact ha
theorem waitsT_listed {ops:Array Oper} {L:Array Bool} {k s:Nat} (h:Clo ops L) (hs:s<ops.size) (hl:L.getD s true=true) (hw:waitsT ops k s=true):L.getD k true=true:=by
 unfold waitsT at hw;exact(reach_listed h s [s] (fun j hj=>by rw[List.mem_singleton.1 hj];exact⟨hl,hs⟩) k (by simpa using hw)).1
def dOf (ops:Array Oper) (E:Bool→World→Prop) (s:Nat):Array Bool→World→Prop:=fun L w=>(L.size=ops.size∧Clo ops L)∧E (L.getD s true) w
def lexS (P:Program) (ops:Array Oper) (E:Bool→World→Prop) (s:Nat) (Q:Act→Prop):List Oper→Nat→Act→Prop
 | [],_,a=>Q a
 |o::l,k,a=>if Region.wanted o (yielded ops a.tmps) then(if k=s then ∃v,(∀w,E false w→does P o a (E true) w v)∧lexS P ops E s Q l (k+1) (a.put o.dst v)
  else ∃v,(∀x:Two E,(waitsT ops k s=true→x.b=false)→does P o a (E x.b) x.w v)∧lexS P ops E s Q l (k+1) (a.put o.dst v)) else k≠s∧lexS P ops E s Q l (k+1) (a.put o.dst undef)
theorem lexS_M (hss:s<ops.size) {Q:Act→Prop}:∀(l:List Oper) (k:Nat) (a:Act),(∀j,l[j]?=ops[k+j]?)→lexS P ops E s Q l k a→lexM P ops (dOf ops E s) Q l k a
 | [],_,_,_,h=>h
 |o::l,k,a,hl,h=>by
   have ih:=fun a=>lexS_M hss (Q:=Q) l (k+1) a
   have hl2:∀j,l[j]?=ops[k+1+j]?:=fun j=>by have:=hl (j+1);simpa[Nat.add_assoc,Nat.add_comm 1 j] using this
   have plain:∀ {L:Array Bool} {w:World},k≠s→k∈Region.ready .any ops L→dOf ops E s L w→dOf ops E s (L.setIfInBounds k true)=E (L.getD s true):=fun{L w} hk hr hD=>by
    funext w'
    apply propext;unfold dOf;rw[getD_set_ne true hk];exact⟨fun h=>h.2,fun h=>⟨⟨by simpa using hD.1.1,hD.1.2.set hD.1.1 hr⟩,h⟩⟩
   unfold lexS at h;unfold lexM;split at h
   ·rename_i hw
    split at h
    ·rename_i hk
     obtain⟨v,h1,h2⟩:=h;refine⟨v,fun L w hr hD=>.inl ⟨hw,?_⟩,ih _ hl2 h2⟩
     have e:L.getD s true=false:=by rw[←hk];exact(mem_ready.1 hr).1
     have hD2:=hD.2;rw[e] at hD2
     have e3:dOf ops E s (L.setIfInBounds k true)=E true:=by
      funext w'
      apply propext;unfold dOf;rw[hk,getD_set_self];exact⟨fun h=>h.2,fun h=>⟨⟨by simpa using hD.1.1,hD.1.2.set hD.1.1 (by rw[←hk];exact hr)⟩,h⟩⟩
     rw[e3];exact h1 w hD2
    ·rename_i hk
     obtain⟨v,h1,h2⟩:=h;refine⟨v,fun L w hr hD=>.inl ⟨hw,?_⟩,ih _ hl2 h2⟩;rw[plain hk hr hD];refine h1 ⟨_,w,hD.2⟩ (fun hwt=>?_);show L.getD s true=false
     cases hs:L.getD s true with
     |false=>rfl
     |true=>
       have h3:=waitsT_listed hD.1.2 hss hs hwt;rw[(mem_ready.1 hr).1] at h3;cases h3
   ·rename_i hw
    obtain⟨hk,h2⟩:=h;refine⟨undef,fun L w hr hD=>.inr ⟨by simpa using hw,rfl,?_⟩,ih _ hl2 h2⟩;rw[plain hk hr hD];exact hD.2
theorem lexS_mono {Q Q':Act→Prop} (hQ:∀a,Q a→Q' a):∀(l:List Oper) (k:Nat) (a:Act),lexS P ops E s Q l k a→lexS P ops E s Q' l k a
 | [],_,_,h=>hQ _ h
 |o::l,k,a,h=>by
   have ih:=fun a=>lexS_mono hQ l (k+1) a;unfold lexS at h ⊢;split at h
   ·rename_i hw
    rw[if_pos hw];split at h
    ·rename_i hk
     rw[if_pos hk];obtain⟨v,h1,h2⟩:=h;exact⟨v,h1,ih _ h2⟩
    ·rename_i hk
     rw[if_neg hk];obtain⟨v,h1,h2⟩:=h;exact⟨v,h1,ih _ h2⟩
   ·rename_i hw
    rw[if_neg hw];exact⟨h.1,ih _ h.2⟩
theorem wp_region_two {id:Nat} {Q:Exit→Act→World→Prop} {a:Act} {w:World} {l:List Oper} (E:Bool→World→Prop) (s:Nat) (hs:s<l.length) (hm:P.follows .mixedOrders=true) (hB:Region.lexB .any l.toArray=true) (hE:E false w.drew)
 (h:lexS P l.toArray E s (fun a'=>∀w',E true w'→Q .normal a' w') l 0 a):(Code.region id l.toArray true).wp P Q a w:=by
 refine wp_region_lexM (D:=dOf l.toArray E s) hm hB ?_ (lexS_M (by simpa using hs) _ _ _ (by simp) ?_)
 ·have:(Array.replicate l.toArray.size false).getD s true=false:=by simp[hs]
  unfold dOf;rw[this];refine⟨⟨by simp,fun j k hj hl=>?_⟩,hE⟩;simp at hj;simp[hj] at hl
 ·refine lexS_mono (fun a' h L w' hL hD=>?_) _ _ _ h
  refine h w' ?_;have:=hD.2
  rwa [hL s (by simpa using hs)] at this
theorem lexS_skip {Q:Act→Prop} {o:Oper} {l:List Oper} {k:Nat} {a:Act} (hw:Region.wanted o (yielded ops a.tmps)=false) (hk:k≠s) (h:lexS P ops E s Q l (k+1) (a.put o.dst undef)):lexS P ops E s Q (o::l) k a:=by
 unfold lexS;rw[if_neg (by rw[hw];decide)];exact⟨hk,h⟩
theorem lexS_plain {Q:Act→Prop} {o:Oper} {l:List Oper} {k:Nat} {a:Act} (hw:Region.wanted o (yielded ops a.tmps)=true) (hk:k≠s) (v:Value) (h1:∀x:Two E,does P o a (E x.b) x.w v) (h:lexS P ops E s Q l (k+1) (a.put o.dst v)):lexS P ops E s Q (o::l) k a:=by
 unfold lexS;rw[if_pos hw,if_neg hk];exact⟨v,fun x _=>h1 x,h⟩
structure One (E:World→Prop) where
 w:World
 h:E w
theorem lexS_early {Q:Act→Prop} {o:Oper} {l:List Oper} {k:Nat} {a:Act} (hw:Region.wanted o (yielded ops a.tmps)=true) (hk:k≠s) (hs:waitsT ops k s=true) (v:Value) (h1:∀x:One (E false),does P o a (E false) x.w v) (h:lexS P ops E s Q l (k+1) (a.put o.dst v)):lexS P ops E s Q (o::l) k a:=by
 unfold lexS;rw[if_pos hw,if_neg hk];refine⟨v,fun x hx=>?_,h⟩;have hb:=hx hs;obtain⟨b,w,hE⟩:=x;simp only at hb;subst hb;exact h1 ⟨w,hE⟩
theorem lexS_turn {Q:Act→Prop} {o:Oper} {l:List Oper} {k:Nat} {a:Act} (hw:Region.wanted o (yielded ops a.tmps)=true) (hk:k=s) (v:Value) (h1:∀w,E false w→does P o a (E true) w v) (h:lexS P ops E s Q l (k+1) (a.put o.dst v)):lexS P ops E s Q (o::l) k a:=by
 unfold lexS;rw[if_pos hw,if_pos hk];exact⟨v,h1,h⟩
theorem does_look {o:Oper} {a:Act} {E':World→Prop} {w:World} (mo ko:Operand) {t:TypeId} {ok:Bool} {v:Value} (h:o.op=.lookup t mo ko ok) (hE:E' w) (hl:(Instr.lookup t (a.eval mo) (a.eval ko) ok).run P w=.ok v w):does P o a E' w v:=by
 unfold does execOp;rw[h];simp only[Functor.map,Sem.run_bind,Sem.run_map,hl,Result.andThen_ok];exact⟨hE,rfl⟩
theorem xv_no {P:Program} {s:Sem Value} {w w':World} {n:Next} (h:((do pure (Next.value (←s))):Sem Next).run P w=.ok n w'):∃v,n=.value v:=by
 rw[Sem.run_bind] at h;generalize s.run P w=r at h
 cases r with
 |ok v w1=>exact⟨v,by cases h;rfl⟩
 |halt x w1=>cases h
def plainOp:Op→Bool
 |.move _=>true
 |.assign _=>true
 |.pick ..=>true
 |.load ..=>true
 |.fieldAddr ..=>true
 |.binOp ..=>true
 |.unOp ..=>true
 |.extract ..=>true
 |.build ..=>true
 |.buildSlice ..=>true
 |.lookup ..=>true
 |.convert ..=>true
 |.indexAddr ..=>true
 |.field ..=>true
 |.index ..=>true
 |.nilCheck ..=>true
 |_=>false
theorem plain_value {P:Program} {ρ:Operand→Value} {o:Oper} (hp:plainOp o.op=true) {w w':World} {n:Next} (h:(execOp ρ o).run P w=.ok n w'):∃v,n=.value v:=by
 unfold execOp at h;generalize o.op=op at hp h
 cases op<;>first|(cases hp;done)|exact xv_no h|(simp only[Sem.run_pure,Result.ok.injEq] at h;exact⟨_,h.1.symm⟩)|skip
 ·rename_i c a b
  exact xv_no (s:=do pure (if ←asBool (ρ c) then ρ a else ρ b)) (by simpa using h)
 ·rename_i x
  simp only at h
  split at h<;>first|(cases h;done)|(simp only[Sem.run_pure,Result.ok.injEq] at h;exact⟨_,h.1.symm⟩)|skip
  split at h<;>first|(cases h;done)|(simp only[Sem.run_pure,Result.ok.injEq] at h;exact⟨_,h.1.symm⟩)|skip
  simp only[Sem.run_bind] at h;generalize (program.run P w)=r at h
  cases r with
  |halt x w1=>cases h
  |ok p w1=>
    simp only[Result.andThen_ok] at h;generalize (nilAhead _ _ _ _).run P w1=r at h
    cases r with
    |halt x w1=>cases h
    |ok q w2=>
      simp only[Result.andThen_ok] at h;split at h
      ·cases h
      ·simp only[Sem.run_pure,Sem.run_bind,Result.andThen_ok,Result.ok.injEq] at h
       exact⟨_,h.1.symm⟩
theorem lexS_want {Q:Act→Prop} {o:Oper} {l:List Oper} {k:Nat} {a:Act} (hw:Region.wanted o (yielded ops a.tmps)=true) (hk:k≠s) (hp:plainOp o.op=true)
 (h:∀K:Act→Prop,(∀a,lexS P ops E s Q l (k+1) a→K a)→o.quiet P a (fun w=>∃x:Two E,w=x.w) K):lexS P ops E s Q (o::l) k a:=by
 obtain⟨v,h1,h2⟩:=h _ (fun _ h=>h);refine lexS_plain hw hk v (fun x=>?_) h2;have h3:=h1 x.w ⟨x,rfl⟩;unfold Oper.quietAt at h3;unfold does;generalize hr:(execOp a.eval o).run P x.w=r at *
 cases r with
 |halt y w'=>exact h3.elim
 |ok n w'=>
   obtain⟨u,rfl⟩:=plain_value hp hr;obtain⟨rfl,rfl⟩:=h3;exact⟨x.h,rfl⟩
theorem lexS_ewant {Q:Act→Prop} {o:Oper} {l:List Oper} {k:Nat} {a:Act} (hw:Region.wanted o (yielded ops a.tmps)=true) (hk:k≠s) (hs:waitsT ops k s=true) (hp:plainOp o.op=true)
 (h:∀K:Act→Prop,(∀a,lexS P ops E s Q l (k+1) a→K a)→o.quiet P a (fun w=>∃x:One (E false),w=x.w) K):lexS P ops E s Q (o::l) k a:=by
 obtain⟨v,h1,h2⟩:=h _ (fun _ h=>h);refine lexS_early hw hk hs v (fun x=>?_) h2;have h3:=h1 x.w ⟨x,rfl⟩;unfold Oper.quietAt at h3;unfold does;generalize hr:(execOp a.eval o).run P x.w=r at *
 cases r with
 |halt y w'=>exact h3.elim
 |ok n w'=>
   obtain⟨u,rfl⟩:=plain_value hp hr;obtain⟨rfl,rfl⟩:=h3;exact⟨x.h,rfl⟩
theorem lexS_ecall {Q:Act→Prop} {o:Oper} {l:List Oper} {k:Nat} {a:Act} (hw:Region.wanted o (yielded ops a.tmps)=true) (hk:k≠s) (hs:waitsT ops k s=true) {f:FuncId} {args:Array Value} {v:Value} (ho:∀w,(execOp a.eval o).run P w=.ok (.enter f args) w)
 (hc:∀x:One (E false),Calls P f args x.w fun e w'=>e=.returned v∧E false w') (h:lexS P ops E s Q l (k+1) (a.put o.dst v)):lexS P ops E s Q (o::l) k a:=by
 refine lexS_early hw hk hs v (fun x=>?_) h;unfold does;rw[ho];exact hc x
theorem lexS_call {Q:Act→Prop} {o:Oper} {l:List Oper} {k:Nat} {a:Act} (hw:Region.wanted o (yielded ops a.tmps)=true) (hk:k≠s) {f:FuncId} {args:Array Value} {v:Value} (ho:∀w,(execOp a.eval o).run P w=.ok (.enter f args) w)
 (hc:∀x:Two E,Calls P f args x.w fun e w'=>e=.returned v∧E x.b w') (h:lexS P ops E s Q l (k+1) (a.put o.dst v)):lexS P ops E s Q (o::l) k a:=by
 refine lexS_plain hw hk v (fun x=>?_) h;unfold does;rw[ho];exact hc x
theorem lexS_callT {Q:Act→Prop} {o:Oper} {l:List Oper} {k:Nat} {a:Act} (hw:Region.wanted o (yielded ops a.tmps)=true) (hk:k=s) {f:FuncId} {args:Array Value} {v:Value} (ho:∀w,(execOp a.eval o).run P w=.ok (.enter f args) w)
 (hc:∀w,E false w→Calls P f args w fun e w'=>e=.returned v∧E true w') (h:lexS P ops E s Q l (k+1) (a.put o.dst v)):lexS P ops E s Q (o::l) k a:=by
 refine lexS_turn hw hk v (fun w hE=>?_) h;unfold does;rw[ho];exact hc w hE
end
end Go.Mv
