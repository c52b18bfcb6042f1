/- Short ways for the operations that come most often. No conditions beyond those that each statement shows. -/
import Derived.Test.YtkndlfdpmpdihaaGreatDoorY22
namespace Go.Ev
open Go.RowKit
set_option linter.unusedVariables false
set_option linter.unusedSimpArgs false
noncomputable def lookR (l:List (Nat×Value)) (t:Nat):Option Value:=List.rec (motive:=fun _=>Option Value) none (fun p _ ih=>Bool.rec (motive:=fun _=>Option Value) ih (some p.2) (Nat.beq p.1 t)) l
theorem lookR_eq:∀(l:List (Nat×Value)) (t:Nat),lookR l t=look l t
 | [],t=>rfl
 |(k,v)::r,t=>by
   show Bool.rec (motive:=fun _=>Option Value) (lookR r t) (some v) (Nat.beq k t)=look ((k,v)::r) t;unfold look;rw[lookR_eq r t]
   cases Nat.beq k t<;>rfl
def constK (v:Value):Option Value:=match v with
 |.int _ _=>some v
 |.bool _=>some v
 |.string _=>some v
 |_=>none
noncomputable def Env.get (e:Env) (x:Operand):Option Value:=match x with
 |.tmp t=>lookR e.l t
 |.const v=>constK v
 |_=>none
theorem Env.get_spec {G:Gl} {e:Env} {x:Operand} {v:Value} (h:e.get x=some v):e.ok G x=true∧e.eval x=v:=by
 unfold Env.get at h
 cases x with
 |tmp t=>
   dsimp only at h;rw[lookR_eq] at h;constructor
   ·show (look e.l t).isSome=true
    rw[h];rfl
   ·show (match look e.l t with|some v=>v|none=>undef)=v
    rw[h]
 |const u=>
   dsimp only at h;unfold constK at h
   split at h<;>first|(cases h;exact⟨rfl,rfl⟩)|cases h
 |global g=>cases h
 |func f=>cases h
theorem Env.get_congr {G:Gl} {e e':Env} {x:Operand} (h:e.eval x=e'.eval x∧e.ok G x=e'.ok G x):e.get x=e'.get x:=by
 unfold Env.get
 cases x with
 |tmp t=>
   dsimp only;rw[lookR_eq,lookR_eq];have h1:(match look e.l t with|some v=>v|none=>undef)=(match look e'.l t with|some v=>v|none=>undef):=h.1;have h2:(look e.l t).isSome=(look e'.l t).isSome:=h.2
   cases h3:look e.l t with
   |none=>
     rw[h3] at h2
     cases h4:look e'.l t with
     |none=>rfl
     |some u=>rw[h4] at h2;cases h2
   |some v=>
     rw[h3] at h1 h2
     cases h4:look e'.l t with
     |none=>rw[h4] at h2;cases h2
     |some u=>rw[h4] at h1;exact congrArg some h1
 |_=>rfl
noncomputable def forceN {β:Type} (n:Nat) (k:Nat→β):β:=Nat.rec (motive:=fun _=>β) (k 0) (fun m _=>k (Nat.succ m)) n
theorem forceN_eq {β:Type} (n:Nat) (k:Nat→β):forceN n k=k n:=by cases n<;>rfl
noncomputable def boolK (b:Bool):Option Value:=Bool.rec (motive:=fun _=>Option Value) (some (.bool false)) (some (.bool true)) b
theorem boolK_eq (b:Bool):boolK b=some (.bool b):=by cases b<;>rfl
def kindN:IntKind→Nat
 |.i8=>0|.i16=>1|.i32=>2|.i64=>3|.u8=>4|.u16=>5|.u32=>6|.u64=>7
theorem kindN_inj {k k':IntKind} (h:Nat.beq (kindN k) (kindN k')=true):k=k':=by
 have:=Nat.eq_of_beq_eq_true h
 cases k<;>cases k'<;>first|rfl|(simp[kindN] at this)
noncomputable def smallN (k:IntKind) (n:Nat):Bool:=match k with
 |.i8=>Nat.blt n 128
 |.i16=>Nat.blt n 32768
 |.i32=>Nat.blt n 2147483648
 |.i64=>Nat.blt n 9223372036854775808
 |.u8=>Nat.blt n 256
 |.u16=>Nat.blt n 65536
 |.u32=>Nat.blt n 4294967296
 |.u64=>Nat.blt n 18446744073709551616
def limN (k:IntKind):Nat:=if k.signed then k.bits-1 else k.bits
theorem smallN_lt {k:IntKind} {n:Nat} (h:smallN k n=true):n<2^limN k:=by
 unfold smallN at h
 cases k<;>(dsimp only at h;rw[Nat.blt_eq] at h;exact h)
theorem smallN_of {k:IntKind} {n:Nat} (h:n<2^limN k):smallN k n=true:=by
 unfold smallN
 cases k<;>(dsimp only;rw[Nat.blt_eq];exact h)
theorem smallN_wrap {k:IntKind} {n:Nat} (h:smallN k n=true):k.wrap (n:Int)=n:=by
 have hl:=smallN_lt h;unfold limN at hl
 have hb:1≤k.bits:=by cases k<;>decide
 have hle:(2:Nat)^(if k.signed then k.bits-1 else k.bits)≤2^k.bits:=Nat.pow_le_pow_right (by decide) (by split<;>omega)
 have hlt:n<2^k.bits:=Nat.lt_of_lt_of_le hl hle;have hm:(n:Int)%(2^k.bits:Int)=n:=Int.emod_eq_of_lt (by omega) (by exact_mod_cast hlt);unfold IntKind.wrap;simp only[hm]
 cases hs:k.signed with
 |false=>simp
 |true=>
   rw[hs,if_pos rfl] at hl;rw[if_neg];simp only[Bool.true_and,ge_iff_le,decide_eq_true_eq,Int.not_le]
   exact_mod_cast hl
theorem smallN_le {k:IntKind} {m n:Nat} (h:smallN k m=true) (hn:n≤m):smallN k n=true:=smallN_of (Nat.lt_of_le_of_lt hn (smallN_lt h))
noncomputable def natBin (b:BinOp) (k:IntKind) (m n:Nat):Option Value:=match b with
 |.eql=>boolK (Nat.beq m n)
 |.neq=>boolK (Bool.rec true false (Nat.beq m n))
 |.lss=>boolK (Nat.blt m n)
 |.leq=>boolK (Nat.ble m n)
 |.gtr=>boolK (Nat.blt n m)
 |.geq=>boolK (Nat.ble n m)
 |.add=>match smallN k (m+n) with
   |true=>forceN (m+n) fun s=>some (.int k (.ofNat s))
   |false=>none
 |.sub=>match Nat.ble n m&&smallN k m with
   |true=>forceN (m-n) fun s=>some (.int k (.ofNat s))
   |false=>none
 |.mul=>match smallN k (m*n) with
   |true=>forceN (m*n) fun s=>some (.int k (.ofNat s))
   |false=>none
 |.quo=>match Nat.blt 0 n&&smallN k m with
   |true=>forceN (m/n) fun s=>some (.int k (.ofNat s))
   |false=>none
 |.rem=>match Nat.blt 0 n with
   |true=>forceN (m%n) fun s=>some (.int k (.ofNat s))
   |false=>none
 |.and=>match smallN k m&&smallN k n with
   |true=>forceN (Nat.land m n) fun s=>some (.int k (.ofNat s))
   |false=>none
 |.or=>match smallN k m&&smallN k n with
   |true=>forceN (Nat.lor m n) fun s=>some (.int k (.ofNat s))
   |false=>none
 |.shl=>match Nat.ble n 63&&smallN k (m*2^n) with
   |true=>forceN (m*2^n) fun s=>some (.int k (.ofNat s))
   |false=>none
 |.shr=>match Nat.ble n 8 with
   |true=>forceN (m/2^n) fun s=>some (.int k (.ofNat s))
   |false=>match Nat.ble n k.bits with
     |true=>forceN (m/2^n) fun s=>some (.int k (.ofNat s))
     |false=>none
 |_=>none
theorem natBin_spec {P:Program} {b:BinOp} {t:TypeId} {k:IntKind} {m n:Nat} {v:Value} (h:natBin b k m n=some v):still P (binOp b t (.int k (.ofNat m)) (.int k (.ofNat n)))=some v∧AFb 10 v=true:=by
 have hadd:natBin .add k m n=some v→still P (binOp .add t (.int k (.ofNat m)) (.int k (.ofNat n)))=some v∧AFb 10 v=true:=by
  intro h;unfold natBin at h;dsimp only at h
  split at h<;>first|(cases h;done)|skip
  rename_i hs;rw[forceN_eq] at h;cases h;refine⟨?_,rfl⟩;have:=smallN_wrap hs;simp only[binOp,ne_eq,not_true_eq_false,if_false,Op.intArith];show some (Value.int k (k.wrap ((m:Int)+(n:Int))))=_;rw[show ((m:Int)+(n:Int))=((m+n:Nat):Int) by omega,this];rfl
 have hsub:natBin .sub k m n=some v→still P (binOp .sub t (.int k (.ofNat m)) (.int k (.ofNat n)))=some v∧AFb 10 v=true:=by
  intro h;unfold natBin at h;dsimp only at h
  split at h<;>first|(cases h;done)|skip
  rename_i hs;rw[Bool.and_eq_true] at hs;rw[forceN_eq] at h;cases h;refine⟨?_,rfl⟩;have hle:n≤m:=Nat.le_of_ble_eq_true hs.1;have hsm:smallN k (m-n)=true:=smallN_le hs.2 (Nat.sub_le _ _);have:=smallN_wrap hsm;simp only[binOp,ne_eq,not_true_eq_false,if_false,Op.intArith];show some (Value.int k (k.wrap ((m:Int)-(n:Int))))=_;rw[show ((m:Int)-(n:Int))=((m-n:Nat):Int) by omega,this];rfl
 have hcmp:∀(b:BinOp) (c d:Bool),natBin b k m n=boolK c→still P (binOp b t (.int k (.ofNat m)) (.int k (.ofNat n)))=some (.bool d)→c=d→natBin b k m n=some v→still P (binOp b t (.int k (.ofNat m)) (.int k (.ofNat n)))=some v∧AFb 10 v=true:=by
  rintro b c _ h1 h2 rfl h3;rw[h1,boolK_eq] at h3;cases h3;exact⟨h2,rfl⟩
 have hst:∀(b:BinOp) (d:Bool),binOp b t (.int k (.ofNat m)) (.int k (.ofNat n))=(if k≠k then stuck "BinOp: operands of different kinds" else pure (.bool d))→still P (binOp b t (.int k (.ofNat m)) (.int k (.ofNat n)))=some (.bool d):=by
  intro b d e;rw[e];simp only[ne_eq,not_true_eq_false,if_false];rfl
 have hkb:8≤k.bits∧k.bits≤64:=by cases k<;>decide
 have hlb:limN k≤k.bits:=by unfold limN;split<;>omega
 have ofi:∀m:Nat,smallN k m=true→(BitVec.ofInt k.bits (Int.ofNat m)).toNat=m:=by
  intro m hm;have h1:=Nat.lt_of_lt_of_le (smallN_lt hm) (Nat.pow_le_pow_right (by decide:0<2) hlb);rw[Int.ofNat_eq_natCast,BitVec.ofInt_natCast,BitVec.toNat_ofNat,Nat.mod_eq_of_lt h1]
 cases b
 case add=>exact hadd h
 case sub=>exact hsub h
 case eql=>
  refine hcmp .eql (Nat.beq m n) ((Int.ofNat m)==(Int.ofNat n)) rfl (hst _ _ rfl) ?_ h;rw[Bool.eq_iff_iff];simp[Nat.beq_eq];omega
 case neq=>
  refine hcmp .neq (Bool.rec true false (Nat.beq m n)) ((Int.ofNat m) != (Int.ofNat n)) rfl (hst _ _ rfl) ?_ h;cases hq:Nat.beq m n
  ·have:¬(m=n):=fun e=>by rw[e,Nat.beq_refl] at hq;cases hq
   simp;omega
  ·have:=Nat.eq_of_beq_eq_true hq
   simp[this]
 case lss=>
  refine hcmp .lss (Nat.blt m n) (decide ((Int.ofNat m)<(Int.ofNat n))) rfl (hst _ _ rfl) ?_ h;rw[Bool.eq_iff_iff];simp[Nat.blt_eq]
 case leq=>
  refine hcmp .leq (Nat.ble m n) (decide ((Int.ofNat m)≤(Int.ofNat n))) rfl (hst _ _ rfl) ?_ h;rw[Bool.eq_iff_iff];simp
 case gtr=>
  refine hcmp .gtr (Nat.blt n m) (decide ((Int.ofNat m) > (Int.ofNat n))) rfl (hst _ _ rfl) ?_ h;rw[Bool.eq_iff_iff];simp[Nat.blt_eq]
 case geq=>
  refine hcmp .geq (Nat.ble n m) (decide ((Int.ofNat m)≥(Int.ofNat n))) rfl (hst _ _ rfl) ?_ h;rw[Bool.eq_iff_iff];simp
 case mul=>
  unfold natBin at h;dsimp only at h
  split at h<;>first|(cases h;done)|skip
  rename_i hs;rw[forceN_eq] at h;cases h;refine⟨?_,rfl⟩;have:=smallN_wrap hs;simp only[binOp,ne_eq,not_true_eq_false,if_false,Op.intArith];show some (Value.int k (k.wrap ((m:Int)*(n:Int))))=_;rw[show ((m:Int)*(n:Int))=((m*n:Nat):Int) by simp,this];rfl
 case quo=>
  unfold natBin at h;dsimp only at h
  split at h<;>first|(cases h;done)|skip
  rename_i hs;rw[Bool.and_eq_true] at hs;rw[forceN_eq] at h;cases h;refine⟨?_,rfl⟩
  have hn:0<n:=by simpa[Nat.blt_eq] using hs.1
  have:=smallN_wrap (smallN_le hs.2 (Nat.div_le_self m n));simp only[binOp,ne_eq,not_true_eq_false,if_false,Op.intDiv];rw[if_neg (by simp;omega)];show some (Value.int k (k.wrap (Int.tdiv (m:Int) (n:Int))))=_;rw[show Int.tdiv (m:Int) (n:Int)=((m/n:Nat):Int) from rfl,this];rfl
 case rem=>
  unfold natBin at h;dsimp only at h
  split at h<;>first|(cases h;done)|skip
  rename_i hs;rw[forceN_eq] at h;cases h;refine⟨?_,rfl⟩
  have hn:0<n:=by simpa[Nat.blt_eq] using hs
  simp only[binOp,ne_eq,not_true_eq_false,if_false,Op.intDiv];rw[if_neg (by simp;omega)];rfl
 case and=>
  unfold natBin at h;dsimp only at h
  split at h<;>first|(cases h;done)|skip
  rename_i hs;rw[Bool.and_eq_true] at hs;rw[forceN_eq] at h;cases h;refine⟨?_,rfl⟩;have hle:Nat.land m n≤m:=Nat.and_le_left;have:=smallN_wrap (smallN_le hs.1 hle);simp only[binOp,ne_eq,not_true_eq_false,if_false,Op.intBits];show some (Value.int k (k.wrap (((BitVec.ofInt k.bits (Int.ofNat m) &&& BitVec.ofInt k.bits (Int.ofNat n)).toNat:Nat):Int)))=_;rw[BitVec.toNat_and,ofi m hs.1,ofi n hs.2];exact congrArg (fun x=>some (Value.int k x)) this
 case or=>
  unfold natBin at h;dsimp only at h
  split at h<;>first|(cases h;done)|skip
  rename_i hs;rw[Bool.and_eq_true] at hs;rw[forceN_eq] at h;cases h;refine⟨?_,rfl⟩;have:=smallN_wrap (smallN_of (Nat.or_lt_two_pow (smallN_lt hs.1) (smallN_lt hs.2)));simp only[binOp,ne_eq,not_true_eq_false,if_false,Op.intBits];show some (Value.int k (k.wrap (((BitVec.ofInt k.bits (Int.ofNat m) ||| BitVec.ofInt k.bits (Int.ofNat n)).toNat:Nat):Int)))=_;rw[BitVec.toNat_or,ofi m hs.1,ofi n hs.2];exact congrArg (fun x=>some (Value.int k x)) this
 case shl=>
  unfold natBin at h;dsimp only at h
  split at h<;>first|(cases h;done)|skip
  rename_i hs;rw[Bool.and_eq_true] at hs;rw[forceN_eq] at h;cases h;refine⟨?_,rfl⟩;have hn:n≤63:=Nat.le_of_ble_eq_true hs.1;have hw:=smallN_wrap hs.2
  by_cases hkn:n≤k.bits
  ·show still P (Op.shift .shl k (Int.ofNat m) k (Int.ofNat n))=_
   unfold Op.shift;rw[if_neg (by simp)];have hmin:min (Int.ofNat n).toNat k.bits=n:=Nat.min_eq_left hkn;simp only[hmin];show some (Value.int k (k.wrap ((m:Int)*2^n)))=_;rw[show ((m:Int)*2^n)=((m*2^n:Nat):Int) by simp,hw];rfl
  ·have h0:m=0:=by
    have:=smallN_lt hs.2;rcases Nat.eq_zero_or_pos m with h|h
    ·exact h
    ·exfalso
     have h1:2^n≤m*2^n:=Nat.le_mul_of_pos_left _ h;have h2:(2:Nat)^limN k≤2^n:=Nat.pow_le_pow_right (by decide) (by omega);omega
   subst h0;show still P (Op.shift .shl k (Int.ofNat 0) k (Int.ofNat n))=_;unfold Op.shift;rw[if_neg (by simp)];show some (Value.int k (k.wrap ((0:Int)*2^_)))=_;rw[Int.zero_mul,Nat.zero_mul];have h00:k.wrap (0:Int)=0:=smallN_wrap (n:=0) (smallN_of (Nat.two_pow_pos _));rw[h00];rfl
 case shr=>
  have key:n≤k.bits→still P (Op.shift .shr k (Int.ofNat m) k (Int.ofNat n))=some (.int k (.ofNat (m/2^n))):=by
   intro hkn;unfold Op.shift;rw[if_neg (by simp)];have hmin:min (Int.ofNat n).toNat k.bits=n:=Nat.min_eq_left hkn;simp only[hmin];show some (Value.int k (Int.fdiv (m:Int) (2^n)))=_;rw[show ((2:Int)^n)=((2^n:Nat):Int) by simp];rw[show Int.fdiv (m:Int) ((2^n:Nat):Int)=((m/2^n:Nat):Int) from(Int.ofNat_fdiv m (2^n)).symm];rfl
  unfold natBin at h;dsimp only at h;split at h
  ·rename_i hs
   rw[forceN_eq] at h;cases h;exact⟨key (by have:=Nat.le_of_ble_eq_true hs;omega),rfl⟩
  ·split at h<;>first|(cases h;done)|skip
   rename_i hs;rw[forceN_eq] at h;cases h;exact⟨key (Nat.le_of_ble_eq_true hs),rfl⟩
 all_goals cases h
def fieldOff (P:Program) (s:TypeId) (f:Nat):Option Nat:=match P.underlying s with
 |some (.struct fields)=>match fields[f]? with
   |some fd=>match P.info? fd.type with
     |some i=>match i.size with
       | 0=>none
       |_=>some fd.offset
     |none=>none
   |none=>none
 |_=>none
inductive Ind where
 |sl (size:Nat)
 |arr (len size:Nat)
def indOf (P:Program) (t:TypeId):Option Ind:=match P.underlying t with
 |some (.slice e)=>match P.info? e with|some i=>some (.sl i.size)|none=>none
 |some (.array n e)=>match P.info? e with|some i=>some (.arr n i.size)|none=>none
 |_=>none
def isShift:BinOp→Bool
 |.shl=>true
 |.shr=>true
 |_=>false
def intKindOf (P:Program) (s d:TypeId):Option IntKind:=match P.underlying s,P.underlying d with
 |some _,some (.int k)=>some k
 |_,_=>none
noncomputable def fastQ0 (P:Program) (w:TW) (e:Env) (o:Oper):Option Value:=match o.op with
 |.move x=>e.get x
 |.assign x=>e.get x
 |.load t a=>match e.get a with
   |some v=>fastLd P w t v
   |none=>none
 |.binOp b _ x y _=>match e.get x,e.get y with
   |some (.int k (.ofNat m)),some (.int k' (.ofNat n))=>match Nat.beq (kindN k) (kindN k') || isShift b with
     |true=>natBin b k m n
     |false=>none
   |_,_=>none
 |.convert s d x=>match e.get x,intKindOf P s d with
   |some (.int _ (.ofNat n)),some k=>match smallN k n with
     |true=>some (.int k (.ofNat n))
     |false=>none
   |_,_=>none
 |.extract x i=>match e.get x with
   |some (.tuple ⟨xs⟩)=>nthL xs i
   |_=>none
 |.unOp .not _ x=>match e.get x with
   |some (.bool true)=>some (.bool false)
   |some (.bool false)=>some (.bool true)
   |_=>none
 |.fieldAddr s x f=>match e.get x,fieldOff P s f with
   |some (.pointer (some ⟨b,o,none⟩)),some d=>forceN (o+d) fun o=>some (.pointer (some ⟨b,o,none⟩))
   |_,_=>none
 |.indexAddr t x ix=>match e.get ix with
   |some (.int _ (.ofNat i))=>match e.get x,indOf P t with
     |some (.slice (some ⟨b,o,none⟩) l _),some (.sl z)=>match Nat.blt i l with
       |true=>forceN (o+i*z) fun o=>some (.pointer (some ⟨b,o,none⟩))
       |false=>none
     |some (.pointer (some ⟨b,o,none⟩)),some (.arr l z)=>match Nat.blt i l with
       |true=>forceN (o+i*z) fun o=>some (.pointer (some ⟨b,o,none⟩))
       |false=>none
     |_,_=>none
   |_=>none
 |_=>none
noncomputable def fLoad (P:Program) (w:TW) (e:Env) (t:TypeId) (a:Operand):Option Value:=match e.get a with
 |some v=>fastLd P w t v
 |none=>none
noncomputable def fBin (e:Env) (b:BinOp) (x y:Operand):Option Value:=match e.get x,e.get y with
 |some (.int k (.ofNat m)),some (.int k' (.ofNat n))=>match Nat.beq (kindN k) (kindN k') || isShift b with
   |true=>natBin b k m n
   |false=>none
 |_,_=>none
noncomputable def fConv (P:Program) (e:Env) (s d:TypeId) (x:Operand):Option Value:=match e.get x,intKindOf P s d with
 |some (.int _ (.ofNat n)),some k=>match smallN k n with
   |true=>some (.int k (.ofNat n))
   |false=>none
 |_,_=>none
noncomputable def fExt (e:Env) (x:Operand) (i:Nat):Option Value:=match e.get x with
 |some (.tuple ⟨xs⟩)=>nthL xs i
 |_=>none
noncomputable def fNot (e:Env) (u:UnOp) (x:Operand):Option Value:=match u with
 |.not=>match e.get x with
   |some (.bool true)=>some (.bool false)
   |some (.bool false)=>some (.bool true)
   |_=>none
 |_=>none
noncomputable def fFld (P:Program) (e:Env) (s:TypeId) (x:Operand) (f:Nat):Option Value:=match e.get x,fieldOff P s f with
 |some (.pointer (some ⟨b,o,none⟩)),some d=>forceN (o+d) fun o=>some (.pointer (some ⟨b,o,none⟩))
 |_,_=>none
noncomputable def fIdx (P:Program) (e:Env) (t:TypeId) (x ix:Operand):Option Value:=match e.get ix with
 |some (.int _ (.ofNat i))=>match e.get x,indOf P t with
   |some (.slice (some ⟨b,o,none⟩) l _),some (.sl z)=>match Nat.blt i l with
     |true=>forceN (o+i*z) fun o=>some (.pointer (some ⟨b,o,none⟩))
     |false=>none
   |some (.pointer (some ⟨b,o,none⟩)),some (.arr l z)=>match Nat.blt i l with
     |true=>forceN (o+i*z) fun o=>some (.pointer (some ⟨b,o,none⟩))
     |false=>none
   |_,_=>none
 |_=>none
noncomputable def fastQ (P:Program) (w:TW) (e:Env) (o:Oper):Option Value:=match o.op with
 |.move x=>e.get x
 |.assign x=>e.get x
 |.load t a=>fLoad P w e t a
 |.binOp b _ x y _=>fBin e b x y
 |.convert s d x=>fConv P e s d x
 |.extract x i=>fExt e x i
 |.unOp u _ x=>fNot e u x
 |.fieldAddr s x f=>fFld P e s x f
 |.indexAddr t x ix=>fIdx P e t x ix
 |_=>none
theorem fastQ_eq0 (P:Program) (w:TW) (e:Env) (o:Oper):fastQ P w e o=fastQ0 P w e o:=by
 unfold fastQ fastQ0
 cases o.op<;>first|rfl|skip
 rename_i u _ _
 cases u<;>rfl
section
variable {P:Program} {G:Gl}
theorem runW_still {α:Type}:∀ {s:Sem α} {a:α} {w:TW},still P s=some a→runW P s w=some (a,w):=by
 intro s
 induction s with
 |pure b=>intro a w h;simp only[still,Option.some.injEq] at h;rw[h];rfl
 |program k ih=>intro a w h;exact ih P h
 |mark m k ih=>intro a w h;exact ih h
 |_=>intro a w h;simp[still] at h
def QF (P:Program) (G:Gl) (w:TW) (e:Env) (o:Oper) (v:Value):Prop:=evalOpT P (specT P) (e.ok G) e.eval o w=some (.value v,w)∧(isLd o=false→stillOpT P G w e o=some v)
theorem QF.af {w:TW} {e:Env} {o:Oper} {v:Value} (h1:∀x∈o.op.operands,e.ok G x=true∧AFb 10 (e.eval x)=true) (h2:noSel o=true) (h3:still P (execOp e.eval o)=some (.value v)) (h4:AFb 10 v=true):QF P G w e o v:=by
 have ha:o.op.operands.toList.all (e.ok G)=true:=List.all_eq_true.2 fun x hx=>(h1 x (by simpa using hx)).1;have hb:o.op.operands.toList.all (fun x=>AFb 10 (e.eval x))=true:=List.all_eq_true.2 fun x hx=>(h1 x (by simpa using hx)).2
 have he:evalAF P e.eval o=some v:=by
  unfold evalAF;simp only[execQ_eq];rw[if_pos (by rw[hb,h2];rfl),h3];dsimp only;rw[if_pos h4]
 constructor
 ·unfold evalOpT
  rw[if_pos ha,he]
 ·intro _
  unfold stillOpT;simp only[execQ_eq];rw[if_pos ha,he]
theorem evalOpT_still {w:TW} {e:Env} {o:Oper} {n:Next} (h1:∀x∈o.op.operands,e.ok G x=true) (h2:kindOk P e.eval o=true) (h5:cutT w e.eval o=true) (h3:still P (execOp e.eval o)=some n) (h4:(∀t a,o.op≠.load t a)∧∀t a x,o.op≠.store t a x) :
 evalOpT P (specT P) (e.ok G) e.eval o w=some (n,w):=by
 have ha:o.op.operands.toList.all (e.ok G)=true:=List.all_eq_true.2 fun x hx=>h1 x (by simpa using hx);unfold evalOpT;rw[if_pos ha];split
 ·rename_i u hu
  unfold evalAF at hu;simp only[execQ_eq] at hu
  split at hu<;>first|(cases hu;done)|skip
  rw[h3] at hu
  split at hu<;>first|(cases hu;done)|skip
  rename_i u2 hu2;cases hu2
  split at hu<;>first|(cases hu;done)|skip
  cases hu;rfl
 ·rw[if_pos (by rw[h2,h5];rfl)]
  unfold runF;simp only[execQ_eq];split
  ·rename_i t a hop;exact absurd hop (h4.1 t a)
  ·rename_i t a x hop;exact absurd hop (h4.2 t a x)
  ·exact runW_still h3
theorem QF.kind {w:TW} {e:Env} {o:Oper} {v:Value} (h1:∀x∈o.op.operands,e.ok G x=true) (h2:kindOk P e.eval o=true) (h5:cutT w e.eval o=true) (h3:still P (execOp e.eval o)=some (.value v)) (h4:(∀t a,o.op≠.load t a)∧∀t a x,o.op≠.store t a x):QF P G w e o v:=by
 refine⟨evalOpT_still h1 h2 h5 h3 h4,fun _=>?_⟩;have ha:o.op.operands.toList.all (e.ok G)=true:=List.all_eq_true.2 fun x hx=>h1 x (by simpa using hx);unfold stillOpT;simp only[execQ_eq];rw[if_pos ha];split
 ·rename_i u hu
  unfold evalAF at hu;simp only[execQ_eq] at hu
  split at hu<;>first|(cases hu;done)|skip
  rw[h3] at hu;dsimp only at hu
  split at hu<;>first|(cases hu;done)|skip
  cases hu;rfl
 ·rw[if_pos (by rw[h2,h5];rfl),h3]
theorem still_underlying {t:TypeId} {d:TypeDesc} (h:P.underlying t=some d):still P (underlying t)=some d:=by
 unfold underlying;rw[still_bind_of (a:=P) rfl,h];try rfl
theorem still_sizeOf {t:TypeId} {i:TypeInfo} (h:P.info? t=some i):still P (sizeOf t)=some i.size:=by
 have h1:still P (typeInfo t)=some i:=by
  unfold typeInfo;rw[still_bind_of (a:=P) rfl,h];try rfl
 unfold sizeOf;rw[still_bind_of h1];try rfl
theorem still_v {s:Sem Value} {v:Value} (h:still P s=some v):still P (do pure (Next.value (←s)))=some (.value v):=by
 rw[still_bind_of h];rfl
theorem fastQ_spec {w:TW} {e:Env} {o:Oper} {v:Value} (h:fastQ P w e o=some v):QF P G w e o v:=by
 rw[fastQ_eq0] at h;obtain⟨dst,op,type,pos,after,guard⟩:=o;unfold fastQ0 at h;dsimp only at h
 split at h<;>first|(cases h;done)|skip
 ·rename_i x
  obtain⟨h1,h2⟩:=Env.get_spec (G:=G) h;refine QF.kind (fun y hy=>?_) rfl rfl ?_ ⟨by simp,by simp⟩
  ·have:y=x:=by simpa[Op.operands] using hy
   rw[this];exact h1
  ·show still P (pure (Next.value (e.eval x)))=_
   rw[h2];rfl
 ·rename_i x
  obtain⟨h1,h2⟩:=Env.get_spec (G:=G) h;refine QF.kind (fun y hy=>?_) rfl rfl ?_ ⟨by simp,by simp⟩
  ·have:y=x:=by simpa[Op.operands] using hy
   rw[this];exact h1
  ·show still P (pure (Next.value (e.eval x)))=_
   rw[h2];rfl
 ·rename_i t a
  split at h<;>first|(cases h;done)|skip
  rename_i va hva;obtain⟨h1,h2⟩:=Env.get_spec (G:=G) hva;refine⟨?_,fun hl=>by cases hl⟩;have hop:(({ dst,op:=.load t a,type,pos,after,guard }:Oper).op.operands)=#[a]:=rfl;unfold evalOpT;rw[hop]
  have e1:(#[a].toList.all (e.ok G))=true:=by simp[h1]
  have e2:evalAF P e.eval { dst,op:=.load t a,type,pos,after,guard }=none:=by
   unfold evalAF;simp only[execQ_eq];rw[hop]
   have:AFb 10 (e.eval a)=false:=by
    rw[h2];unfold fastLd at h
    split at h<;>first|(cases h;done)|rfl
   rw[if_neg (by simp[this])]
  rw[if_pos e1,e2];show (if true&&true then runF P e.eval _ w else specT P _ _ w)=_;simp only[Bool.and_self,if_true];unfold runF;simp only[execQ_eq]
  try dsimp only
  rw[h2,h]
 ·rename_i b t x y u
  split at h<;>first|(cases h;done)|skip
  rename_i k m k' n hx hy
  split at h<;>first|(cases h;done)|skip
  rename_i hk;obtain⟨h1,h2⟩:=Env.get_spec (G:=G) hx;obtain⟨h3,h4⟩:=Env.get_spec (G:=G) hy;obtain⟨h5,h6⟩:=natBin_spec (P:=P) (t:=t) h;refine QF.af (fun z hz=>?_) rfl ?_ h6
  ·have:z=x∨z=y:=by simpa[Op.operands] using hz
   rcases this with rfl|rfl
   ·exact⟨h1,by rw[h2];rfl⟩
   ·exact⟨h3,by rw[h4];rfl⟩
  ·show still P (do pure (Next.value (←(do eqGuard b t x y (e.eval x) (e.eval y);binOp b t (e.eval x) (e.eval y):Sem Value))))=_
   refine still_v ?_;rw[h2,h4]
   have hg:still P (eqGuard b t x y (.int k (.ofNat m)) (.int k' (.ofNat n)))=some ():=by cases b<;>rfl
   rw[still_bind_of hg];rw[Bool.or_eq_true] at hk;rcases hk with hk|hk
   ·have:=kindN_inj hk
    subst this;exact h5
   ·cases b<;>first|(cases hk;done)|exact h5
 ·rename_i s d x
  split at h<;>first|(cases h;done)|skip
  rename_i k0 n k hx hk
  split at h<;>first|(cases h;done)|skip
  rename_i hs;cases h;obtain⟨h1,h2⟩:=Env.get_spec (G:=G) hx;unfold intKindOf at hk
  split at hk<;>first|(cases hk;done)|skip
  rename_i us _ hus hud;cases hk;refine QF.af (fun z hz=>?_) rfl ?_ rfl
  ·have:z=x:=by simpa[Op.operands] using hz
   subst this;exact⟨h1,by rw[h2];rfl⟩
  ·show still P (do pure (Next.value (←convert s d (e.eval x))))=_
   refine still_v ?_;rw[h2];unfold convert;rw[still_bind_of (still_underlying hus),still_bind_of (still_underlying hud)];have hw:=smallN_wrap hs
   have:still P (Conv.intToInt k (Int.ofNat n))=some (.int k (.ofNat n)):=by
    unfold Conv.intToInt;exact congrArg (fun x=>some (Value.int k x)) hw
   cases us<;>exact this
 ·rename_i x i
  split at h<;>first|(cases h;done)|skip
  rename_i xs hx;obtain⟨h1,h2⟩:=Env.get_spec (G:=G) hx;refine QF.kind (fun y hy=>?_) rfl rfl ?_ ⟨by simp,by simp⟩
  ·have:y=x:=by simpa[Op.operands] using hy
   rw[this];exact h1
  ·show still P (do pure (Next.value (←Instr.extract (e.eval x) i)))=_
   refine still_v ?_;rw[h2];rw[nthL_eq] at h;unfold Instr.extract;simp only[List.getElem?_toArray,h];rfl
 ·rename_i t x
  split at h<;>first|(cases h;done)|skip
  all_goals
   rename_i hx;cases h;obtain⟨h1,h2⟩:=Env.get_spec (G:=G) hx;refine QF.af (fun z hz=>?_) rfl ?_ rfl
   ·have:z=x:=by simpa[Op.operands] using hz
    subst this;exact⟨h1,by rw[h2];rfl⟩
   ·show still P (do pure (Next.value (←Op.unary .not (e.eval x))))=_
    refine still_v ?_;rw[h2];rfl
 ·rename_i s x f
  split at h<;>first|(cases h;done)|skip
  rename_i b o d hx hd;rw[forceN_eq] at h;cases h;obtain⟨h1,h2⟩:=Env.get_spec (G:=G) hx;unfold fieldOff at hd
  split at hd<;>first|(cases hd;done)|skip
  rename_i fields hun
  split at hd<;>first|(cases hd;done)|skip
  rename_i fd hfd
  split at hd<;>first|(cases hd;done)|skip
  rename_i i hi
  split at hd<;>first|(cases hd;done)|skip
  rename_i hsz;cases hd;refine QF.kind (fun y hy=>?_) ?_ rfl ?_ ⟨by simp,by simp⟩
  ·have:y=x:=by simpa[Op.operands] using hy
   rw[this];exact h1
  ·show fieldOk P s f=true
   unfold fieldOk;rw[hun];dsimp only;rw[hfd];dsimp only;rw[hi];simpa using hsz
  ·show still P (do pure (Next.value (←Instr.fieldAt s (e.eval x) f)))=_
   refine still_v ?_;rw[h2];unfold Instr.fieldAt;rw[still_bind_of (still_underlying hun)];dsimp only;rw[hfd];dsimp only;rw[still_bind_of (a:=(⟨b,o,none⟩:Addr)) rfl];unfold fieldPlace
   have hp:still P (do if (←sizeOf fd.type)=0 then partAt (⟨b,o,none⟩:Addr) fd.offset fd.byteOffset else pure ((⟨b,o,none⟩:Addr).add fd.offset))=some ⟨b,o+fd.offset,none⟩:=by
    rw[still_bind_of (still_sizeOf hi),if_neg (by simpa using hsz),add_eq];rfl
   rw[still_bind_of hp];rfl
 ·rename_i t x ix
  split at h<;>first|(cases h;done)|skip
  rename_i kk i hix;obtain⟨h3,h4⟩:=Env.get_spec (G:=G) hix
  split at h<;>first|(cases h;done)|skip
  ·rename_i b o l c z hx hin
   obtain⟨h1,h2⟩:=Env.get_spec (G:=G) hx
   split at h<;>first|(cases h;done)|skip
   rename_i hlt
   have hlt:i<l:=by simpa[Nat.blt_eq] using hlt
   rw[forceN_eq] at h;cases h;unfold indOf at hin
   split at hin<;>first|(cases hin;done)|skip
   ·rename_i el hun
    split at hin<;>first|(cases hin;done)|skip
    rename_i inf hi;cases hin;refine QF.kind (fun y hy=>?_) rfl rfl ?_ ⟨by simp,by simp⟩
    ·have:y=x∨y=ix:=by simpa[Op.operands] using hy
     rcases this with rfl|rfl
     ·exact h1
     ·exact h3
    ·show still P (do pure (Next.value (←Instr.indexAt t (e.eval x) (e.eval ix))))=_
     refine still_v ?_;rw[h2,h4];unfold Instr.indexAt;rw[still_bind_of (a:=(kk,(Int.ofNat i))) rfl];dsimp only;rw[still_bind_of (still_underlying hun)];dsimp only;rw[still_bind_of (a:=(some (⟨b,o,none⟩:Addr),l,el)) rfl];rw[still_bind_of (still_underlying hun)];dsimp only;rw[if_pos ⟨Int.natCast_nonneg i,Int.ofNat_lt.2 hlt⟩,still_bind_of (still_sizeOf hi),add_eq];rfl
   ·split at hin<;>cases hin
  ·rename_i b o l z hx hin
   obtain⟨h1,h2⟩:=Env.get_spec (G:=G) hx
   split at h<;>first|(cases h;done)|skip
   rename_i hlt
   have hlt:i<l:=by simpa[Nat.blt_eq] using hlt
   rw[forceN_eq] at h;cases h;unfold indOf at hin
   split at hin<;>first|(cases hin;done)|skip
   ·split at hin<;>cases hin
   ·rename_i n el hun
    split at hin<;>first|(cases hin;done)|skip
    rename_i inf hi;cases hin;refine QF.kind (fun y hy=>?_) rfl rfl ?_ ⟨by simp,by simp⟩
    ·have:y=x∨y=ix:=by simpa[Op.operands] using hy
     rcases this with rfl|rfl
     ·exact h1
     ·exact h3
    ·show still P (do pure (Next.value (←Instr.indexAt t (e.eval x) (e.eval ix))))=_
     refine still_v ?_;rw[h2,h4];unfold Instr.indexAt;rw[still_bind_of (a:=(kk,(Int.ofNat i))) rfl];dsimp only;rw[still_bind_of (still_underlying hun)];dsimp only;rw[still_bind_of (a:=(⟨b,o,none⟩:Addr)) rfl];rw[still_bind_of (a:=(some (⟨b,o,none⟩:Addr),l,el)) rfl];rw[still_bind_of (still_underlying hun)];dsimp only;rw[if_pos ⟨Int.natCast_nonneg i,Int.ofNat_lt.2 hlt⟩,still_bind_of (still_sizeOf hi),add_eq];rfl
theorem fastQ_congr {w:TW} {e e':Env} {o:Oper} (h:∀x∈o.op.operands,e.eval x=e'.eval x∧e.ok G x=e'.ok G x):fastQ P w e o=fastQ P w e' o:=by
 rw[fastQ_eq0,fastQ_eq0];obtain⟨dst,op,type,pos,after,guard⟩:=o;dsimp only at h;unfold fastQ0
 cases op<;>first|rfl|skip
 all_goals simp only[Op.operands] at h
 case move x=>exact Env.get_congr (h x (by simp))
 case assign x=>exact Env.get_congr (h x (by simp))
 case load t a=>dsimp only;rw[Env.get_congr (h a (by simp))]
 case binOp b t x y u=>dsimp only;rw[Env.get_congr (h x (by simp)),Env.get_congr (h y (by simp))]
 case extract x i=>dsimp only;rw[Env.get_congr (h x (by simp))]
 case convert s d x=>dsimp only;rw[Env.get_congr (h x (by simp))]
 case unOp u t x=>cases u<;>first|rfl|(dsimp only;rw[Env.get_congr (h x (by simp))])
 case fieldAddr s x f=>dsimp only;rw[Env.get_congr (h x (by simp))]
 case indexAddr t x ix=>dsimp only;rw[Env.get_congr (h x (by simp)),Env.get_congr (h ix (by simp))]
theorem fastQ_world {o:Oper} (h:isLd o=false) (w w':TW) {e:Env}:fastQ P w e o=fastQ P w' e o:=by
 rw[fastQ_eq0,fastQ_eq0];obtain⟨dst,op,type,pos,after,guard⟩:=o;unfold fastQ0
 cases op<;>first|rfl|(cases h;done)|(rename_i u _ _;cases u<;>rfl)
end
end Go.Ev
