/- Symbols, and equality of values with symbols in them. Operations on symbols, and quiet steps with them. Conditions: those that each statement shows. -/
import Derived.Test.YtkndlfdpmpdihaaGreatDoorY23
namespace Go.Ev
open Go.RowKit
set_option linter.unusedVariables false
set_option linter.unusedSimpArgs false
variable {P:Program} {G:Gl}
def argTy:Value→Option Value
 |.int k _=>some (.int k 0)
 |.bool _=>some (.bool false)
 |v=>symTy v
def isSym:Value→Bool
 |.func (.yield _) _ _=>true
 |_=>false
theorem sameTy_int {k:IntKind} {n:Int} {v:Value} (h:sameTy (.int k n) v=true):∃a,v=.int k a:=by
 cases v<;>first|(cases h;done)|skip
 rename_i k' a
 have:k=k':=by simpa[sameTy] using h
 subst this;exact⟨a,rfl⟩
theorem sameTy_bool {b:Bool} {v:Value} (h:sameTy (.bool b) v=true):∃a,v=.bool a:=by
 cases v<;>first|(cases h;done)|exact⟨_,rfl⟩
theorem sameTy_sb {t v:Value} (h:sameTy t v=true):sb v=true:=by
 cases t<;>cases v<;>first|(cases h;done)|rfl
theorem arg_spec {τ:Rel} {x v t:Value} (hs:τ.s=G.s) (h:VR τ x v) (ht:argTy x=some t):sameTy t v=true∧symArg G.s x v:=by
 cases h<;>first|(cases ht;done)|skip
 ·cases ht;exact⟨rfl,.inl ⟨rfl,rfl⟩⟩
 ·cases ht;exact⟨by simp[sameTy],.inl ⟨rfl,rfl⟩⟩
 ·rename_i fn xs ys us vs hf _ _ _ _
  exfalso
  cases fn<;>first|(exact hf _ rfl)|(simp[argTy,symTy] at ht)
 ·rename_i l xs ys hss hb
  rw[hs] at hss;exact⟨G.ty _ _ _ hss ht,.inr hss⟩
noncomputable def atomEq (x y:Value):Option Value:=match isSym x || isSym y with
 |true=>match argTy x,argTy y with
   |some (.int k _),some (.int k' _)=>match Nat.beq (kindN k) (kindN k') with
     |true=>some (.func (.yield 1) ⟨[x,y]⟩ ⟨[.int .u64 (.ofNat 11),.bool false]⟩)
     |false=>none
   |some (.bool _),some (.bool _)=>some (.func (.yield 5) ⟨[x,y]⟩ ⟨[.int .u64 (.ofNat 0),.bool false]⟩)
   |_,_=>none
 |false=>match x,y with
   |.int k (.ofNat m),.int k' (.ofNat n)=>match Nat.beq (kindN k) (kindN k') with
     |true=>boolK (Nat.beq m n)
     |false=>none
   |.bool a,.bool b=>boolK (a==b)
   |_,_=>none
def atomV:Value→Value→Option Bool
 |.int k a,.int k' b=>if k=k' then some (a==b) else none
 |.bool a,.bool b=>some (a==b)
 |_,_=>none
theorem atomEq_spec {τ:Rel} (hs:τ.s=G.s) {x y x' y' v:Value} (h:atomEq x y=some v) (hx:VR τ x x') (hy:VR τ y y'):∃b,atomV x' y'=some b∧VR τ v (.bool b):=by
 unfold atomEq at h;split at h
 ·split at h<;>first|(cases h;done)|skip
  ·rename_i k n k' n' ex ey
   split at h<;>first|(cases h;done)|skip
   rename_i hk;have hk:=kindN_inj hk;subst hk;cases h;obtain⟨h1,h2⟩:=arg_spec hs hx ex;obtain⟨h3,h4⟩:=arg_spec hs hy ey;obtain⟨a,rfl⟩:=sameTy_int h1;obtain⟨c,rfl⟩:=sameTy_int h3;refine⟨a==c,by simp[atomV],.sym 1 _ _ _ ?_ rfl⟩;rw[hs];refine G.cl 0 [x,y] [.int k a,.int k c] (.int .u64 (.ofNat 11)) (.bool false) _ (.cons _ _ _ _ h2 (.cons _ _ _ _ h4 .nil)) ?_ rfl;show binV (binD 11) (.int k a) (.int k c)=_;show (if k=k∨_ then _ else none)=_;rw[if_pos (.inl rfl)];rfl
  ·rename_i ex ey
   cases h;obtain⟨h1,h2⟩:=arg_spec hs hx ex;obtain⟨h3,h4⟩:=arg_spec hs hy ey;obtain⟨a,rfl⟩:=sameTy_bool h1;obtain⟨c,rfl⟩:=sameTy_bool h3;refine⟨a==c,rfl,.sym 5 _ _ _ ?_ rfl⟩;rw[hs];exact G.cl 4 [x,y] [.bool a,.bool c] _ _ _ (.cons _ _ _ _ h2 (.cons _ _ _ _ h4 .nil)) rfl rfl
 ·split at h<;>first|(cases h;done)|skip
  ·split at h<;>first|(cases h;done)|skip
   rename_i k m k' n _ _ hk;have hk:=kindN_inj hk;subst hk;rw[boolK_eq] at h;cases h
   obtain rfl:x'=.int k (.ofNat m):=by cases hx;rfl
   obtain rfl:y'=.int k (.ofNat n):=by cases hy;rfl
   refine⟨Nat.beq m n,?_,.bool _⟩;show (if k=k then some (Int.ofNat m==Int.ofNat n) else none)=_;rw[if_pos rfl];congr 1;show decide (Int.ofNat m=Int.ofNat n)=_
   cases hq:Nat.beq m n with
   |true=>have:=Nat.eq_of_beq_eq_true hq;subst this;simp
   |false=>
     have:m≠n:=fun e=>by subst e;rw[Nat.beq_refl] at hq;cases hq
     simp;omega
  ·rw[boolK_eq] at h
   cases h;cases hx;cases hy;exact⟨_,rfl,.bool _⟩
def andV (a b:Value):Option Value:=match a,b with
 |.bool false,_=>some (.bool false)
 |.bool true,v=>some v
 |_,.bool false=>some (.bool false)
 |v,.bool true=>some v
 |a,b=>match isSym a&&isSym b with
   |true=>some (.func (.yield 4) ⟨[a,b]⟩ ⟨[.int .u64 (.ofNat 0),.bool false]⟩)
   |false=>none
theorem andV_spec {τ:Rel} (hs:τ.s=G.s) {a b v:Value} {p q:Bool} (h:andV a b=some v) (ha:VR τ a (.bool p)) (hb:VR τ b (.bool q)):VR τ v (.bool (p&&q)):=by
 have key:∀ {x:Value} {r:Bool},VR τ x (.bool r)→(x=.bool r)∨(isSym x=true∧symArg G.s x (.bool r)):=by
  intro x r hx;cases hx
  ·exact .inl rfl
  ·rename_i l xs ys h1 h2
   rw[hs] at h1;exact .inr ⟨rfl,.inr h1⟩
 unfold andV at h;split at h
 ·cases h;cases ha;exact .bool _
 ·cases h;cases ha;exact hb
 ·cases h;cases hb;rw[Bool.and_false];exact .bool _
 ·cases h;cases hb;rw[Bool.and_true];exact ha
 ·split at h<;>first|(cases h;done)|skip
  rename_i hq;rw[Bool.and_eq_true] at hq;cases h;rcases key ha with rfl|⟨_,h1⟩
  ·exact absurd hq.1 (by simp[isSym])
  rcases key hb with rfl|⟨_,h2⟩
  ·exact absurd hq.2 (by simp[isSym])
  refine .sym 4 _ _ _ ?_ rfl;rw[hs];exact G.cl 3 [a,b] [.bool p,.bool q] _ _ _ (.cons _ _ _ _ h1 (.cons _ _ _ _ h2 .nil)) rfl rfl
def aggT:TypeDesc→Bool
 |.struct _=>true
 |.array _ _=>true
 |_=>false
theorem run_isAgg {t:TypeId} {d:TypeDesc} (h:P.underlying t=some d) (w:World):(isAgg t).run P w=.ok (aggT d) w:=by
 unfold isAgg;rw[Sem.run_bind,run_underlying h]
 cases d<;>rfl
noncomputable def partV (P:Program) (t:TypeId) (cs:Array Value) (off:Nat):Option Value:=match P.underlying t with
 |some d=>match aggT d with
   |true=>match P.info? t with
     |some i=>some (.agg (cs.extract off (off+i.size)))
     |none=>none
   |false=>cs[off]?
 |none=>none
theorem partV_spec {τ:Rel} {t:TypeId} {xs ys:Array Value} {off:Nat} {v:Value} (h:partV P t xs off=some v) (hx:AR τ xs ys):∃v',VR τ v v'∧∀w,(part t ys off).run P w=.ok v' w:=by
 unfold partV at h
 split at h<;>first|(cases h;done)|skip
 rename_i d hu;split at h
 ·rename_i ha
  split at h<;>first|(cases h;done)|skip
  rename_i i hi;cases h;refine⟨.agg (ys.extract off (off+i.size)),VR.agg_ ⟨by simp[hx.1],fun j v v' h1 h2=>?_⟩,fun w=>?_⟩
  ·rw[Array.getElem?_extract] at h1 h2
   rw[hx.1] at h1;split at h1
   ·rename_i hi;rw[if_pos hi] at h2;exact hx.2 _ v v' h1 h2
   ·cases h1
  ·unfold part
   rw[Sem.run_bind,run_isAgg hu,Result.andThen_ok,ha,if_pos rfl,Sem.run_bind,run_sizeOf hi];rfl
 ·rename_i ha
  obtain⟨v',e,hv⟩:=hx.get h;refine⟨v',hv,fun w=>?_⟩;unfold part;rw[Sem.run_bind,run_isAgg hu,Result.andThen_ok,ha];simp only[Bool.false_eq_true,if_false];rw[e];rfl
noncomputable def eqParts (eq:TypeId→Value→Value→Option Value) (P:Program) (xs ys:Array Value) (l:List (TypeId×Nat)):Option Value:=
 List.rec (motive:=fun _=>Option Value) (some (.bool true)) (fun p _ ih=>match partV P p.1 xs p.2,partV P p.1 ys p.2 with
  |some a,some b=>match eq p.1 a b with
    |some (.bool false)=>some (.bool false)
    |some v=>match ih with
      |some r=>andV v r
      |none=>none
    |none=>none
  |_,_=>none) l
noncomputable def eqV (P:Program):Nat→TypeId→Value→Value→Option Value:=fun n=>Nat.rec (motive:=fun _=>TypeId→Value→Value→Option Value) (fun _ _ _=>none) (fun _ ih t x y=>match P.underlying t with
 |some .bool=>match argTy x with
   |some (.bool _)=>atomEq x y
   |_=>none
 |some (.int _)=>match argTy x with
   |some (.int _ _)=>atomEq x y
   |_=>none
 |some (.struct fs)=>match P.stoodInHeld t,x,y with
   |false,.agg xs,.agg ys=>eqParts ih P xs ys ((fs.toList.filter fun f=>f.name != "_").map fun f=>(f.type,f.offset))
   |_,_,_=>none
 |some (.array n e)=>match P.info? e,x,y with
   |some i,.agg xs,.agg ys=>eqParts ih P xs ys ((List.range' 0 n).map fun j=>(e,j*i.size))
   |_,_,_=>none
 |_=>none) n
def loopEq (P:Program) (d:Nat) (xs ys:Array Value):List (TypeId×Nat)→Sem Bool
 | []=>pure true
 |p::l=>do
   if !(←Op.equalIn d p.1 (←part p.1 xs p.2) (←part p.1 ys p.2)) then return false
   loopEq P d xs ys l
theorem eqParts_spec {τ:Rel} (hs:τ.s=G.s) {eq:TypeId→Value→Value→Option Value} {d:Nat} (ih:∀t x y v x' y',eq t x y=some v→VR τ x x'→VR τ y y'→∃b,(∀w,(Op.equalIn d t x' y').run P w=.ok b w)∧VR τ v (.bool b))
 {xs ys xs' ys':Array Value} (hx:AR τ xs xs') (hy:AR τ ys ys'):∀(l:List (TypeId×Nat)) {v:Value},eqParts eq P xs ys l=some v→∃b,(∀w,(loopEq P d xs' ys' l).run P w=.ok b w)∧VR τ v (.bool b)
 | [],v,h=>by
   cases h;exact⟨true,fun w=>rfl,.bool _⟩
 |p::l,v,h=>by
   have h:(match partV P p.1 xs p.2,partV P p.1 ys p.2 with
    |some a,some b=>match eq p.1 a b with
      |some (.bool false)=>some (.bool false)
      |some v=>match eqParts eq P xs ys l with
        |some r=>andV v r
        |none=>none
      |none=>none
    |_,_=>none)=some v:=h
   split at h<;>first|(cases h;done)|skip
   rename_i a b ea eb;obtain⟨a',va,ra⟩:=partV_spec ea hx;obtain⟨b',vb,rb⟩:=partV_spec eb hy
   have step:∀(q:Bool) w,(Op.equalIn d p.1 a' b').run P w=.ok q w→(loopEq P d xs' ys' (p::l)).run P w=(if q=true then(loopEq P d xs' ys' l).run P w else .ok false w):=by
    intro q w hq
    have e:loopEq P d xs' ys' (p::l)=(do
     if !(←Op.equalIn d p.1 (←part p.1 xs' p.2) (←part p.1 ys' p.2)) then return false
     loopEq P d xs' ys' l):=rfl
    rw[e];simp only[Sem.run_bind,ra,rb,Result.andThen_ok,hq]
    cases q<;>rfl
   split at h<;>first|(cases h;done)|skip
   ·rename_i he
    cases h;obtain⟨q,r1,r2⟩:=ih _ _ _ _ _ _ he va vb;cases r2;exact⟨false,fun w=>by rw[step false w (r1 w)];rfl,.bool _⟩
   ·rename_i u _ he
    split at h<;>first|(cases h;done)|skip
    rename_i r er;obtain⟨q,r1,r2⟩:=ih _ _ _ _ _ _ he va vb;obtain⟨q2,r3,r4⟩:=eqParts_spec hs ih hx hy l er;refine⟨q&&q2,fun w=>?_,andV_spec hs h r2 r4⟩;rw[step q w (r1 w)];cases q
    ·rfl
    ·exact r3 w
theorem run_array_eq {t e:TypeId} {n:Nat} {i:TypeInfo} (ht:P.underlying t=some (.array n e)) (hi:P.info? e=some i) (d:Nat) (xs ys:Array Value) (w:World) :
 (Op.equalIn (d+1) t (.agg xs) (.agg ys)).run P w=(loopEq P d xs ys ((List.range' 0 n).map fun j=>(e,j*i.size))).run P w:=by
 rw[Op.equalIn];simp only[Sem.run_bind,run_underlying ht,Result.andThen_ok,run_sizeOf hi,Std.Legacy.Range.forIn_eq_forIn_range',Std.Legacy.Range.size,Nat.sub_zero,Nat.add_sub_cancel,Nat.div_one];generalize List.range' 0 n 1=l
 induction l generalizing w with
 |nil=>rfl
 |cons j l ih=>
   have e2:loopEq P d xs ys ((j::l).map fun j=>(e,j*i.size))=(do
    if !(←Op.equalIn d e (←part e xs (j*i.size)) (←part e ys (j*i.size))) then return false
    loopEq P d xs ys (l.map fun j=>(e,j*i.size))):=rfl
   rw[e2];simp only[List.forIn_cons,Sem.run_bind]
   cases (part e xs (j*i.size)).run P w with
   |ok a w1=>
     simp only[Result.andThen_ok]
     cases (part e ys (j*i.size)).run P w1 with
     |ok b w2=>
       simp only[Result.andThen_ok]
       cases (Op.equalIn d e a b).run P w2 with
       |ok q w3=>
         cases q
         ·rfl
         ·simpa using ih w3
       |_=>rfl
     |_=>rfl
   |_=>rfl
theorem run_struct_eq {t:TypeId} {fs:Array Field} (ht:P.underlying t=some (.struct fs)) (hh:P.stoodInHeld t=false) (d:Nat) (xs ys:Array Value) (w:World) :
 (Op.equalIn (d+1) t (.agg xs) (.agg ys)).run P w=(loopEq P d xs ys ((fs.toList.filter fun f=>f.name != "_").map fun f=>(f.type,f.offset))).run P w:=by
 rw[Op.equalIn];simp only[Sem.run_bind,run_underlying ht,Result.andThen_ok];have hp:(program).run P w=.ok P w:=rfl;rw[hp];simp only[Result.andThen_ok,hh,Bool.false_eq_true,if_false,Sem.run_bind];rw[←Array.forIn_toList];clear hp;generalize fs.toList=l
 induction l generalizing w with
 |nil=>rfl
 |cons f l ih=>
   simp only[List.forIn_cons,Sem.run_bind]
   by_cases hn:f.name = "_"
   ·have e2:((f::l).filter fun f=>f.name != "_")=(l.filter fun f=>f.name != "_"):=by simp[hn]
    rw[e2,if_neg (by simpa using hn)];simpa using ih w
   ·have e2:((f::l).filter fun f=>f.name != "_")=f::(l.filter fun f=>f.name != "_"):=by simp[hn]
    rw[e2,if_pos (by simpa using hn)]
    have e3:loopEq P d xs ys ((f::(l.filter fun f=>f.name != "_")).map fun f=>(f.type,f.offset))=(do
     if !(←Op.equalIn d f.type (←part f.type xs f.offset) (←part f.type ys f.offset)) then return false
     loopEq P d xs ys ((l.filter fun f=>f.name != "_").map fun f=>(f.type,f.offset))):=rfl
    rw[e3];simp only[Sem.run_bind]
    cases (part f.type xs f.offset).run P w with
    |ok a w1=>
      simp only[Result.andThen_ok]
      cases (part f.type ys f.offset).run P w1 with
      |ok b w2=>
        simp only[Result.andThen_ok]
        cases (Op.equalIn d f.type a b).run P w2 with
        |ok q w3=>
          cases q
          ·rfl
          ·simpa using ih w3
        |_=>rfl
      |_=>rfl
    |_=>rfl
theorem eqV_succ (n:Nat) (t:TypeId) (x y:Value):eqV P (n+1) t x y=(match P.underlying t with
 |some .bool=>match argTy x with
   |some (.bool _)=>atomEq x y
   |_=>none
 |some (.int _)=>match argTy x with
   |some (.int _ _)=>atomEq x y
   |_=>none
 |some (.struct fs)=>match P.stoodInHeld t,x,y with
   |false,.agg xs,.agg ys=>eqParts (eqV P n) P xs ys ((fs.toList.filter fun f=>f.name != "_").map fun f=>(f.type,f.offset))
   |_,_,_=>none
 |some (.array m e)=>match P.info? e,x,y with
   |some i,.agg xs,.agg ys=>eqParts (eqV P n) P xs ys ((List.range' 0 m).map fun j=>(e,j*i.size))
   |_,_,_=>none
 |_=>none):=rfl
theorem eqV_spec {τ:Rel} (hs:τ.s=G.s):∀(n:Nat) (t:TypeId) (x y v x' y':Value),eqV P n t x y=some v→VR τ x x'→VR τ y y'→∀d,n≤d→∃b,(∀w,(Op.equalIn d t x' y').run P w=.ok b w)∧VR τ v (.bool b)
 | 0,t,x,y,v,x',y',h,_,_,_,_=>by cases h
 |n+1,t,x,y,v,x',y',h,hx,hy,d,hd=>by
   obtain⟨d,rfl⟩:∃k,d=k+1:=⟨d-1,by omega⟩;rw[eqV_succ] at h
   split at h<;>first|(cases h;done)|skip
   ·rename_i hu
    split at h<;>first|(cases h;done)|skip
    rename_i ex;obtain⟨b,hb,hv⟩:=atomEq_spec hs h hx hy;obtain⟨h1,_⟩:=arg_spec hs hx ex;obtain⟨a,rfl⟩:=sameTy_bool h1
    cases y'<;>first|(cases hb;done)|skip
    refine⟨b,fun w=>?_,hv⟩;rw[Op.equalIn,Sem.run_bind,run_underlying hu];cases hb;rfl
   ·rename_i k hu
    split at h<;>first|(cases h;done)|skip
    rename_i ex;obtain⟨b,hb,hv⟩:=atomEq_spec hs h hx hy;obtain⟨h1,_⟩:=arg_spec hs hx ex;obtain⟨a,rfl⟩:=sameTy_int h1
    cases y'<;>first|(cases hb;done)|skip
    rename_i k2 c;refine⟨b,fun w=>?_,hv⟩;rw[Op.equalIn,Sem.run_bind,run_underlying hu];unfold atomV at hb;dsimp only at hb
    split at hb<;>first|(cases hb;done)|skip
    rename_i hk;cases hb;show Sem.run P (if _ then _ else _) w=_;rw[if_pos hk];rfl
   ·rename_i fs hu
    split at h<;>first|(cases h;done)|skip
    rename_i xs ys hh
    cases hx with
    |agg _ xs' e1 f1=>
    cases hy with
    |agg _ ys' e2 f2=>
    obtain⟨b,r1,r2⟩:=eqParts_spec hs (d:=d) (fun t x y v x' y' a b c=>eqV_spec hs n t x y v x' y' a b c d (by omega)) ⟨e1,f1⟩ ⟨e2,f2⟩ _ h;exact⟨b,fun w=>by rw[run_struct_eq hu hh];exact r1 w,r2⟩
   ·rename_i m e hu
    split at h<;>first|(cases h;done)|skip
    rename_i i xs ys hi
    cases hx with
    |agg _ xs' e1 f1=>
    cases hy with
    |agg _ ys' e2 f2=>
    obtain⟨b,r1,r2⟩:=eqParts_spec hs (d:=d) (fun t x y v x' y' a b c=>eqV_spec hs n t x y v x' y' a b c d (by omega)) ⟨e1,f1⟩ ⟨e2,f2⟩ _ h;exact⟨b,fun w=>by rw[run_array_eq hu hi];exact r1 w,r2⟩
section
variable {P:Program} {G:Gl}
def binTy (b:BinOp) (k k':IntKind) (y:Value):Option Value:=match b with
 |.add|.sub|.mul|.and|.or|.xor|.andNot=>match Nat.beq (kindN k) (kindN k') with
   |true=>some (.int k 0)
   |false=>none
 |.quo|.rem=>match Nat.beq (kindN k) (kindN k'),y with
   |true,.int _ (.ofNat (_+1))=>some (.int k 0)
   |_,_=>none
 |.shl|.shr=>match y with
   |.int _ (.ofNat _)=>some (.int k 0)
   |_=>none
 |.eql|.neq|.lss|.leq|.gtr|.geq=>match Nat.beq (kindN k) (kindN k') with
   |true=>some (.bool false)
   |false=>none
def isOne:Value→Bool
 |.int _ (.ofNat n)=>Nat.beq n 1
 |_=>false
def isRem:BinOp→Bool
 |.rem=>true
 |_=>false
def isEql:BinOp→Bool
 |.eql=>true
 |_=>false
def symBin (b:BinOp) (x y:Value):Option Value:=match isSym x || isSym y with
 |false=>none
 |true=>match argTy x,argTy y with
   |some (.int k _),some (.int k' _)=>match binTy b k k' y with
     |some t=>match isRem b&&isOne y with
       |true=>some (.int k (.ofNat 0))
       |false=>match isEql b&&veq 30 x y with
        |true=>some (.bool true)
        |false=>some (.func (.yield 1) ⟨[x,y]⟩ ⟨[.int .u64 (.ofNat (binC b)),t]⟩)
     |none=>none
   |_,_=>none
def symConv (k:IntKind) (x:Value):Option Value:=match isSym x,argTy x with
 |true,some (.int _ _)=>some (.func (.yield 2) ⟨[x]⟩ ⟨[.int .u64 (.ofNat 0),.int k 0]⟩)
 |_,_=>none
def symNot (x:Value):Option Value:=match isSym x,argTy x with
 |true,some (.bool _)=>some (.func (.yield 3) ⟨[x]⟩ ⟨[.int .u64 (.ofNat 0),.bool false]⟩)
 |_,_=>none
def isAggV:Value→Bool
 |.agg _=>true
 |_=>false
def notV (v:Value):Option Value:=match v with
 |.bool b=>some (.bool (!b))
 |v=>symNot v
noncomputable def symEq (P:Program) (b:BinOp) (t:TypeId) (x y:Value):Option Value:=match isAggV x&&isAggV y,b with
 |true,.eql=>match P.eqGuardType P.depth t with
   |false=>eqV P 20 t x y
   |true=>none
 |true,.neq=>match P.eqGuardType P.depth t with
   |false=>match eqV P 20 t x y with
     |some v=>notV v
     |none=>none
   |true=>none
 |_,_=>none
noncomputable def symQ0 (P:Program) (e:Env) (o:Oper):Option Value:=match o.op with
 |.binOp b t x y _=>match e.get x,e.get y with
   |some u,some v=>match symBin b u v with
     |some r=>some r
     |none=>symEq P b t u v
   |_,_=>none
 |.convert s d x=>match e.get x,intKindOf P s d with
   |some u,some k=>symConv k u
   |_,_=>none
 |.unOp .not _ x=>match e.get x with
   |some u=>symNot u
   |none=>none
 |_=>none
theorem symQ0_congr {e e':Env} {o:Oper} (h:∀x∈o.op.operands,e.eval x=e'.eval x∧e.ok G x=e'.ok G x):symQ0 P e o=symQ0 P e' o:=by
 have hg:∀x∈o.op.operands,e.get x=e'.get x:=fun x hx=>Env.get_congr (h x hx);obtain⟨dst,op,type,pos,after,guard⟩:=o;unfold symQ0;dsimp only at hg ⊢
 cases op<;>first|rfl|skip
 ·rename_i b t x y u
  dsimp only;rw[hg x (by simp[Op.operands]),hg y (by simp[Op.operands])]
 ·rename_i u t x
  cases u<;>first|rfl|skip
  dsimp only;rw[hg x (by simp[Op.operands])]
 ·rename_i s d x
  dsimp only;rw[hg x (by simp[Op.operands])]
theorem binV_still {b:BinOp} {t:TypeId} {k k':IntKind} {x y:Int} {v:Value} (h:binV b (.int k x) (.int k' y)=some v):still P (binOp b t (.int k x) (.int k' y))=some v:=by
 replace h:(if k=k'∨shiftB b=true then binI b k x y else none)=some v:=h
 split at h<;>first|(cases h;done)|skip
 rename_i hk
 by_cases hs:shiftB b=true
 ·cases b<;>first|(cases hs;done)|skip
  all_goals
   unfold binI at h;dsimp only at h
   split at h<;>first|(cases h;done)|skip
   rename_i hy;unfold binOp Op.shift;dsimp only;rw[if_neg hy];exact h
 ·have hk:k=k':=by rcases hk with h|h;exact h;exact absurd h hs
  subst hk
  cases b<;>first|(exact absurd rfl hs)|skip
  all_goals
   unfold binI at h;dsimp only at h
   first
   |(unfold binOp;dsimp only;rw[if_neg (by simp)];exact h)
   |(split at h<;>first|(cases h;done)|skip
     rename_i hy;unfold binOp Op.intDiv;dsimp only;rw[if_neg (by simp),if_neg hy]
     exact h)
theorem binTy_spec {b:BinOp} {k k':IntKind} {x y:Int} {t:Value} {y0:Value} (h:binTy b k k' y0=some t) (hy:∀q n,y0=.int q n→y=n):∃v,binV b (.int k x) (.int k' y)=some v∧sameTy t v=true:=by
 have hb:∀ {p:Option Value},(match Nat.beq (kindN k) (kindN k') with|true=>p|false=>none)=some t→k=k'∧p=some t:=by
  intro p h
  split at h<;>first|(cases h;done)|skip
  rename_i e;exact⟨kindN_inj e,h⟩
 show ∃v,(if k=k'∨shiftB b=true then binI b k x y else none)=some v∧_;unfold binTy at h;split at h
 case h_8|h_9=>
  split at h<;>first|(cases h;done)|skip
  rename_i q m e;cases h;have e:=kindN_inj e;have:=hy _ _ rfl;subst this;rw[if_pos (.inl e)]
  have h0:¬(Int.ofNat (m+1)=0):=by simp;omega
  unfold binI;dsimp only;rw[if_neg h0];exact⟨_,rfl,by simp[sameTy]⟩
 case h_10|h_11=>
  split at h<;>first|(cases h;done)|skip
  cases h;have:=hy _ _ rfl;subst this;rw[if_pos (.inr rfl)];unfold binI;dsimp only;rw[if_neg (by simp)];exact⟨_,rfl,by simp[sameTy]⟩
 all_goals
  obtain⟨e,h⟩:=hb h;cases h;rw[if_pos (.inl e)];exact⟨_,rfl,by simp[sameTy]⟩
theorem isOne_spec {y:Value} (h:isOne y=true):∃q,y=.int q (.ofNat 1):=by
 unfold isOne at h
 split at h<;>first|(cases h;done)|skip
 rename_i q n;exact⟨q,by rw[Nat.eq_of_beq_eq_true h]⟩
theorem symBin_spec {τ:Rel} (hs:τ.s=G.s) {b:BinOp} {x y x' y' v:Value} (h:symBin b x y=some v) (hx:VR τ x x') (hy:VR τ y y') :
 ∃k a k' c v',x'=.int k a∧y'=.int k' c∧binV b x' y'=some v'∧VR τ v v':=by
 unfold symBin at h
 split at h<;>first|(cases h;done)|skip
 rename_i hsy
 split at h<;>first|(cases h;done)|skip
 rename_i k n k' n' ex ey
 split at h<;>first|(cases h;done)|skip
 rename_i t ht;obtain⟨h1,h2⟩:=arg_spec hs hx ex;obtain⟨h3,h4⟩:=arg_spec hs hy ey;obtain⟨a,rfl⟩:=sameTy_int h1;obtain⟨c,rfl⟩:=sameTy_int h3
 have hyp:∀q n,y=.int q n→c=n:=by
  rintro q n rfl;cases hy;rfl
 obtain⟨v',e1,e2⟩:=binTy_spec (x:=a) ht hyp;refine⟨k,a,k',c,v',rfl,rfl,e1,?_⟩;split at h
 ·rename_i hr
  cases h;rw[Bool.and_eq_true] at hr
  cases b<;>first|(cases hr.1;done)|skip
  have:c=Int.ofNat 1:=by
   obtain⟨q,hq⟩:=isOne_spec hr.2;exact hyp _ _ hq
  subst this;have e1:(if k=k'∨shiftB .rem=true then binI .rem k a (Int.ofNat 1) else none)=some v':=e1
  split at e1<;>first|(cases e1;done)|skip
  unfold binI at e1;dsimp only at e1;rw[if_neg (by decide)] at e1;cases e1;have:a.tmod (Int.ofNat 1)=0:=Int.tmod_one a;rw[this];exact .int k 0
 ·split at h
  ·rename_i hq
   rw[Bool.and_eq_true] at hq;cases h
   cases b<;>first|(cases hq.1;done)|skip
   have hxy:=veq_eq _ _ _ hq.2;subst hxy
   have hac:(Value.int k a)=.int k' c:=by
    have hsx:isSym x=true:=by simpa using hsy
    have key:∀ {v:Value},symArg G.s x v→G.s x v:=by
     intro v h;rcases h with⟨rfl,hb⟩|h
     ·exfalso
      cases x<;>first|(cases hb;done)|(cases hsx;done)
     ·exact h
    exact G.fn _ _ _ (key h2) (key h4)
   cases hac;have e1:(if k=k∨shiftB .eql=true then binI .eql k a a else none)=some v':=e1;rw[if_pos (.inl rfl)] at e1
   have:v'=.bool true:=by
    unfold binI at e1;dsimp only at e1;cases e1;simp
   subst this;exact .bool true
  cases h;refine .sym 1 _ _ v' ?_ (sb_sb2 (sameTy_sb e2));rw[hs];refine G.cl 0 [x,y] [.int k a,.int k' c] (.int .u64 (.ofNat (binC b))) t v' (.cons _ _ _ _ h2 (.cons _ _ _ _ h4 .nil)) ?_ e2
  have:symApp (0+1) [.int k a,.int k' c] (.int .u64 (.ofNat (binC b))) t=binV (binD (binC b)) (.int k a) (.int k' c):=by cases t<;>rfl
  rw[this,binD_C];exact e1
theorem notV_spec {τ:Rel} (hs:τ.s=G.s) {v r:Value} {b:Bool} (h:notV v=some r) (hv:VR τ v (.bool b)):VR τ r (.bool (!b)):=by
 unfold notV at h;split at h
 ·cases h;cases hv;exact .bool _
 ·unfold symNot at h
  split at h<;>first|(cases h;done)|skip
  rename_i ex;obtain⟨_,h4⟩:=arg_spec hs hv ex;cases h;refine .sym 3 _ _ _ ?_ rfl;rw[hs];exact G.cl 2 [v] [.bool b] _ _ _ (.cons _ _ _ _ h4 .nil) rfl rfl
theorem symEq_spec {τ:Rel} (hs:τ.s=G.s) {b:BinOp} {t:TypeId} {ox oy:Operand} {x y x' y' v:Value} (h:symEq P b t x y=some v) (hx:VR τ x x') (hy:VR τ y y') :
 ∃v',(∀w,(do eqGuard b t ox oy x' y';binOp b t x' y':Sem Value).run P w=.ok v' w)∧VR τ v v':=by
 have hg:∀(b:BinOp) (xs ys:Array Value) w,P.eqGuardType P.depth t=false→(eqGuard b t ox oy (.agg xs) (.agg ys)).run P w=.ok () w:=by
  intro b xs ys w he
  cases b<;>first|rfl|skip
  all_goals
   unfold eqGuard;have hp:(program).run P w=.ok P w:=rfl;simp[Sem.run_bind,hp,he]
 have hag:∀ {x x':Value},isAggV x=true→VR τ x x'→∃xs,x'=.agg xs:=by
  intro x x' ha hx
  cases hx<;>first|(cases ha;done)|skip
  exact⟨_,rfl⟩
 unfold symEq at h
 split at h<;>first|(cases h;done)|skip
 ·rename_i ha
  rw[Bool.and_eq_true] at ha;obtain⟨xs,rfl⟩:=hag ha.1 hx;obtain⟨ys,rfl⟩:=hag ha.2 hy
  split at h<;>first|(cases h;done)|skip
  rename_i he;obtain⟨q,r1,r2⟩:=eqV_spec hs 20 t _ _ _ _ _ h hx hy 10000 (by omega);refine⟨.bool q,fun w=>?_,r2⟩;rw[Sem.run_bind,hg _ xs ys w he,Result.andThen_ok];show (do pure (Value.bool (←Op.equal t (.agg xs) (.agg ys))):Sem Value).run P w=_;unfold Op.equal Op.maxDepth;rw[Sem.run_bind,r1 w];rfl
 ·rename_i ha
  rw[Bool.and_eq_true] at ha;obtain⟨xs,rfl⟩:=hag ha.1 hx;obtain⟨ys,rfl⟩:=hag ha.2 hy
  split at h<;>first|(cases h;done)|skip
  rename_i he
  split at h<;>first|(cases h;done)|skip
  rename_i u hu;obtain⟨q,r1,r2⟩:=eqV_spec hs 20 t _ _ _ _ _ hu hx hy 10000 (by omega);refine⟨.bool (!q),fun w=>?_,notV_spec hs h r2⟩;rw[Sem.run_bind,hg _ xs ys w he,Result.andThen_ok];show (do pure (Value.bool (!(←Op.equal t (.agg xs) (.agg ys)))):Sem Value).run P w=_;unfold Op.equal Op.maxDepth;rw[Sem.run_bind,r1 w];rfl
theorem symQ0_spec {e:Env} {ρ':Operand→Value} {o:Oper} {v:Value} {τ:Rel} {wr:World} (hs:τ.s=G.s) (hv:∀x∈o.op.operands,e.ok G x=true→VR τ (e.eval x) (ρ' x)) (h:symQ0 P e o=some v) :
 ∃v',(execOp ρ' o).run P wr=.ok (.value v') wr∧VR τ v v':=by
 obtain⟨dst,op,type,pos,after,guard⟩:=o;unfold symQ0 at h;dsimp only at h hv
 split at h<;>first|(cases h;done)|skip
 ·rename_i b t x y u
  split at h<;>first|(cases h;done)|skip
  rename_i vx vy hx hy;obtain⟨h1,h2⟩:=Env.get_spec (G:=G) hx;obtain⟨h3,h4⟩:=Env.get_spec (G:=G) hy;have hx:=hv x (by simp[Op.operands]) h1;have hy:=hv y (by simp[Op.operands]) h3;rw[h2] at hx;rw[h4] at hy;split at h
  case h_2=>
   obtain⟨v',r1,r2⟩:=symEq_spec (ox:=x) (oy:=y) hs h hx hy;refine⟨v',?_,r2⟩;show (do pure (Next.value (←(do eqGuard b t x y (ρ' x) (ρ' y);binOp b t (ρ' x) (ρ' y):Sem Value)))).run P wr=_;rw[Sem.run_bind,r1 wr];rfl
  rename_i r hr;cases h;have h:=hr;obtain⟨k,a,k',c,v',e1,e2,e3,e4⟩:=symBin_spec hs h hx hy;refine⟨v',still_run _ ?_ wr,e4⟩;show still P (do pure (Next.value (←(do eqGuard b t x y (ρ' x) (ρ' y);binOp b t (ρ' x) (ρ' y):Sem Value))))=_;refine still_v ?_;rw[e1,e2] at e3 ⊢
  have hg:still P (eqGuard b t x y (.int k a) (.int k' c))=some ():=by cases b<;>rfl
  rw[still_bind_of hg];exact binV_still e3
 ·rename_i s d x
  split at h<;>first|(cases h;done)|skip
  rename_i vx k hx hk;obtain⟨h1,h2⟩:=Env.get_spec (G:=G) hx;have hx:=hv x (by simp[Op.operands]) h1;rw[h2] at hx;unfold symConv at h
  split at h<;>first|(cases h;done)|skip
  rename_i q n _ ex;obtain⟨h3,h4⟩:=arg_spec hs hx ex;obtain⟨a,ha⟩:=sameTy_int h3;cases h;unfold intKindOf at hk
  split at hk<;>first|(cases hk;done)|skip
  rename_i us _ hus hud;cases hk;refine⟨.int k (k.wrap a),still_run _ ?_ wr,?_⟩
  ·show still P (do pure (Next.value (←convert s d (ρ' x))))=_
   refine still_v ?_;rw[ha];unfold convert;rw[still_bind_of (still_underlying hus),still_bind_of (still_underlying hud)]
   cases us<;>rfl
  ·refine .sym 2 _ _ _ ?_ rfl
   rw[hs];rw[ha] at h4;exact G.cl 1 [vx] [.int q a] _ _ _ (.cons _ _ _ _ h4 .nil) rfl (by simp[sameTy])
 ·rename_i t x
  split at h<;>first|(cases h;done)|skip
  rename_i vx hx;obtain⟨h1,h2⟩:=Env.get_spec (G:=G) hx;have hx:=hv x (by simp[Op.operands]) h1;rw[h2] at hx;unfold symNot at h
  split at h<;>first|(cases h;done)|skip
  rename_i q _ ex;obtain⟨h3,h4⟩:=arg_spec hs hx ex;obtain⟨a,ha⟩:=sameTy_bool h3;cases h;refine⟨.bool (!a),still_run _ ?_ wr,?_⟩
  ·show still P (do pure (Next.value (←Op.unary .not (ρ' x))))=_
   refine still_v ?_;rw[ha];rfl
  ·refine .sym 3 _ _ _ ?_ rfl
   rw[hs];rw[ha] at h4;exact G.cl 2 [vx] [.bool a] _ _ _ (.cons _ _ _ _ h4 .nil) rfl rfl
noncomputable def quietTq (P:Program) (G:Gl) (w:TW) (e:Env) (o:Oper):Option Value:=match fastQ P w e o with
 |some v=>some v
 |none=>match quietT0 P G w e o with
   |some v=>forceV 20 v some
   |none=>none
theorem quietT_eq {w:TW} {e:Env} {o:Oper} {v:Value} (h:quietTq P G w e o=some v):quietT0 P G w e o=some v:=by
 unfold quietTq at h;split at h
 ·rename_i u hu
  cases h;obtain⟨h1,h2⟩:=fastQ_spec (G:=G) hu;unfold quietT0
  cases hl:isLd o with
  |true=>dsimp only;rw[h1]
  |false=>exact h2 hl
 ·split at h<;>first|(cases h;done)|skip
  rename_i u hu;rw[forceV_eq] at h;cases h;exact hu
noncomputable def knownB (l:List (Value×Bool)) (v:Value):Option Bool:=List.rec (motive:=fun _=>Option Bool) none (fun p _ ih=>match veq 60 p.1 v with
 |true=>some p.2
 |false=>ih) l
theorem knownB_spec {v:Value} {b:Bool}:∀ {l:List (Value×Bool)},knownB l v=some b→(v,b)∈l
 | [],h=>by cases h
 |p::l,h=>by
   have h:(match veq 60 p.1 v with|true=>some p.2|false=>knownB l v)=some b:=h;split at h
   ·rename_i e
    cases h;rw[←veq_eq _ _ _ e];exact List.mem_cons_self
   ·exact List.mem_cons_of_mem _ (knownB_spec h)
noncomputable def decV (G:Gl) (v:Value):Value:=match v with
 |.func (.yield l) xs ys=>match knownB G.dl (.func (.yield l) xs ys) with
   |some b=>.bool b
   |none=>.func (.yield l) xs ys
 |v=>v
theorem decV_vr {G:Gl} {τ:Rel} {v v':Value} (hs:τ.s=G.s) (hv:VR τ v v'):VR τ (decV G v) v':=by
 unfold decV;split
 ·rename_i l xs ys
  split
  ·rename_i b hb
   cases hv with
   |func fn xs ys us vs hf=>exact absurd rfl (hf _)
   |sym l xs ys v' hsy hsb=>
     rw[hs] at hsy;rw[G.dec _ _ _ (knownB_spec hb) hsy];exact .bool b
  ·exact hv
 ·exact hv
noncomputable def symQ (P:Program) (G:Gl) (e:Env) (o:Oper):Option Value:=match symQ0 P e o with
 |some v=>some (decV G v)
 |none=>none
theorem symQ_congr {e e':Env} {o:Oper} (h:∀x∈o.op.operands,e.eval x=e'.eval x∧e.ok G x=e'.ok G x):symQ P G e o=symQ P G e' o:=by
 unfold symQ;rw[symQ0_congr h]
theorem symQ_spec {e:Env} {ρ':Operand→Value} {o:Oper} {v:Value} {τ:Rel} {wr:World} (hs:τ.s=G.s) (hv:∀x∈o.op.operands,e.ok G x=true→VR τ (e.eval x) (ρ' x)) (h:symQ P G e o=some v) :
 ∃v',(execOp ρ' o).run P wr=.ok (.value v') wr∧VR τ v v':=by
 unfold symQ at h
 split at h<;>first|(cases h;done)|skip
 rename_i u hu;cases h;obtain⟨v',h1,h2⟩:=symQ0_spec hs hv hu;exact⟨v',h1,decV_vr hs h2⟩
noncomputable def quietT (P:Program) (G:Gl) (w:TW) (e:Env) (o:Oper):Option Value:=match fastQ P w e o with
 |some v=>some v
 |none=>match symQ P G e o with
   |some v=>some v
   |none=>match quietT0 P G w e o with
     |some v=>forceV 20 v some
     |none=>none
theorem quietT_split {w:TW} {e:Env} {o:Oper} {v:Value} (h:quietT P G w e o=some v):symQ P G e o=some v∨quietTq P G w e o=some v:=by
 unfold quietT at h;unfold quietTq
 cases hf:fastQ P w e o with
 |some u=>rw[hf] at h;exact .inr h
 |none=>
   rw[hf] at h;dsimp only at h ⊢
   cases hq:symQ P G e o with
   |some u=>rw[hq] at h;exact .inl h
   |none=>rw[hq] at h;exact .inr h
theorem WT.sy {B:FM} {w0:World} {τ:Rel} {wa:TW} {wr:World} (h:WT G B w0 τ wa wr):τ.s=G.s:=by
 obtain⟨_,_,h⟩:=h;exact h.sy
theorem quietT_spec {B:FM} {w0:World} {e:Env} {ρ':Operand→Value} {o:Oper} {v:Value} {τ:Rel} {w:TW} {wr:World} (hv:∀x∈o.op.operands,e.ok G x=true→VR τ (e.eval x) (ρ' x)) (hw:WT G B w0 τ w wr) (h:quietT P G w e o=some v) :
 ∃ τ' v' wr',τ.le τ'∧(execOp ρ' o).run P wr=.ok (.value v') wr'∧VR τ' v v'∧WT G B w0 τ' w wr':=by
 rcases quietT_split h with h|h
 ·obtain⟨v',e1,e2⟩:=symQ_spec hw.sy hv h
  exact⟨τ,v',wr,Rel.le.refl _,e1,e2,hw⟩
 ·exact quietT0_spec hv hw (quietT_eq h)
theorem quietT_congr {e e':Env} {o:Oper} {w:TW} (hs:noSel o=true) (h:∀x∈o.op.operands,e.eval x=e'.eval x∧e.ok G x=e'.ok G x):quietT P G w e o=quietT P G w e' o:=by
 unfold quietT;rw[fastQ_congr h,symQ_congr h,quietT0_congr hs h]
noncomputable def getK {β:Type} (e:Env) (l:List Operand):(List Value→Option β)→Option β:=List.rec (motive:=fun _=>(List Value→Option β)→Option β) (fun k=>k []) (fun x _ ih k=>match e.get x with|some v=>ih fun vs=>k (v::vs)|none=>none) l
theorem getK_spec {β:Type} {e:Env}:∀(l:List Operand) {k:List Value→Option β} {r:β},getK e l k=some r→(∀x∈l,e.ok G x=true)∧k (l.map e.eval)=some r
 | [],k,r,h=>⟨fun x hx=>(by cases hx),h⟩
 |x::l,k,r,h=>by
   have h:(match e.get x with|some v=>getK e l fun vs=>k (v::vs)|none=>none)=some r:=h
   split at h<;>first|(cases h;done)|skip
   rename_i v hv;obtain⟨h1,h2⟩:=Env.get_spec (G:=G) hv;obtain⟨h3,h4⟩:=getK_spec l h;refine⟨fun y hy=>?_,by rw[List.map_cons,h2];exact h4⟩;rcases List.mem_cons.1 hy with rfl|hy
   ·exact h1
   ·exact h3 y hy
noncomputable def stepV1 (P:Program) (G:Gl) (sp:SpecT) (ev:EvF) (o:Oper) (e:Env) (w:TW):Option (Value×TW):=match fastQ P w e o with
 |some v=>some (v,w)
 |none=>match o.op with
   |.store t a x=>match e.get a,e.get x with
     |some va,some vx=>match fastSt P w t va vx with
       |some w'=>some (undef,w')
       |none=>stepV0 P G sp ev o e w
     |_,_=>stepV0 P G sp ev o e w
   |.call ⟨.value (.func f),args,_⟩=>match bodyOk P f with
     |true=>match getK e args.toList fun vs=>ev f ⟨vs⟩ w with
       |some r=>some r
       |none=>stepV0 P G sp ev o e w
     |false=>stepV0 P G sp ev o e w
   |_=>stepV0 P G sp ev o e w
noncomputable def sStore (P:Program) (e:Env) (w:TW) (t:TypeId) (a x:Operand):Option (Value×TW):=match e.get a with
 |some va=>match e.get x with
   |some vx=>match fastSt P w t va vx with
     |some w'=>some (undef,w')
     |none=>none
   |none=>none
 |none=>none
noncomputable def sCall (P:Program) (ev:EvF) (e:Env) (w:TW) (f:FuncId) (args:Array Operand):Option (Value×TW):=match bodyOk P f with
 |true=>getK e args.toList fun vs=>ev f ⟨vs⟩ w
 |false=>none
noncomputable def sOp (P:Program) (ev:EvF) (o:Oper) (e:Env) (w:TW):Option (Value×TW):=match o.op with
 |.store t a x=>sStore P e w t a x
 |.call ⟨.value (.func f),args,_⟩=>sCall P ev e w f args
 |_=>none
noncomputable def stepVq (P:Program) (G:Gl) (sp:SpecT) (ev:EvF) (o:Oper) (e:Env) (w:TW):Option (Value×TW):=match fastQ P w e o with
 |some v=>some (v,w)
 |none=>match sOp P ev o e w with
   |some r=>some r
   |none=>stepV0 P G sp ev o e w
noncomputable def stepV (P:Program) (G:Gl) (sp:SpecT) (ev:EvF) (o:Oper) (e:Env) (w:TW):Option (Value×TW):=match fastQ P w e o with
 |some v=>some (v,w)
 |none=>match symQ P G e o with
   |some v=>some (v,w)
   |none=>match sOp P ev o e w with
     |some r=>some r
     |none=>stepV0 P G sp ev o e w
theorem stepV_split {sp:SpecT} {ev:EvF} {o:Oper} {e:Env} {w:TW} {r:Value×TW} (h:stepV P G sp ev o e w=some r):(symQ P G e o=some r.1∧r.2=w)∨stepVq P G sp ev o e w=some r:=by
 unfold stepV at h;unfold stepVq
 cases hf:fastQ P w e o with
 |some u=>rw[hf] at h;exact .inr h
 |none=>
   rw[hf] at h;dsimp only at h ⊢
   cases hq:symQ P G e o with
   |some u=>rw[hq] at h;cases h;exact .inl ⟨rfl,rfl⟩
   |none=>rw[hq] at h;exact .inr h
theorem stepV_eq1 (P:Program) (G:Gl) (sp:SpecT) (ev:EvF) (o:Oper) (e:Env) (w:TW):stepVq P G sp ev o e w=stepV1 P G sp ev o e w:=by
 unfold stepVq stepV1
 cases fastQ P w e o with
 |some v=>rfl
 |none=>
   dsimp only;unfold sOp
   cases o.op<;>first|rfl|skip
   ·rename_i tt a x
    dsimp only;unfold sStore
    cases e.get a with
    |none=>rfl
    |some va=>
      dsimp only
      cases e.get x with
      |none=>rfl
      |some vx=>
        dsimp only
        cases fastSt P w tt va vx<;>rfl
   ·rename_i c
    obtain⟨callee,args,ts⟩:=c
    cases callee<;>first|rfl|skip
    rename_i x
    cases x<;>first|rfl|skip
    dsimp only;unfold sCall
    cases bodyOk P _<;>rfl
theorem stepV_eq {ev:EvF} {o:Oper} {e:Env} {r:Value×TW} {w:TW} (h:stepVq P G (specT P) ev o e w=some r):stepV0 P G (specT P) ev o e w=some r:=by
 rw[stepV_eq1] at h;unfold stepV1 at h;split at h
 ·rename_i v hv
  cases h;obtain⟨h1,_⟩:=fastQ_spec (G:=G) hv;unfold stepV0;rw[h1];dsimp only;rw[forceV_eq]
 ·split at h
  ·rename_i t a x hop
   split at h
   ·rename_i va vx ha hx
    split at h
    ·rename_i w' hs
     cases h;obtain⟨h1,h2⟩:=Env.get_spec (G:=G) ha;obtain⟨h3,h4⟩:=Env.get_spec (G:=G) hx
     have he:evalOpT P (specT P) (e.ok G) e.eval o w=some (.skip,w'):=by
      obtain⟨dst,op,type,pos,after,guard⟩:=o;dsimp only at hop;subst hop;have hopr:(({ dst,op:=.store t a x,type,pos,after,guard }:Oper).op.operands)=#[a,x]:=rfl;unfold evalOpT;rw[hopr]
      have e1:(#[a,x].toList.all (e.ok G))=true:=by simp[h1,h3]
      have e2:evalAF P e.eval { dst,op:=.store t a x,type,pos,after,guard }=none:=by
       unfold evalAF;simp only[execQ_eq];rw[hopr]
       have:AFb 10 (e.eval a)=false:=by
        rw[h2];unfold fastSt at hs
        split at hs<;>first|(cases hs;done)|rfl
       rw[if_neg (by simp[this])]
      rw[if_pos e1,e2];show (if true&&true then runF P e.eval _ w else specT P _ _ w)=_;simp only[Bool.and_self,if_true];unfold runF;simp only[execQ_eq]
      try dsimp only
      rw[h2,h4,hs]
     unfold stepV0;rw[he]
    ·exact h
   ·exact h
  ·rename_i f args ts hop
   split at h
   ·rename_i hbk
    split at h
    ·rename_i r2 hg
     cases h;obtain⟨h1,h2⟩:=getK_spec (G:=G) _ hg
     have he:evalOpT P (specT P) (e.ok G) e.eval o w=some (.enter f ⟨args.toList.map e.eval⟩,w):=by
      obtain⟨dst,op,type,pos,after,guard⟩:=o;dsimp only at hop;subst hop;refine evalOpT_still (fun y hy=>?_) ?_ rfl ?_ ⟨by simp,by simp⟩
      ·have:y=.func f∨y∈args:=by simpa[Op.operands,Call.operands] using hy
       rcases this with rfl|hy
       ·rfl
       ·exact h1 y (by simpa using hy)
      ·show bodyOk P f=true
       exact hbk
      ·show still P (do let d ←resolve e.eval ⟨.value (.func f),args,ts⟩ type;invoke d.target d.args)=_
       have hr:still P (resolve e.eval ⟨.value (.func f),args,ts⟩ type)=some { target:=.fn (.func f) #[],args:=#[]++args.map e.eval }:=rfl;rw[still_bind_of hr];show still P (callFunc f ((#[]++args.map e.eval)++#[]))=_
       have ha:(#[]++args.map e.eval)++#[]=(⟨args.toList.map e.eval⟩:Array Value):=by cases args;simp
       rw[ha];unfold callFunc;rw[still_bind_of (a:=P) rfl];unfold bodyOk at hbk
       split at hbk<;>first|(cases hbk;done)|skip
       rename_i fn hfn;rw[hfn];simp only[Bool.and_eq_true,Bool.not_eq_true'] at hbk
       have e1:fn.body.isNone=false:=by cases hx:fn.body with|none=>rw[hx] at hbk;simp at hbk|some c=>rfl
       simp only[hbk.2,e1,Bool.false_eq_true,if_false];rfl
     unfold stepV0;rw[he];dsimp only;rw[forceArr_eq,h2];dsimp only;rw[forceV_eq]
    ·exact h
   ·exact h
  ·exact h
theorem stepV_sound {B:FM} {w0:World} {ev:EvF} (hev:EvOkT P G ev) {o:Oper} {e:Env} {v:Value} {wa wa2:TW} (h:stepV P G (specT P) ev o e wa=some (v,wa2)) {τ:Rel} {a':Act} {wr:World} (hv:∀x∈o.op.operands,e.ok G x=true→VR τ (e.eval x) (a'.eval x)) (hw:WT G B w0 τ wa wr)
 {K:Act→World→Prop} {Q:Exit→Act→World→Prop} (hK:∀ τ' v' wr',τ.le τ'→VR τ' v v'→WT G B w0 τ' wa2 wr'→K (a'.put o.dst v') wr'):o.wp P a' wr K Q:=by
 rcases stepV_split h with⟨h,e0⟩|h
 ·obtain⟨v',e1,e2⟩:=symQ_spec hw.sy hv h
  dsimp only at e0;subst e0;unfold Oper.wp;rw[e1];exact hK τ v' wr (Rel.le.refl _) e2 hw
 ·exact stepV0_sound (specT_ok P G) hev (stepV_eq h) hv hw hK
end
end Go.Ev
