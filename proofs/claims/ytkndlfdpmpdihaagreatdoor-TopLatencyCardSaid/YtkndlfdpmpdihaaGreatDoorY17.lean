/- Places on the wheel: when they begin, what stays when the base moves, and their order; plain law. The bits of a word, as a list; plain law. The wheel's law: chains, slots and times agree; plain law. A range over a function whose things are known one by one, while the body turns what they come from.  Conditions: those that each statement shows. -/
import Derived.Test.YtkndlfdpmpdihaaGreatDoorY10
import Derived.Test.YtkndlfdpmpdihaaGreatDoorY15
import Derived.Test.YtkndlfdpmpdihaaGreatDoorY16
import Derived.Test.YtkndlfdpmpdihaaGreatDoorY14
import Derived.OwnWalkIn
namespace Go.Proofs.YtkndlfdpmpdihaaGreatDoor
open Go.RowKit Go.Ev Go.Mv
set_option linter.unusedVariables false
set_option linter.unusedSimpArgs false
set_option maxRecDepth 100000
theorem digN_eq (n l:Nat) (hl:l<8):digN n l=n/64^l%64:=by
 match l,hl with
 | 0,_=>simp[digN]
 | 1,_=>rfl
 | 2,_=>rfl
 | 3,_=>rfl
 | 4,_=>rfl
 | 5,_=>rfl
 | 6,_=>rfl
 | 7,_=>rfl
set_option maxHeartbeats 2000000 in
theorem topN_lt {b d l:Nat} (h:topN b d=l) (hl:l<8) (hlt:b<d):b/64^(l+1)=d/64^(l+1)∧b/64^l%64<d/64^l%64:=by
 match l,hl with
 | 0,_=>simp only[Nat.reduceAdd,Nat.reducePow];unfold topN at h;(repeat' split at h)<;>omega
 | 1,_=>simp only[Nat.reduceAdd,Nat.reducePow];unfold topN at h;(repeat' split at h)<;>omega
 | 2,_=>simp only[Nat.reduceAdd,Nat.reducePow];unfold topN at h;(repeat' split at h)<;>omega
 | 3,_=>simp only[Nat.reduceAdd,Nat.reducePow];unfold topN at h;(repeat' split at h)<;>omega
 | 4,_=>simp only[Nat.reduceAdd,Nat.reducePow];unfold topN at h;(repeat' split at h)<;>omega
 | 5,_=>simp only[Nat.reduceAdd,Nat.reducePow];unfold topN at h;(repeat' split at h)<;>omega
 | 6,_=>simp only[Nat.reduceAdd,Nat.reducePow];unfold topN at h;(repeat' split at h)<;>omega
 | 7,_=>simp only[Nat.reduceAdd,Nat.reducePow];unfold topN at h;(repeat' split at h)<;>omega
theorem topN_far {b d:Nat} (h:topN b d=8) (hlt:b<d):b/281474976710656<d/281474976710656:=by
 unfold topN at h
 repeat' split at h
 all_goals omega
theorem topN_of {b d l:Nat} (hl:l<8) (h1:b/64^(l+1)=d/64^(l+1)) (h2:b/64^l%64≠d/64^l%64):topN b d=l:=by
 unfold topN
 match l,hl with
 | 0,_=>simp only[Nat.reduceAdd,Nat.reducePow] at h1 h2;(repeat' split)<;>omega
 | 1,_=>simp only[Nat.reduceAdd,Nat.reducePow] at h1 h2;(repeat' split)<;>omega
 | 2,_=>simp only[Nat.reduceAdd,Nat.reducePow] at h1 h2;(repeat' split)<;>omega
 | 3,_=>simp only[Nat.reduceAdd,Nat.reducePow] at h1 h2;(repeat' split)<;>omega
 | 4,_=>simp only[Nat.reduceAdd,Nat.reducePow] at h1 h2;(repeat' split)<;>omega
 | 5,_=>simp only[Nat.reduceAdd,Nat.reducePow] at h1 h2;(repeat' split)<;>omega
 | 6,_=>simp only[Nat.reduceAdd,Nat.reducePow] at h1 h2;(repeat' split)<;>omega
 | 7,_=>simp only[Nat.reduceAdd,Nat.reducePow] at h1 h2;(repeat' split)<;>omega
theorem topN_of_far {b d:Nat} (h:b/281474976710656≠d/281474976710656):topN b d=8:=by
 unfold topN;rw[if_pos h]
inductive Pl (b d:Nat):Int×Int→Prop
 |late:d≤b→Pl b d (-1,0)
 |far:b<d→b/281474976710656<d/281474976710656→Pl b d (8,0)
 |slot (l:Nat):l<8→b<d→b/64^(l+1)=d/64^(l+1)→b/64^l%64<d/64^l%64→Pl b d ((l:Nat),(d/64^l%64:Nat))
theorem pl_of (b d:Nat):Pl b d (placeOf b d):=by
 unfold placeOf;split
 ·exact .late ‹_›
 ·split
  ·exact .far (by omega) (topN_far ‹_› (by omega))
  ·have h8:topN b d<8:=by have:=topN_le b d;omega
   have h:=topN_lt rfl h8 (by omega);rw[digN_eq _ _ h8];exact .slot _ h8 (by omega) h.1 h.2
theorem Pl.place {b d:Nat} {k:Int×Int} (h:Pl b d k):placeOf b d=k:=by
 unfold placeOf
 cases h with
 |late h=>rw[if_pos h]
 |far h1 h2=>rw[if_neg (by omega),if_pos (topN_of_far (by omega))]
 |slot l hl h1 h2 h3=>
   have e:=topN_of hl h2 (by omega);rw[if_neg (by omega),e,if_neg (by omega),digN_eq _ _ hl]
inductive Sp (b:Nat):Int×Int→Nat→Prop
 |late:Sp b (-1,0) 0
 |far:Sp b (8,0) ((b/281474976710656+1)*281474976710656)
 |slot (l s:Nat):l<8→s<64→b/64^l%64<s→Sp b ((l:Nat),(s:Nat)) (b/64^(l+1)*64^(l+1)+s*64^l)
theorem pow_s (l:Nat):64^(l+1)=64*64^l:=by rw[Nat.pow_succ,Nat.mul_comm]
theorem div_s (x l:Nat):x/64^(l+1)=x/64^l/64:=by rw[pow_s,Nat.mul_comm,Nat.div_div_eq_div_mul]
theorem sp_slot (b l s:Nat):b/64^(l+1)*64^(l+1)+s*64^l=(b/64^l/64*64+s)*64^l:=by
 rw[div_s,pow_s,Nat.add_mul,Nat.mul_assoc]
theorem Sp.uniq {b:Nat} {k:Int×Int} {f g:Nat} (h1:Sp b k f) (h2:Sp b k g):f=g:=by
 cases h1 with
 |late=>cases h2;rfl
 |far=>cases h2 with
   |far=>rfl
   |slot=>exact absurd (by assumption) (Nat.lt_irrefl 8)
 |slot l s hl hs hd=>
   generalize hk:(((l:Nat):Int),((s:Nat):Int))=k at h2
   cases h2 with
   |late=>have:=congrArg Prod.fst hk;simp only at this;omega
   |far=>have:=congrArg Prod.fst hk;simp only at this;omega
   |slot l' s' hl' hs' hd'=>
     have e1:=congrArg Prod.fst hk;have e2:=congrArg Prod.snd hk;simp only at e1 e2
     have e1:l=l':=by omega
     have e2:s=s':=by omega
     subst e1 e2;rfl
theorem Pl.span {b d:Nat} {k:Int×Int} (h:Pl b d k):∃f,Sp b k f∧f≤d:=by
 cases h with
 |late h=>exact⟨_,.late,Nat.zero_le _⟩
 |far h1 h2=>exact⟨_,.far,by omega⟩
 |slot l hl h1 h2 h3=>
   refine⟨_,.slot l _ hl (Nat.mod_lt _ (by omega)) h3,?_⟩;rw[sp_slot];rw[div_s,div_s] at h2
   have e:b/64^l/64*64+d/64^l%64=d/64^l:=by omega
   rw[e];exact Nat.div_mul_le_self _ _
theorem Pl.stay {b d tt:Nat} {k:Int×Int} {f:Nat} (h:Pl b d k) (hs:Sp b k f) (h1:b≤tt) (h2:tt<f):Pl tt d k:=by
 obtain⟨f',hs',hf'⟩:=h.span;have e:=hs.uniq hs';subst e
 cases h with
 |late h=>cases hs;omega
 |far h3 h4=>
   have e:=hs.uniq .far;exact .far (by omega) (by omega)
 |slot l hl h3 h4 h5=>
   have e:=hs.uniq (.slot l _ hl (Nat.mod_lt _ (by omega)) h5);rw[sp_slot] at e;have h6:=h4;rw[div_s,div_s] at h6
   have e2:b/64^l/64*64+d/64^l%64=d/64^l:=by omega
   rw[e2] at e;have hM:0<64^l:=Nat.pow_pos (by omega)
   have h7:tt/64^l<d/64^l:=by
    rw[Nat.div_lt_iff_lt_mul hM,←e];exact h2
   have h8:b/64^l≤tt/64^l:=Nat.div_le_div_right h1;refine .slot l hl (by omega) ?_ ?_
   ·rw[div_s,div_s]
    omega
   ·omega
def keyLt (k k':Int×Int):Prop:=k.1<k'.1∨(k.1=k'.1∧k.2<k'.2)
theorem Pl.ahead {b d:Nat} {k k':Int×Int} {f':Nat} (h:Pl b d k) (hs:Sp b k' f') (hk:keyLt k k'):d<f':=by
 cases hs with
 |late=>
   rcases hk with hk|⟨hk,hk2⟩
   ·cases h<;>(simp only at hk;omega)
   ·cases h<;>simp only at hk hk2<;>omega
 |far=>
   cases h with
   |late h=>omega
   |far h1 h2=>
     rcases hk with hk|⟨_,hk⟩<;>simp at hk
   |slot l hl h1 h2 h3=>
     have e:(281474976710656:Nat)=64^(l+1)*64^(7-l):=by rw[←Nat.pow_add,show l+1+(7-l)=8 by omega]
     have:b/281474976710656=d/281474976710656:=by rw[e,←Nat.div_div_eq_div_mul,←Nat.div_div_eq_div_mul,h2]
     omega
 |slot l s hl hsl hd=>
   have hM:0<64^l:=Nat.pow_pos (by omega);rw[sp_slot]
   have key:d/64^l<b/64^l/64*64+s:=by
    cases h with
    |late h=>
      have:=Nat.div_le_div_right (c:=64^l) h;omega
    |far h1 h2=>
      rcases hk with hk|⟨hk,_⟩<;>(simp only at hk;omega)
    |slot m hm h1 h2 h3=>
      rcases hk with hk|⟨hk,hk2⟩
      ·simp only at hk
       have hml:m<l:=by omega
       have e:64^l=64^(m+1)*64^(l-(m+1)):=by rw[←Nat.pow_add];congr 1;omega
       have:b/64^l=d/64^l:=by rw[e,←Nat.div_div_eq_div_mul,←Nat.div_div_eq_div_mul,h2]
       omega
      ·simp only at hk hk2
       have hml:m=l:=by omega
       subst hml;rw[div_s,div_s] at h2;omega
   calc d<(d/64^l+1)*64^l:=Nat.lt_mul_of_div_lt (Nat.lt_succ_self _) hM
    _≤_:=Nat.mul_le_mul_right _ key
theorem ctz_bit (x:Nat) (hx:x≠0) (hl:x<2^64):x.testBit (Lib.ctz 64 x)=true∧∀j,j<Lib.ctz 64 x→x.testBit j=false:=by
 obtain⟨k,hk,hc⟩:=Lib.ctzFrom_spec 64 x (by omega) hl
 have hcz:Lib.ctz 64 x=Lib.ctzFrom 64 x:=by unfold Lib.ctz;rw[if_neg hx]
 rw[hcz];generalize Lib.ctzFrom 64 x=c at *;rw[hk];refine⟨by rw[Nat.testBit_two_pow_mul];simp,fun j hj=>?_⟩;rw[Nat.testBit_two_pow_mul];simp;omega
theorem mask_bit (m s:Nat) (hm:m≤64):(2^64-1-(2^m-1)).testBit s=(decide (m≤s)&&decide (s<64)):=by
 have e:2^64-1-(2^m-1)=2^m*(2^(64-m)-1):=by
  have e1:2^64=2^m*2^(64-m):=by rw[←Nat.pow_add];congr 1;omega
  have e2:1≤2^m:=Nat.one_le_two_pow;rw[Nat.mul_sub,←e1];omega
 rw[e,Nat.testBit_two_pow_mul,Nat.testBit_two_pow_sub_one]
 by_cases h:m≤s
 ·simp only[h,decide_true,Bool.true_and]
  congr 1;apply propext;omega
 ·simp[h]
theorem nxt_spec (n:Nat) (hn:n<18446744073709551616) (m:Nat) (hm:m≤64):(nxtN n m=-1∧∀s,m≤s→s<64→n.testBit s=false) ∨
 ∃a:Nat,nxtN n m=a∧m≤a∧a<64∧n.testBit a=true∧∀s,m≤s→s<a→n.testBit s=false:=by
 unfold nxtN
 by_cases h:m<64
 ·rw[if_pos h]
  unfold firstN
  have hb:∀s,(n &&& (2^64-1-(2^m-1))).testBit s=(n.testBit s&&(decide (m≤s)&&decide (s<64))):=fun s=>by rw[Nat.testBit_and,mask_bit m s hm]
  have hlt:n &&& (2^64-1-(2^m-1))<2^64:=Nat.lt_of_le_of_lt Nat.and_le_left (by omega);generalize n &&& (2^64-1-(2^m-1))=r at *
  by_cases hz:r=0
  ·refine .inl ⟨if_pos hz,fun s h1 h2=>?_⟩
   have:=hb s;rw[hz] at this;simp[h1,h2] at this;exact this
  ·have hc:=ctz_bit r hz hlt
   generalize Lib.ctz 64 r=c at *;have h1:=hc.1;rw[hb] at h1;simp at h1;refine .inr ⟨c,if_neg hz,h1.2.1,h1.2.2,h1.1,fun s h2 h3=>?_⟩;have h4:=hc.2 s h3;rw[hb] at h4
   have h5:s<64:=by omega
   simpa[h2,h5] using h4
 ·exact .inl ⟨if_neg h,fun s h1 h2=>by omega⟩
theorem bits_mem (n:Nat) (hn:n<18446744073709551616):∀(L:List Nat) (m:Nat),m≤64→Bits n (nxtN n m) L→(∀s,s∈L↔m≤s∧s<64∧n.testBit s=true)∧L.Pairwise (· < ·):=by
 intro L
 induction L with
 |nil=>
   intro m hm h;have h:nxtN n m=-1:=h;rcases nxt_spec n hn m hm with⟨_,h1⟩|⟨a,e,_⟩
   ·refine⟨fun s=>⟨fun e=>(by cases e),fun⟨h2,h3,h4⟩=>?_⟩,.nil⟩
    rw[h1 s h2 h3] at h4;cases h4
   ·omega
 |cons a L ih=>
   intro m hm h;obtain⟨e,h64,hr⟩:=h;rcases nxt_spec n hn m hm with⟨e1,_⟩|⟨c,e1,h1,h2,h3,h4⟩
   ·omega
   ·have hca:c=a:=by omega
    subst hca;obtain⟨i1,i2⟩:=ih (c+1) (by omega) hr;refine⟨fun s=>?_,List.pairwise_cons.2 ⟨fun s hs=>by have:=(i1 s).1 hs;omega,i2⟩⟩;rw[List.mem_cons,i1];constructor
    ·rintro (rfl|⟨h5,h6,h7⟩)
     ·exact⟨h1,h2,h3⟩
     ·exact⟨by omega,h6,h7⟩
    ·rintro ⟨h5,h6,h7⟩
     by_cases hs:s<c
     ·rw[h4 s h5 hs] at h7
      cases h7
     ·by_cases hs2:s=c
      ·exact .inl hs2
      ·exact .inr ⟨by omega,h6,h7⟩
theorem two_bit (n s:Nat):(2^n).testBit s=decide (n=s):=Nat.testBit_two_pow
theorem occSet_bit {m:Nat→Nat} {k:Int×Int} {l s:Nat} (hl:l<8) (hk:(k.1<0∨8≤k.1)∨slotK k):(occSet m k l).testBit s=true↔(m l).testBit s=true∨k=((l:Int),(s:Int)):=by
 unfold occSet;split
 ·rename_i h
  refine⟨.inl,fun e=>e.elim id fun e=>?_⟩;subst e;simp only at h;omega
 ·rename_i h
  rcases hk with hk|⟨x,y,rfl,hx,hy⟩
  ·exact absurd hk h
  ·simp only[Int.toNat_natCast]
   by_cases e:l=x
   ·subst e
    rw[fset_same,Nat.testBit_or,two_bit,Bool.or_eq_true,decide_eq_true_eq];refine or_congr Iff.rfl ⟨fun e=>by rw[e],fun e=>?_⟩;have:=congrArg Prod.snd e;simp only at this;omega
   ·rw[fset_ne _ _ e]
    refine⟨.inl,fun h=>h.elim id fun h=>?_⟩;have:=congrArg Prod.fst h;simp only at this;omega
theorem drop_bit {y s:Nat} (hy:y<64) (hs:s<64):(2^64-1-2^y).testBit s=decide (y≠s):=by
 have e:2^64-1-2^y=(2^64-1) ^^^ 2^y:=by
  have:∀y:Nat,y<64→2^64-1-2^y=(2^64-1) ^^^ 2^y:=by decide
  exact this y hy
 rw[e,Nat.testBit_xor,Nat.testBit_two_pow_sub_one,two_bit];simp[hs]
theorem occDrop_bit {m:Nat→Nat} {k:Int×Int} {l s:Nat} (hl:l<8) (hs:s<64) (hk:(k.1<0∨8≤k.1)∨slotK k):(occDrop m k l).testBit s=true↔(m l).testBit s=true∧k≠((l:Int),(s:Int)):=by
 unfold occDrop;split
 ·rename_i h
  refine⟨fun e=>⟨e,fun e=>?_⟩,And.left⟩;subst e;simp only at h;omega
 ·rename_i h
  rcases hk with hk|⟨x,y,rfl,hx,hy⟩
  ·exact absurd hk h
  ·simp only[Int.toNat_natCast]
   by_cases e:l=x
   ·subst e
    rw[fset_same,Nat.testBit_and,drop_bit hy hs,Bool.and_eq_true,decide_eq_true_eq];refine and_congr Iff.rfl ⟨fun e1 e=>?_,fun e1 e=>e1 (by rw[e])⟩;have:=congrArg Prod.snd e;simp only at this;omega
   ·rw[fset_ne _ _ e]
    refine⟨fun h=>⟨h,fun h=>?_⟩,And.left⟩;have:=congrArg Prod.fst h;simp only at this;omega
theorem Pl.key {b d:Nat} {k:Int×Int} (h:Pl b d k):(k.1<0∨8≤k.1)∨slotK k:=by
 cases h with
 |late h=>exact .inl (.inl (by decide))
 |far h1 h2=>exact .inl (.inr (by decide))
 |slot l hl h1 h2 h3=>exact .inr ⟨l,_,rfl,hl,Nat.mod_lt _ (by omega)⟩
structure WMid (B:WB) (S:WS) (ls:Int×Int→List Nat) (b:Nat) (M:Nat→Prop):Prop where
 ok:WOk B S ls
 pl:∀k a,a∈ls k→∃t,S.p.ent a=some t∧Pl b t.d k
 all:∀a t,S.p.ent a=some t→M a∨a∈ls (placeOf b t.d)
 out:∀a,M a→(∀k,a∉ls k)∧a<B.c.room∧∃t,LiveAt S.p a t∧t.d<18446744073709551616
 bits:∀l s:Nat,l<8→s<64→((S.m l).testBit s=true↔ls ((l:Int),(s:Int))≠[])
section
variable {B:WB} {S:WS} {ls:Int×Int→List Nat} {b:Nat} {M:Nat→Prop}
theorem WMid.keyOk (h:WMid B S ls b M) {k:Int×Int} (hk:ls k≠[]):(k.1<0∨8≤k.1)∨slotK k:=by
 cases hl:ls k with
 |nil=>exact absurd hl hk
 |cons a l=>
   obtain⟨t,_,hp⟩:=h.pl k a (by rw[hl];simp);exact hp.key
theorem WMid.base (h:WMid B S ls b M) {tt:Nat} (hb:b≤tt) (hs:∀k,ls k≠[]→∃f,Sp b k f∧tt<f):WMid B S ls tt M:=by
 have hst:∀k a,a∈ls k→∃t,S.p.ent a=some t∧Pl tt t.d k:=fun k a ha=>by
  obtain⟨t,ht,hp⟩:=h.pl k a ha;obtain⟨f,hf,hlt⟩:=hs k (by rintro e;rw[e] at ha;cases ha);exact⟨t,ht,hp.stay hf hb hlt⟩
 refine⟨h.ok,hst,fun a t ht=>(h.all a t ht).imp id fun ha=>?_,h.out,h.bits⟩;obtain⟨t',ht',hp⟩:=hst _ a ha;rw[ht] at ht';cases ht';rw[hp.place];exact ha
theorem WMid.take (h:WMid B S ls b M) {k:Int×Int} (hk:ls k≠[]) {C:CS} (hC:ChainOk C (fset ls k []) B.c.room) :
 WMid B { S with c:=C,m:=leftM { S with c:=C } k } (fset ls k []) b (fun x=>M x∨x∈ls k):=by
 have hko:=h.keyOk hk
 have hm:leftM { S with c:=C } k=occDrop S.m k:=by
  unfold leftM;rw[if_pos];show (hd0 (C.head k)).n=0;rw[hC.head k,if_pos (fset_same _ _ _)];rfl
 have hsub:∀k' a,a∈fset ls k [] k'→a∈ls k'∧k'≠k:=fun k' a ha=>by
  by_cases e:k'=k
  ·subst e;rw[fset_same] at ha;cases ha
  ·rw[fset_ne _ _ e] at ha;exact⟨ha,e⟩
 refine⟨⟨hC,fun k' a ha=>h.ok.live k' a (hsub k' a ha).1,fun i=>?_,h.ok.room⟩,fun k' a ha=>h.pl k' a (hsub k' a ha).1,fun a t ht=>?_,fun a ha=>?_,fun l s hl hs=>?_⟩
 ·show leftM { S with c:=C } k i<_
  rw[hm];exact occDrop_lt h.ok.m k i
 ·rcases h.all a t ht with h1|h1
  ·exact .inl (.inl h1)
  ·by_cases e:placeOf b t.d=k
   ·rw[e] at h1;exact .inl (.inr h1)
   ·exact .inr (by rw[fset_ne _ _ e];exact h1)
 ·rcases ha with ha|ha
  ·obtain⟨h1,h2⟩:=h.out a ha
   exact⟨fun k' hk'=>h1 k' (hsub k' a hk').1,h2⟩
  ·exact⟨fun k' hk'=>(hsub k' a hk').2 (h.ok.ch.disj k' k a (hsub k' a hk').1 ha),h.ok.ch.lt k a ha,h.ok.live k a ha⟩
 ·show (leftM { S with c:=C } k l).testBit s=true↔_
  rw[hm,occDrop_bit hl hs hko,h.bits l s hl hs]
  by_cases e:((l:Int),(s:Int))=k
  ·rw[e,fset_same]
   simp
  ·rw[fset_ne _ _ e]
   exact⟨And.left,fun h=>⟨h,fun e'=>e e'.symm⟩⟩
theorem WMid.push (h:WMid B S ls b M) (hb:S.base=b) {a:Nat} (ha:M a) {t:Tm} (ht:S.p.ent a=some t) :
 PushOk S.c B.c.room (placeOf S.base t.d) a∧WMid B { S with c:=S.c.push (placeOf S.base t.d) a,m:=occSet S.m (placeOf S.base t.d) } (fset ls (placeOf b t.d) (ls (placeOf b t.d)++[a])) b (fun x=>M x∧x≠a):=by
 obtain⟨hout,hac,t',hL,hd⟩:=h.out a ha;have hroom:=h.ok.room;have e1:=hL.ent;rw[ht] at e1;cases e1;rw[hb];have hpl:=pl_of b t.d
 have hmem:∀k' x,x∈fset ls (placeOf b t.d) (ls (placeOf b t.d)++[a]) k'→x∈ls k'∨(x=a∧k'=placeOf b t.d):=fun k' x hx=>by
  by_cases e:k'=placeOf b t.d
  ·subst e
   rw[fset_same,List.mem_append,List.mem_singleton] at hx;exact hx.imp id fun e=>⟨e,rfl⟩
  ·rw[fset_ne _ _ e] at hx
   exact .inl hx
 refine⟨h.ok.ch.pushOk (by omega) hac hout,⟨h.ok.ch.push hac hout,fun k' x hx=>?_,fun i=>occSet_lt h.ok.m hpl.key i,h.ok.room⟩,fun k' x hx=>?_,fun x u hu=>?_,fun x hx=>?_,fun l s hl hs=>?_⟩
 ·rcases hmem k' x hx with hx|⟨rfl,rfl⟩
  ·exact h.ok.live k' x hx
  ·exact⟨t,hL,hd⟩
 ·rcases hmem k' x hx with hx|⟨rfl,rfl⟩
  ·exact h.pl k' x hx
  ·exact⟨t,ht,hpl⟩
 ·by_cases e:x=a
  ·subst e
   rw[show S.p.ent x=some u from hu] at ht;cases ht;exact .inr (by rw[fset_same];simp)
  ·rcases h.all x u hu with h1|h1
   ·exact .inl ⟨h1,e⟩
   ·refine .inr ?_
    by_cases e2:placeOf b u.d=placeOf b t.d
    ·rw[e2] at h1 ⊢
     rw[fset_same];simp[h1]
    ·rw[fset_ne _ _ e2]
     exact h1
 ·obtain⟨h1,h2⟩:=h.out x hx.1
  exact⟨fun k' hk'=>(hmem k' x hk').elim (h1 k') (fun e=>hx.2 e.1),h2⟩
 ·show (occSet S.m (placeOf b t.d) l).testBit s=true↔_
  rw[occSet_bit hl hpl.key,h.bits l s hl hs]
  by_cases e:((l:Int),(s:Int))=placeOf b t.d
  ·rw[e,fset_same]
   simp
  ·rw[fset_ne _ _ e]
   exact⟨fun h=>h.elim id fun e'=>absurd e'.symm e,.inl⟩
end
end Go.Proofs.YtkndlfdpmpdihaaGreatDoor
namespace Go.Proofs.YtkndlfdpmpdihaaGreatDoor
open Go.RowKit
set_option linter.unusedVariables false
set_option linter.unusedSimpArgs false
def MarkT (B:Nat) (W W':World):Prop:=∃l,W.grownBy W' (some l)∧B≤l∧∃o:Obj,W.heap[l]?=some o∧o.isCells=false
def HandsOut {α:Type} (F:Fence) (n:Nat) (P:Program) (gf:Nat) (lb:Array Value) (encs:α→Array Value) (L:List α) (B:Nat) (I:Nat→World→Prop):Prop:=
 ∀(l:Nat) (J:Nat→World→Prop) (W1:World),B≤W1.heap.size→(∀j W,J j W→I j W∧W1.heap.size≤W.heap.size)→(∀j A A',J j A→A.grownBy A' none→J j A') →
  (∀j x W,J j W→L[j]?=some x→YieldAt F (n-1) P l (encs x) W fun e W'=>e=.returned (.bool true)∧J (j+1) W')→J 0 W1 →
  CallsIn F n P gf (#[.func (.yield l) #[] #[]]++lb) W1 fun e W'=>(∃v,e=.returned v)∧J L.length W'
theorem wpIn_range_list {F:Fence} {n:Nat} {P:Program} {α:Type} {g:Operand} {ps:Array Tmp} {assign body:Code} {Q:Exit→Act→World→Prop} {a:Act} {w:World}
 (hro:F.round=none) (h1:1≤n) {gf:Nat} {lb:Array Value} (hg:a.eval g=.func (.func gf) #[] lb) (hFg:F.fn gf) (eg:∀args w,(callFunc gf args).run P w=.ok (.enter gf args) w)
 {encs:α→Array Value} (hps:∀x,(encs x).size=ps.size) (L:List α) (I:Nat→World→Prop) (hI:∀j,OwnFrom w.heap.size (fun(_:Unit)=>I j)) (h0:I 0 w)
 (hseq:HandsOut F (n-1) P gf lb encs L w.heap.size I)
 (hround:∀(l j:Nat) (x:α) (W:World),L[j]?=some x→I j W→assign.wpIn (F.inRound l) (n-1-1) P
  (Exit.then (fun a1 w1=>KeepsFrom w.heap.size W w1∧∀w2,MarkT w.heap.size w1 w2→body.wpIn (F.inRound l) (n-1-1) P (fun ex a3 w3=>ex=.normal∧KeepsFrom w.heap.size w2 w3∧I (j+1) w3) a1 w2) (fun _ _ _=>False))
  { tmps:=(ps.zip (encs x)).foldl (fun t (p,v)=>t.setIfInBounds p v) a.tmps,defers:=[] } W)
 (hdone:∀(D:Nat) (W:World),w.heap.size≤D→I L.length W→W.heap[D]?=some (.deferred (some []))→Q .normal { a with defers:={ target:=.collected D,args:=#[] }::a.defers } W) :
 (Code.rangeFunc g ps assign body).wpIn F n P Q a w:=by
 refine wpIn_rangeFunc fun fn hfn=>?_;rw[hro]
 let rec_:LoopState→Loop:=fun st=>{ state:=st,pending:=none,fn,tmps:=a.tmps,params:=ps,assign,body,defers:=w.heap.size }
 obtain⟨W1,hW1⟩:∃W1,(w.alloc (.deferred (some []))).alloc (.loop (rec_ .ready))=W1:=⟨_,rfl⟩
 have hs1:W1.heap.size=w.heap.size+2:=by rw[←hW1];simp
 have hL1:W1.heap[w.heap.size+1]?=some (.loop (rec_ .ready)):=by
  rw[←hW1];have:=World.alloc_heap_new (w.alloc (.deferred (some []))) (.loop (rec_ .ready))
  rwa [World.size_alloc] at this
 have hD1:W1.heap[w.heap.size]?=some (.deferred (some [])):=by
  rw[←hW1];exact(Below.heap_alloc _ _ _ (by simp)).trans (World.alloc_heap_new w _)
 have hI1:I 0 W1:=by rw[←hW1];exact(hI 0).alloc (s:=()) _ ((hI 0).alloc (s:=()) _ h0)
 refine⟨w.heap.size+1,[{ target:=.collected w.heap.size,args:=#[] }],W1,{ target:=.fn (.func gf) lb,args:=#[.func (.yield (w.heap.size+1)) #[] #[]] },W1,gf,#[.func (.yield (w.heap.size+1)) #[] #[]]++lb,W1,
  by rw[←hW1];exact run_enterLoop_outer _ _ _ _ _,by simp only[resolve,hg];simp[go_sem],fun f' hf'=>by simp[Target.leads] at hf';subst hf';exact hFg,by simp[invoke,go_sem,eg],fun _=>h1,?_⟩
 let K:Nat→World→Prop:=fun j W=>(I j W∧W1.heap.size≤W.heap.size)∧W.heap[w.heap.size+1]?=some (.loop (rec_ .ready))∧W.heap[w.heap.size]?=some (.deferred (some []))
 have hput:∀ {j:Nat} {W:World} {l:Nat} {o:Obj} (o':Obj),I j W→w.heap.size≤l→W.heap[l]?=some o→o.isCells=false→I j (W.putObj l o'):=fun o' hi hl ho hc=>(hI _).putObj (s:=()) o' hi hl ho hc;refine(hseq (w.heap.size+1) K W1 (by omega) (fun j W h=>h.1) (fun j A A' h hgr=>?_) ?_ ⟨⟨hI1,Nat.le_refl _⟩,hL1,hD1⟩).mono ?_
 ·obtain⟨⟨hi,hsz⟩,hl,hd⟩:=h
  exact⟨⟨hI j () A A' none hi hgr (fun r e=>by cases e),Nat.le_trans hsz hgr.size⟩,(hgr.block _ (Array.getElem?_eq_some_iff.1 hl).1 (fun e=>by cases e)).trans hl,(hgr.block _ (Array.getElem?_eq_some_iff.1 hd).1 (fun e=>by cases e)).trans hd⟩
 ·rintro j x W ⟨⟨hi,hsz⟩,hl,hd⟩ hx
  have hlt:w.heap.size+1<W.heap.size:=(Array.getElem?_eq_some_iff.1 hl).1;refine⟨fn,_,assign,body,run_yield (args:=encs x) hl (hps x),roundIn_of_wpIn hfn (wpIn_mono (hround (w.heap.size+1) j x W hx hi) ?_)⟩;rintro ex a1 w1 h
  cases ex with
  |normal=>
    obtain⟨hk1,hb⟩:=h;have hl1:=hk1.same _ _ (by omega) hl rfl;have hd1:=hk1.same _ _ (Nat.le_refl _) hd rfl;have hlt1:w.heap.size+1<w1.heap.size:=(Array.getElem?_eq_some_iff.1 hl1).1;refine⟨_,run_beginRound hl1 rfl,?_⟩;have hl2:(w1.putObj (w.heap.size+1) (.loop (rec_ .busy))).heap[w.heap.size+1]?=some (.loop (rec_ .busy)):=World.putObj_heap_same hlt1;have hd2:(w1.putObj (w.heap.size+1) (.loop (rec_ .busy))).heap[w.heap.size]?=some (.deferred (some [])):=(World.putObj_heap_other (by omega)).trans hd1
    have hs2:(w1.putObj (w.heap.size+1) (.loop (rec_ .busy))).heap.size=w1.heap.size:=by simp
    refine wpIn_mono (hb _ ⟨_,grownBy_putObj' w1 _ _,by omega,_,hl1,rfl⟩) ?_;rintro ex a3 w3 ⟨rfl,hk3,hi3⟩;have hl3:=hk3.same _ _ (by omega) hl2 rfl;have hd3:=hk3.same _ _ (Nat.le_refl _) hd2 rfl;refine⟨_,_,run_endRound none hl3,rfl,⟨hput _ hi3 (by omega) hl3 rfl,?_⟩,World.putObj_heap_same (Array.getElem?_eq_some_iff.1 hl3).1,(World.putObj_heap_other (by omega)).trans hd3⟩;have e1:=hk1.size
    have e3:w1.heap.size≤w3.heap.size:=by
     have:=hk3.size;simpa using this
    have e4:W1.heap.size≤w3.heap.size:=Nat.le_trans hsz (Nat.le_trans e1 e3);simpa using e4
  |_=>exact h.elim
 ·rintro e W2 ⟨⟨v,rfl⟩,⟨hi,_⟩,hl,hd⟩
  exact⟨none,_,run_endLoop hl (by simp[rec_]),hdone _ _ (Nat.le_refl _) (hput _ hi (by omega) hl rfl) ((World.putObj_heap_other (by omega)).trans hd)⟩
end Go.Proofs.YtkndlfdpmpdihaaGreatDoor
namespace Go.Proofs.YtkndlfdpmpdihaaGreatDoor
open Go.RowKit Go.Ev Go.Mv
set_option linter.unusedVariables false
set_option linter.unusedSimpArgs false
set_option maxRecDepth 100000
attribute [local go_sem] Oper.semAt_some
def TakeI (B:CB) (ls:Int×Int→List Nat) (k:Int×Int) (x1 x2:Nat) (j:Nat) (W:World):Prop:=
 ∃C,ChainAt B C W∧ChainOk C (fset ls k ((ls k).drop j)) B.room∧Blk W x1 #[.pointer (some ⟨B.b,0,none⟩)] 211∧Blk W x2 #[.int .i64 k.1,.int .i64 k.2] 219
set_option maxHeartbeats 4000000 in
theorem chain_hands (n:Nat) (hn:1≤n) {B:CB} {ls:Int×Int→List Nat} {k:Int×Int} {x1 x2 B0:Nat} {I:Nat→World→Prop} (hI:∀j W,I j W→TakeI B ls k x1 x2 j W) :
 HandsOut Fence.wide n Tryz.prog 244 #[.pointer (some ⟨x1,0,none⟩),.pointer (some ⟨x2,0,none⟩)] (fun a:Nat=>#[.int .i64 (a:Int)]) (ls k) B0 I:=by
 obtain⟨kl,ks⟩:=k;intro l J W1 hB0 hJI hJ hY h0;obtain⟨L,hL⟩:∃L,L=ls (kl,ks):=⟨_,rfl⟩
 have hst:∀j W,J j W→∃C,ChainAt B C W∧ChainOk C (fset ls (kl,ks) (L.drop j)) B.room∧Blk W x1 #[.pointer (some ⟨B.b,0,none⟩)] 211∧Blk W x2 #[.int .i64 kl,.int .i64 ks] 219:=fun j W h=>by
  rw[hL];exact hI j W (hJI j W h).1
 rw[←hL] at hY ⊢;clear hI hJI hL;refine callsIn_of_wp Tryz.func244 rfl trivial ?_ rfl;simp only[Tryz.ntmps244,List.size_toArray,List.length_cons,List.length_nil,Nat.reduceAdd,Nat.reduceSub,Array.replicate_succ,Array.replicate_zero,List.push_toArray,List.append_toArray,List.nil_append,List.cons_append];obtain⟨C,hC,hO,z1,z2⟩:=hst 0 W1 h0;have c1:W1.cell? ⟨x1,0,none⟩=some (.pointer (some ⟨B.b,0,none⟩)):=z1.cell 0 rfl;have c2:W1.cell? ⟨x2,0,none⟩=some (.int .i64 kl):=z2.cell 0 rfl;have c3:W1.cell? ⟨x2,1,none⟩=some (.int .i64 ks):=z2.cell 1 rfl;have hf:=firstOf_list hO (kl,ks);rw[fset_same,List.drop_zero] at hf;have hfo:=first_of hC kl ks;rw[hf] at hfo
 gi_wp2_with (refine⟨trivial,?_⟩;gi_at_call 245;refine(callsIn_wide.2 hfo).mono ?_;rintro e w1 ⟨rfl,hb1⟩)
 have hJ1:=hJ _ _ _ h0 (grown_of hb1 none);clear c1 c2 c3 hf hfo hC hO z1 z2 h0
 gi_loopg [4,5] L.length (fun g i nx wr=>∃j:Nat,j≤L.length∧g=L.length-j∧i=.int .i64 (fstI (L.drop j))∧J j wr)
 case atStart=>exact⟨0,by omega,rfl,by rw[List.drop_zero],hJ1⟩
 case round=>
  obtain⟨j,hj,hg,rfl,hJs⟩:=hrel
  by_cases hlt:j<L.length
  ·obtain⟨C,hC,hO,z1,z2⟩:=hst j wr hJs
   have c1:wr.cell? ⟨x1,0,none⟩=some (.pointer (some ⟨B.b,0,none⟩)):=z1.cell 0 rfl;have hd:L.drop j=L[j]::L.drop (j+1):=(List.getElem_cons_drop hlt).symm;rw[hd] at hO ⊢;obtain⟨a,ha⟩:∃a,a=L[j]:=⟨_,rfl⟩
   have hxj:L[j]?=some a:=by rw[List.getElem?_eq_getElem hlt,ha]
   rw[←ha] at hO ⊢;have hat:=hO.at_ (k:=(kl,ks)) (i:=a) (l:=L.drop (j+1)) (fset_same _ _ _);have har:=hO.lt (kl,ks) a (by rw[fset_same];simp);have hnx:=next_at hC har (by rw[hat]);rw[hat] at hnx
   have hne:((a:Int) != -1)=true:=by simp
   have hfa:fstI (a::L.drop (j+1))=(a:Int):=rfl;rw[hfa];clear hfa ha hd hat
   gi_wp2_with (refine⟨trivial,?_⟩;gi_at_call 246;refine(callsIn_wide.2 hnx).mono ?_;rintro e w2 ⟨rfl,hb2⟩)
   have hJ2:=hJ _ _ _ hJs (grown_of hb2 none);obtain⟨fn,tmps,assign,body,hy,hR⟩:=hY j a _ hJ2 hxj
   gi_wp2
   rw[hy]
   gi_wp2
   refine hR.mono ?_;rintro e W3 ⟨rfl,hJ3⟩
   gi_wp2
   gi_roundg (L.length-(j+1))
   case measure=>omega
   case rel=>exact⟨j+1,by omega,rfl,rfl,hJ3⟩
  ·obtain rfl:j=L.length:=by omega
   rw[List.drop_length];have hfn:fstI []=(-1:Int):=rfl;rw[hfn]
   gi_wp2
   go_end0
   exact⟨⟨_,rfl⟩,hJs⟩
end Go.Proofs.YtkndlfdpmpdihaaGreatDoor
namespace Go.Proofs.YtkndlfdpmpdihaaGreatDoor
open Go.RowKit Go.Ev Go.Mv
set_option linter.unusedVariables false
set_option linter.unusedSimpArgs false
set_option maxRecDepth 100000
attribute [local go_sem] Oper.semAt_some
theorem info3:(Tryz.prog.info? 3).map (fun i=>(i.zero,i.size,i.bytes))=some (some (.int .i64 0),1,8):=by kernel_rfl
theorem under221:Tryz.prog.underlying 221=some (.slice 3):=by kernel_rfl
theorem each176 (b:Nat) (l s:Int) (w:World):Calls Tryz.prog 176 #[.pointer (some ⟨b,0,none⟩),.agg #[.int .i64 l,.int .i64 s]] w fun e w'=>e=.returned (.func (.func 244) #[] #[.pointer (some ⟨w.heap.size,0,none⟩),.pointer (some ⟨w.heap.size+1,0,none⟩)]) ∧
 w'=(w.alloc (.cells #[.pointer (some ⟨b,0,none⟩)] 211)).alloc (.cells #[.int .i64 l,.int .i64 s] 219):=by
 go_enter Tryz.func176,Tryz.ntmps176;go_wp2;refine bodyPost_ret (v:=.func (.func 244) #[] #[.pointer (some ⟨w.heap.size,0,none⟩),.pointer (some ⟨w.heap.size+1,0,none⟩)]) ?_ rfl ⟨rfl,rfl⟩;simp[results,Tryz.results176,go_sem]
theorem ownsRow_apart {W:World} {base:Nat} {e:TypeId} {size:Nat} {v:Value} {k:Nat} {xs:List Value} (h:W.ownsRow base e size v k xs) {j:Nat} (hj:j<base∨∃o:Obj,W.heap[j]?=some o∧o.isCells=false):v.ownBlock=none∨v.ownBlock≠some j:=by
 rcases h.2 with⟨rfl,_⟩|⟨g,cap,cur,rfl,hb,hgb,_⟩
 ·exact .inl rfl
 ·refine .inr fun e'=>?_
  have:g=j:=by simpa[Value.ownBlock] using e'
  subst this;rcases hj with hj|⟨o,ho,hc⟩
  ·omega
  ·rw[hgb] at ho
   cases ho;cases hc
theorem rows_tch {X:Nat→Prop} {w w':World} {base:Nat} {e:TypeId} {size n:Nat} {v:Value} {xs:List Value} (h:w.ownsRow base e size v n xs) (ht:Tch X w w') (hx:∀k,X k→k<base):w'.ownsRow base e size v n xs:=by
 refine⟨h.1,?_⟩;rcases h.2 with h1|⟨g,cap,cur,h1,h2,h3,h4⟩
 ·exact .inl h1
 ·exact .inr ⟨g,cap,cur,h1,h2,(ht.block _ (Array.getElem?_eq_some_iff.1 h3).1 (fun e=>by have:=hx g e;omega)).trans h3,h4⟩
theorem rows_cells {w:World} {base:Nat} {e:TypeId} {size n:Nat} {v:Value} {xs:List Value} (h:w.ownsRow base e size v n xs):∀(j:Nat) (o:Obj),v.ownBlock=some j→w.heap[j]?=some o→o.isCells=true:=by
 intro j o hj ho;rcases h.2 with⟨rfl,_⟩|⟨g,cap,cur,rfl,_,hgb,_⟩
 ·simp[Value.ownBlock] at hj
 ·have:g=j:=by simpa[Value.ownBlock] using hj
  subst this;rw[hgb] at ho;cases ho;rfl
theorem rows_base {w:World} {base base':Nat} {e:TypeId} {size n:Nat} {v:Value} {xs:List Value} (h:w.ownsRow base e size v n xs) (hb:base'≤base):w.ownsRow base' e size v n xs:=by
 refine⟨h.1,?_⟩;rcases h.2 with h1|⟨g,cap,cur,h1,h2,h3⟩
 ·exact .inl h1
 ·exact .inr ⟨g,cap,cur,h1,Nat.le_trans hb h2,h3⟩
def TakeS (B:CB) (ls:Int×Int→List Nat) (k:Int×Int) (w:World) (n0:Nat) (v:Value) (j:Nat) (W:World):Prop:=
 TakeI B ls k (n0+3) (n0+4) j W∧Blk W n0 #[.pointer (some ⟨B.b,0,none⟩)] 211∧Blk W (n0+2) #[v] 221∧W.ownsRow (n0+5) 3 1 v j (((ls k).take j).map fun a:Nat=>.int .i64 (a:Int))∧Tch (fun r=>B.own r∨n0≤r) w W∧n0+5≤W.heap.size
theorem TakeI.kept {B:CB} {ls:Int×Int→List Nat} {k:Int×Int} {x1 x2 j n:Nat} {W W':World} {row:Option Nat} (h:TakeI B ls k x1 x2 j W) (hg:W.grownBy W' row) (hB:B.b<n∧B.hb<n∧B.lb<n) (hr:∀r,row=some r→n≤r∧((∃o:Obj,W.heap[r]?=some o∧o.isCells=false)∨(r≠x1∧r≠x2))):TakeI B ls k x1 x2 j W':=by
 obtain⟨C,hC,hO,z1,z2⟩:=h
 have hne:∀ {x:Nat} {vs:Array Value} {T:TypeId},Blk W x vs T→(∀r,row=some r→(∃o:Obj,W.heap[r]?=some o∧o.isCells=false)∨r≠x)→Blk W' x vs T:=fun{x vs T} hx hn=>(hg.block x hx.lt (fun e=>by
  rcases hn x e.symm with⟨o,ho,hc⟩|h
  ·unfold Blk at hx
   rw[hx] at ho;cases ho;cases hc
  ·exact h rfl)).trans hx
 refine⟨C,hC.keep fun r hr'=>?_,hO,hne z1 (fun r e=>(hr r e).2.imp id And.left),hne z2 (fun r e=>(hr r e).2.imp id And.right)⟩;have hl:=hC.lt
 refine hg.block r (by rcases hr' with rfl|rfl|rfl<;>omega) (fun e=>?_)
 have:=(hr r e.symm).1
 rcases hr' with rfl|rfl|rfl<;>omega
theorem tch_grown {X:Nat→Prop} {W W':World} {row:Option Nat} (hg:W.grownBy W' row) (hr:∀r,row=some r→X r):Tch X W W':=⟨hg.os,hg.tape,hg.output,hg.size,fun k hk hn=>hg.block k hk (fun e=>hn (hr k e.symm))⟩
theorem takeS_own {B:CB} {ls:Int×Int→List Nat} {k:Int×Int} {w:World} {n0:Nat} (hB:B.b<n0∧B.hb<n0∧B.lb<n0) (j:Nat):OwnFrom (n0+5) (fun(_:Unit) W=>∃v,TakeS B ls k w n0 v j W):=by
 rintro _ W W' row ⟨v,h1,h2,h3,h4,h5,h6⟩ hg hr;refine⟨v,h1.kept hg hB (fun r e=>⟨by have:=(hr r e).1;omega,.inl (hr r e).2⟩),h2.kept hg (fun r e=>(hr r e).2),h3.kept hg (fun r e=>(hr r e).2),h4.kept hg ?_,h5.trans (tch_grown hg fun r e=>.inr (by have:=(hr r e).1;omega)),Nat.le_trans h6 hg.size⟩
 cases row with
 |none=>cases h:v.ownBlock with
   |none=>exact .inl rfl
   |some x=>exact .inr (fun e=>by cases e)
 |some r=>exact ownsRow_apart h4 (.inr (hr r rfl).2)
set_option maxHeartbeats 4000000 in
theorem take_in (n:Nat) (hn:3≤n) {B:CB} {C:CS} {ls:Int×Int→List Nat} {w:World} (l s:Int) (hrm:B.room≤64) (hC:ChainAt B C w) (hO:ChainOk C ls B.room) :
 CallsIn Fence.wide n Tryz.prog 109 #[.pointer (some ⟨B.b,0,none⟩),.agg #[.int .i64 l,.int .i64 s]] w fun e w'=>∃v,e=.returned v∧w'.ownsRow w.heap.size 3 1 v (ls (l,s)).length ((ls (l,s)).map fun a:Nat=>.int .i64 (a:Int))∧Tch (fun r=>B.own r∨w.heap.size≤r) w w'∧∃C',ChainAt B C' w'∧ChainOk C' (fset ls (l,s) []) B.room:=by
 have h1:1≤n:=by omega
 have hlt:=hC.lt;refine callsIn_of_wp_marks Tryz.func109 rfl trivial ?_ rfl;simp only[Tryz.ntmps109,List.size_toArray,List.length_cons,List.length_nil,Nat.reduceAdd,Nat.reduceSub,Array.replicate_succ,Array.replicate_zero,List.push_toArray,List.append_toArray,List.nil_append,List.cons_append]
 gi_wp2_with (refine⟨trivial,?_⟩;gi_at_call 176;refine(callsIn_wide.2 (each176 B.b l s _)).mono ?_;rintro e w1 ⟨rfl,rfl⟩)
 have hB5:Below w.heap.size w (((((w.alloc (.cells #[.pointer (some ⟨B.b,0,none⟩)] 211)).alloc (.cells #[.int .i64 l,.int .i64 s] 219)).alloc (.cells #[.slice none 0 0] 221)).alloc (.cells #[.pointer (some ⟨B.b,0,none⟩)] 211)).alloc (.cells #[.int .i64 l,.int .i64 s] 219)):=(((((Below.refl _ w).alloc (Nat.le_refl _) _).alloc (by simp) _).alloc (by simp;omega) _).alloc (by simp;omega) _).alloc (by simp;omega) _
 have hs5:(((((w.alloc (.cells #[.pointer (some ⟨B.b,0,none⟩)] 211)).alloc (.cells #[.int .i64 l,.int .i64 s] 219)).alloc (.cells #[.slice none 0 0] 221)).alloc (.cells #[.pointer (some ⟨B.b,0,none⟩)] 211)).alloc (.cells #[.int .i64 l,.int .i64 s] 219)).heap.size=w.heap.size+5:=by simp
 have z0:Blk (((((w.alloc (.cells #[.pointer (some ⟨B.b,0,none⟩)] 211)).alloc (.cells #[.int .i64 l,.int .i64 s] 219)).alloc (.cells #[.slice none 0 0] 221)).alloc (.cells #[.pointer (some ⟨B.b,0,none⟩)] 211)).alloc (.cells #[.int .i64 l,.int .i64 s] 219)) (w.heap.size+0) #[.pointer (some ⟨B.b,0,none⟩)] 211:=by
  have:=(((((Blk.new w #[.pointer (some ⟨B.b,0,none⟩)] 211).alloc (.cells #[.int .i64 l,.int .i64 s] 219)).alloc (.cells #[.slice none 0 0] 221)).alloc (.cells #[.pointer (some ⟨B.b,0,none⟩)] 211)).alloc (.cells #[.int .i64 l,.int .i64 s] 219));simpa using this
 have z2:Blk (((((w.alloc (.cells #[.pointer (some ⟨B.b,0,none⟩)] 211)).alloc (.cells #[.int .i64 l,.int .i64 s] 219)).alloc (.cells #[.slice none 0 0] 221)).alloc (.cells #[.pointer (some ⟨B.b,0,none⟩)] 211)).alloc (.cells #[.int .i64 l,.int .i64 s] 219)) (w.heap.size+2) #[.slice none 0 0] 221:=by
  have:=(((Blk.new ((w.alloc (.cells #[.pointer (some ⟨B.b,0,none⟩)] 211)).alloc (.cells #[.int .i64 l,.int .i64 s] 219)) #[.slice none 0 0] 221).alloc (.cells #[.pointer (some ⟨B.b,0,none⟩)] 211)).alloc (.cells #[.int .i64 l,.int .i64 s] 219));simpa using this
 have z3:Blk (((((w.alloc (.cells #[.pointer (some ⟨B.b,0,none⟩)] 211)).alloc (.cells #[.int .i64 l,.int .i64 s] 219)).alloc (.cells #[.slice none 0 0] 221)).alloc (.cells #[.pointer (some ⟨B.b,0,none⟩)] 211)).alloc (.cells #[.int .i64 l,.int .i64 s] 219)) (w.heap.size+3) #[.pointer (some ⟨B.b,0,none⟩)] 211:=by
  have:=((Blk.new (((w.alloc (.cells #[.pointer (some ⟨B.b,0,none⟩)] 211)).alloc (.cells #[.int .i64 l,.int .i64 s] 219)).alloc (.cells #[.slice none 0 0] 221)) #[.pointer (some ⟨B.b,0,none⟩)] 211).alloc (.cells #[.int .i64 l,.int .i64 s] 219));simpa using this
 have z4:Blk (((((w.alloc (.cells #[.pointer (some ⟨B.b,0,none⟩)] 211)).alloc (.cells #[.int .i64 l,.int .i64 s] 219)).alloc (.cells #[.slice none 0 0] 221)).alloc (.cells #[.pointer (some ⟨B.b,0,none⟩)] 211)).alloc (.cells #[.int .i64 l,.int .i64 s] 219)) (w.heap.size+4) #[.int .i64 l,.int .i64 s] 219:=by
  have:=(Blk.new ((((w.alloc (.cells #[.pointer (some ⟨B.b,0,none⟩)] 211)).alloc (.cells #[.int .i64 l,.int .i64 s] 219)).alloc (.cells #[.slice none 0 0] 221)).alloc (.cells #[.pointer (some ⟨B.b,0,none⟩)] 211)) #[.int .i64 l,.int .i64 s] 219);simpa using this
 simp only[Nat.add_assoc,Nat.reduceAdd];generalize (((((w.alloc (.cells #[.pointer (some ⟨B.b,0,none⟩)] 211)).alloc (.cells #[.int .i64 l,.int .i64 s] 219)).alloc (.cells #[.slice none 0 0] 221)).alloc (.cells #[.pointer (some ⟨B.b,0,none⟩)] 211)).alloc (.cells #[.int .i64 l,.int .i64 s] 219))=W0 at *;obtain⟨n0,hn0⟩:∃n0,n0=w.heap.size:=⟨_,rfl⟩;rw[←hn0] at z0 z2 z3 z4 hs5 hB5 hlt ⊢;rw[Nat.add_zero] at z0;have HN:=Lib.hid hn0;clear hn0;have hC0:ChainAt B C W0:=hC.below hB5 hlt
 have hfs:fset ls (l,s) (ls (l,s))=ls:=by
  funext x
  by_cases e:x=(l,s)
  ·rw[e,fset_same]
  ·rw[fset_ne _ _ e]
 obtain⟨i0,hi,hz0,hz1,hz2⟩:=info_parts info3;have hroom:(ls (l,s)).length≤B.room:=hO.le (l,s)
 refine wpIn_range_list (encs:=fun a:Nat=>#[.int .i64 (a:Int)]) rfl h1 (gf:=244) (lb:=#[.pointer (some ⟨n0+3,0,none⟩),.pointer (some ⟨n0+4,0,none⟩)]) rfl trivial (enters_of Tryz.func244 (by kernel_rfl) rfl) (fun _=>rfl) (ls (l,s))
  (fun j W=>∃v,TakeS B ls (l,s) w n0 v j W) (by rw[hs5];exact fun j=>takeS_own hlt j) ?init (chain_hands (n-1) (by omega) (fun j W h=>h.choose_spec.1)) ?round ?done
 case init=>
  refine⟨_,⟨C,hC0,by rw[List.drop_zero,hfs];exact hO,z3,z4⟩,z0,z2,⟨rfl,.inl ⟨rfl,rfl⟩⟩,⟨hB5.os,hB5.tape,hB5.output,hB5.size,fun k hk hn=>hB5.block k (by omega)⟩,by omega⟩
 case round=>
  rintro lp j x W hx ⟨v,⟨C1,hC1,hO1,y3,y4⟩,y0,y2,hrow,ht,hsz⟩;have hlj:j<(ls (l,s)).length:=(List.getElem?_eq_some_iff.1 hx).1
  have hdj:(ls (l,s)).drop j=x::(ls (l,s)).drop (j+1):=by
   rw[←List.getElem_cons_drop hlj];congr 1;exact(List.getElem?_eq_some_iff.1 hx).2
  have htj:(ls (l,s)).take (j+1)=(ls (l,s)).take j++[x]:=by
   rw[List.take_add_one,hx];rfl
  have HX:=Lib.hid hdj;have HT:=Lib.hid htj;clear hdj htj hx
  gi_wp2
  refine⟨KeepsFrom.refl _ _,fun w2 hm=>?_⟩;obtain⟨lm,hg,hlm,hom⟩:=hm;obtain⟨v,⟨C1,hC1,hO1,y3,y4⟩,y0,y2,hrow,ht,hsz⟩:=takeS_own (B:=B) (ls:=ls) (k:=(l,s)) (w:=w) hlt j () W w2 (some lm) ⟨v,⟨C1,hC1,hO1,y3,y4⟩,y0,y2,hrow,ht,hsz⟩ hg (fun r e=>by cases e;exact⟨by omega,hom⟩)
  have hk1:fset ls (l,s) ((ls (l,s)).drop j) (l,s)=x::(ls (l,s)).drop (j+1):=by rw[fset_same];exact HX.out
  have hroom32:B.room<4294967296:=by omega
  have hpop:=pop_any hC1 (hO1.popOk hroom32 hk1);have hO2:=hO1.pop hk1;rw[fset_fset] at hO2;clear hk1 hO1 hg hom;have q0:w2.cell? ⟨n0,0,none⟩=some (.pointer (some ⟨B.b,0,none⟩)):=y0.cell 0 rfl
  gi_wp2_with (refine⟨trivial,?_⟩;gi_at_call 133;fail)
  refine⟨trivial,⟨fun h=>absurd h (by decide),?_⟩⟩;refine(show CallsIn (Fence.wide.inRound lp) _ _ _ _ _ _ from callsIn_wide.2 hpop).mono ?_;rintro e w3 ⟨rfl,ht3,hC3⟩
  have hown:∀r,B.own r→r<n0:=by rintro r (e|e)<;>omega
  have hs3:=ht3.size;have y0':Blk w3 n0 #[.pointer (some ⟨B.b,0,none⟩)] 211:=(ht3.block _ y0.lt (fun e=>by have:=hown _ e;omega)).trans y0;have y2':Blk w3 (n0+2) #[v] 221:=(ht3.block _ y2.lt (fun e=>by have:=hown _ e;omega)).trans y2;have y3':Blk w3 (n0+3) #[.pointer (some ⟨B.b,0,none⟩)] 211:=(ht3.block _ y3.lt (fun e=>by have:=hown _ e;omega)).trans y3;have y4':Blk w3 (n0+4) #[.int .i64 l,.int .i64 s] 219:=(ht3.block _ y4.lt (fun e=>by have:=hown _ e;omega)).trans y4;have hrow3:=rows_tch hrow ht3 (fun k e=>by have:=hown k e;omega);have hK3:KeepsFrom (n0+5) w2 w3:=⟨hs3,fun k o hk ho _=>(ht3.block k (Array.getElem?_eq_some_iff.1 ho).1 (fun e=>by have:=hown k e;omega)).trans ho⟩;have hT3:Tch (fun r=>B.own r∨n0≤r) w w3:=ht.trans (ht3.mono fun r e=>.inl e);have q2:w3.cell? ⟨n0+2,0,none⟩=some v:=y2'.cell 0 rfl
  have hlen:j<64:=by omega
  clear y0 y2 y3 y4 hrow ht ht3 hpop hC1 q0 HX;have HR:=Lib.hid hrow3
  gi_wp2_with (gi_at_builtin;refine wpListIn_append_own _ rfl (.tmp 14) (.tmp 16) 221 rfl (n0+5) 3 i0 (.int .i64 0) 1 8 under221 hi hz0 hz1 hz2 rfl (by decide) _ _ _ rfl (HR.out.alloc _) ⟨w3.heap.size,0,none⟩ 1 1 [.int .i64 (x:Int)] rfl rfl (cell_one_new _ _ _) (by simp[Value.oneCell']) (by unfold maxLen;omega) (by omega) (by simp;omega) ?_)
  intro v1 w4 hown1 hg1 _
  obtain⟨g1,cap1,rfl⟩:∃g cap,v1=.slice (some ⟨g,0,none⟩) (j+1) cap:=by
   rcases hown1.2 with⟨_,h0⟩|⟨g,cap,cur,e,_⟩
   ·exact absurd h0 (by omega)
   ·exact⟨g,cap,e⟩
  have hrl:=(HR.out.alloc (Obj.cells #[.int .i64 (x:Int)] 3)).lt;have hge:∀r,v.ownBlock=some r→n0+5≤r:=fun r e=>(hrl r e).1;have hTa:Tch (fun r=>n0+5≤r) w3 (w3.alloc (Obj.cells #[.int .i64 (x:Int)] 3)):=Tch.of_below ((Below.refl _ w3).alloc (Nat.le_refl _) _);have hT4:Tch (fun r=>n0+5≤r) w3 w4:=hTa.trans (tch_grown hg1 hge);have hK4:KeepsFrom (n0+5) w2 w4:=(hK3.trans ((KeepsOthers.alloc w3 (Obj.cells #[.int .i64 (x:Int)] 3)).from _)).trans ((KeepsOthers.of_grownBy hg1 (rows_cells (HR.out.alloc _))).from _);have hs4:=hT4.size;have y2'':Blk w4 (n0+2) #[v] 221:=(hT4.block _ y2'.lt (by omega)).trans y2';have y0'':Blk w4 n0 #[.pointer (some ⟨B.b,0,none⟩)] 211:=(hT4.block _ y0'.lt (by omega)).trans y0';have y3'':Blk w4 (n0+3) #[.pointer (some ⟨B.b,0,none⟩)] 211:=(hT4.block _ y3'.lt (by omega)).trans y3';have y4'':Blk w4 (n0+4) #[.int .i64 l,.int .i64 s] 219:=(hT4.block _ y4'.lt (by omega)).trans y4';have hC4:ChainAt B (C1.pop x) w4:=hC3.tch hT4 (by omega) (by omega) (by omega);have q3:w4.cell? ⟨n0+2,0,none⟩=some v:=y2''.cell 0 rfl;have f3:=y2''.free 0;have hT5:=(Tch.refl (fun r=>r=n0+2) w4).setCell (a:=⟨n0+2,0,none⟩) (.slice (some ⟨g1,0,none⟩) (j+1) cap1) (.inl rfl);have y2a:=y2''.set 0 (.slice (some ⟨g1,0,none⟩) (j+1) cap1)
  have hrow5:(w4.setCell ⟨n0+2,0,none⟩ (.slice (some ⟨g1,0,none⟩) (j+1) cap1)).ownsRow (n0+5) 3 1 (.slice (some ⟨g1,0,none⟩) (j+1) cap1) (j+1) (((ls (l,s)).take (j+1)).map fun a:Nat=>.int .i64 (a:Int)):=by
   rw[HT.out,List.map_append];have h:=rows_tch hown1 hT5 (fun k e=>by omega);simpa using h
  have hK5:KeepsFrom (n0+5) w2 (w4.setCell ⟨n0+2,0,none⟩ (.slice (some ⟨g1,0,none⟩) (j+1) cap1)):=hK4.trans ((KeepsOthers.setCell _ _ _).from _);have hC5:ChainAt B (C1.pop x) (w4.setCell ⟨n0+2,0,none⟩ (.slice (some ⟨g1,0,none⟩) (j+1) cap1)):=hC4.tch hT5 (by omega) (by omega) (by omega)
  have hfin:TakeS B ls (l,s) w n0 (.slice (some ⟨g1,0,none⟩) (j+1) cap1) (j+1) (w4.setCell ⟨n0+2,0,none⟩ (.slice (some ⟨g1,0,none⟩) (j+1) cap1)):=⟨⟨_,hC5,hO2,(hT5.block _ y3''.lt (by omega)).trans y3'',(hT5.block _ y4''.lt (by omega)).trans y4''⟩,(hT5.block _ y0''.lt (by omega)).trans y0'',y2a,hrow5,
   (hT3.trans (hT4.mono fun r e=>.inr (by omega))).trans (hT5.mono fun r e=>.inr (by omega)),by have:=hT5.size;omega⟩
  clear hC4 hC3 hT4 hTa hg1 hown1 hrow3 y0' y2' y3' y4' y0'' y3'' y4'' hrl hge q2
  gi_wp2
  exact⟨_,hfin⟩
 case done=>
  rintro D W hD ⟨v,⟨C1,hC1,hO1,y3,y4⟩,y0,y2,hrow,ht,hsz⟩ hK;rw[List.drop_length] at hO1;rw[List.take_length] at hrow;have q2:W.cell? ⟨n0+2,0,none⟩=some v:=y2.cell 0 rfl
  gi_wp2
  refine⟨by simp,.inl ⟨_,_,rfl,run_takeDeferred hK,?_⟩⟩;have hg:=grownBy_putObj' W D (.deferred none);have hno:∃o:Obj,W.heap[D]?=some o∧o.isCells=false:=⟨_,hK,rfl⟩;obtain⟨C2,hC2,hO2,_,_⟩:=TakeI.kept (B:=B) (ls:=ls) (k:=(l,s)) (j:=(ls (l,s)).length) ⟨C1,hC1,by rw[List.drop_length];exact hO1,y3,y4⟩ hg hlt (fun r e=>by cases e;exact⟨by omega,.inl hno⟩);rw[List.drop_length] at hO2;refine⟨v,?_,⟨v,rfl,rows_base (hrow.kept hg (ownsRow_apart hrow (.inr hno))) (by rw[←HN.out];omega),(ht.trans (tch_grown hg fun r e=>by cases e;exact .inr (by omega))).mono (fun r e=>by rw[←HN.out];exact e),C2,hC2,hO2⟩⟩;simp[results,Tryz.f109,go_sem]
theorem take_at {B:CB} {C:CS} {ls:Int×Int→List Nat} {w:World} (l s:Int) (hrm:B.room≤64) (hC:ChainAt B C w) (hO:ChainOk C ls B.room) :
 Calls Tryz.prog 109 #[.pointer (some ⟨B.b,0,none⟩),.agg #[.int .i64 l,.int .i64 s]] w fun e w'=>∃v,e=.returned v∧w'.ownsRow w.heap.size 3 1 v (ls (l,s)).length ((ls (l,s)).map fun a:Nat=>.int .i64 (a:Int))∧Tch (fun r=>B.own r∨w.heap.size≤r) w w'∧∃C',ChainAt B C' w'∧ChainOk C' (fset ls (l,s) []) B.room:=
 callsIn_wide.1 (take_in 3 (Nat.le_refl _) l s hrm hC hO)
end Go.Proofs.YtkndlfdpmpdihaaGreatDoor
