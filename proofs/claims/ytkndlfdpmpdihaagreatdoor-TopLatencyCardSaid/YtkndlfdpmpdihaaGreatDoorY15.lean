/- Chains told by lists: plain law. What is taken: the next of a level. What is taken, thing by thing: the iterator. What is taken, thing by thing: the iterator's walk. What is taken: the lowest. What is taken: the lowest. The wheel: the next deadline. Conditions: those that each statement shows. -/
import Derived.Test.YtkndlfdpmpdihaaGreatDoorY14
import Derived.Test.YtkndlfdpmpdihaaGreatDoorY13
import Derived.Test.YtkndlfdpmpdihaaGreatDoorY11
import Derived.RangeFuncNested
import Derived.RangeFuncBound
import Derived.RangeFuncCalls
import Derived.RangeFuncLeaves
import Derived.RangeFuncBox
import Derived.Shelf.Abstract
import Derived.WalkKit
import Derived.OwnWalkIn
import Derived.TacticsInMore
import Derived.LoopNIn
import Derived.LoopIn
import Derived.Sort.LoopGhostIn
import Derived.Test.YtkndlfdpmpdihaaGreatDoorY10
namespace Go.Proofs.YtkndlfdpmpdihaaGreatDoor
open Go.RowKit Go.Ev Go.Mv
set_option linter.unusedVariables false
set_option linter.unusedSimpArgs false
set_option maxRecDepth 100000
def fstI:List Nat→Int
 | []=>-1
 |a::_=>a
def lstI:List Nat→Int
 | []=>-1
 | [a]=>a
 |_::b::l=>lstI (b::l)
theorem lstI_snoc (i:Nat):∀l:List Nat,lstI (l++[i])=i
 | []=>rfl
 | [_]=>rfl
 |_::b::l=>lstI_snoc i (b::l)
def Links (link:Nat→Lk) (k:Int×Int):Int→List Nat→Prop
 |_,[]=>True
 |p,a::l=>link a=⟨k.1,k.2,true,p,fstI l⟩∧Links link k a l
theorem Links.congr {link link':Nat→Lk} {k:Int×Int}:∀ {l:List Nat} {p:Int},Links link k p l→(∀x∈l,link' x=link x)→Links link' k p l
 | [],_,_,_=>trivial
 |a::l,p,h,hx=>⟨(hx a (by simp)).trans h.1,Links.congr h.2 fun x h=>hx x (by simp[h])⟩
theorem Links.trail {link:Nat→Lk} {k:Int×Int}:∀ {l:List Nat} {p:Int},Links link k p l→Trail link (fstI l) l
 | [],_,_=>rfl
 |a::l,p,h=>⟨rfl,by rw[h.1],by rw[h.1];exact h.2.trail⟩
theorem Links.snoc {link:Nat→Lk} {k:Int×Int} {i z:Nat}:∀ {l:List Nat} {p:Int},Links link k p (l++[z])→i∉l++[z]→(l++[z]).Nodup →
 Links (fset (fset link i ⟨k.1,k.2,true,z,-1⟩) z { link z with be:=i }) k p (l++[z]++[i])
 | [],p,h,hi,hn=>by
   simp only[List.nil_append,List.mem_singleton,List.cons_append] at *;refine⟨?_,?_,trivial⟩
   ·rw[fset_same,h.1]
    rfl
   ·rw[fset_ne _ _ hi,fset_same]
    rfl
 |a::l,p,h,hi,hn=>by
   simp only[List.cons_append] at *;have hni:i≠a:=fun e=>hi (by simp[e])
   have hz':a≠z:=by
    rintro rfl;exact(List.nodup_cons.1 hn).1 (by simp)
   refine⟨?_,?_⟩
   ·rw[fset_ne _ _ hz',fset_ne _ _ (Ne.symm hni),h.1]
    cases l<;>rfl
   ·exact Links.snoc h.2 (fun e=>hi (by simp only[List.mem_cons];exact .inr e)) (List.nodup_cons.1 hn).2
structure ChainOk (C:CS) (ls:Int×Int→List Nat) (room:Nat):Prop where
 head:∀k,C.head k=if ls k=[] then none else some ⟨fstI (ls k),lstI (ls k),((ls k).length:Int)⟩
 link:∀k,Links C.link k (-1) (ls k)
 out:∀a,(∀k,a∉ls k)→(C.link a).ins=false
 lt:∀k a,a∈ls k→a<room
 nodup:∀k,(ls k).Nodup
 disj:∀k k' a,a∈ls k→a∈ls k'→k=k'
section
variable {C:CS} {ls:Int×Int→List Nat} {room:Nat}
theorem nodup_le:∀ {n:Nat} {l:List Nat},l.Nodup→(∀a∈l,a<n)→l.length≤n
 | 0,[],_,_=>Nat.le_refl _
 | 0,a::l,_,h=>absurd (h a (by simp)) (by omega)
 |n+1,l,hn,h=>by
   by_cases hm:n∈l
   ·have h1:=nodup_le (n:=n) (hn.erase n) (fun a ha=>by
     have:=(hn.mem_erase_iff).1 ha;have:=h a this.2
     omega)
    rw[List.length_erase_of_mem hm] at h1;omega
   ·have h1:=nodup_le (n:=n) hn (fun a ha=>by
     have h2:=h a ha;have h3:a≠n:=fun e=>hm (e ▸ ha)
     omega)
    omega
theorem ChainOk.le (h:ChainOk C ls room) (k:Int×Int):(ls k).length≤room:=nodup_le (h.nodup k) (h.lt k)
theorem firstOf_list (h:ChainOk C ls room) (k:Int×Int):firstOf (C.head k)=fstI (ls k):=by
 rw[h.head k]
 by_cases e:ls k=[]
 ·rw[if_pos e,e]
  rfl
 ·rw[if_neg e]
  rfl
theorem ChainOk.trail (h:ChainOk C ls room) (k:Int×Int):Trail C.link (firstOf (C.head k)) (ls k):=by
 rw[firstOf_list h];exact(h.link k).trail
theorem lstI_mem:∀ {l:List Nat},l≠[]→∃z:Nat,lstI l=(z:Int)∧z∈l∧∃m,l=m++[z]
 | [],h=>absurd rfl h
 | [a],_=>⟨a,rfl,by simp,[],rfl⟩
 |a::b::l,_=>by
   obtain⟨z,h1,h2,m,h3⟩:=lstI_mem (l:=b::l) (by simp);exact⟨z,h1,by simp only[List.mem_cons] at *;exact .inr h2,a::m,by rw[h3];rfl⟩
theorem ChainOk.pushOk (h:ChainOk C ls room) (hr:room<4294967296) {k:Int×Int} {i:Nat} (hi:i<room) (ho:∀k,i∉ls k):PushOk C room k i:=by
 refine⟨hi,h.out i ho,fun x hx=>?_⟩;rw[h.head k] at hx
 by_cases e:ls k=[]
 ·rw[if_pos e] at hx
  cases hx
 ·rw[if_neg e] at hx
  cases hx;obtain⟨z,h1,h2,_⟩:=lstI_mem e;exact⟨z,(ls k).length,h1,h.lt k z h2,fun e=>ho k (e ▸ h2),rfl,by have:=h.le k;omega⟩
open Classical in
theorem ChainOk.push (h:ChainOk C ls room) {k:Int×Int} {i:Nat} (hi:i<room) (ho:∀k,i∉ls k):ChainOk (C.push k i) (fset ls k (ls k++[i])) room:=by
 have hls:∀k' a,a∈fset ls k (ls k++[i]) k'→(a∈ls k'∨(k'=k∧a=i)):=by
  intro k' a ha
  by_cases e:k'=k
  ·subst e
   rw[fset_same] at ha;simp only[List.mem_append,List.mem_singleton] at ha;exact ha.elim .inl fun e=>.inr ⟨rfl,e⟩
  ·rw[fset_ne _ _ e] at ha
   exact .inl ha
 have hlt:∀k' a,a∈fset ls k (ls k++[i]) k'→a<room:=fun k' a ha=>(hls k' a ha).elim (h.lt k' a) fun e=>e.2 ▸ hi
 have hnd:∀k',(fset ls k (ls k++[i]) k').Nodup:=by
  intro k'
  by_cases e:k'=k
  ·subst e
   rw[fset_same];refine List.nodup_append.2 ⟨h.nodup k',by simp,?_⟩;intro a ha b hb;simp only[List.mem_singleton] at hb;rintro rfl;exact ho k' (hb ▸ ha)
  ·rw[fset_ne _ _ e]
   exact h.nodup k'
 have hdj:∀k1 k2 a,a∈fset ls k (ls k++[i]) k1→a∈fset ls k (ls k++[i]) k2→k1=k2:=by
  intro k1 k2 a h1 h2
  rcases hls _ _ h1 with h1|⟨h1,e1⟩<;>rcases hls _ _ h2 with h2|⟨h2,e2⟩
  ·exact h.disj _ _ _ h1 h2
  ·exact absurd (e2 ▸ h1) (ho k1)
  ·exact absurd (e1 ▸ h2) (ho k2)
  ·rw[h1,h2]
 by_cases e:ls k=[]
 ·have hh:C.head k=none:=by rw[h.head k,if_pos e]
  have hC:C.push k i=⟨fset C.head k (some ⟨i,i,1⟩),fset C.link i ⟨k.1,k.2,true,-1,-1⟩⟩:=by unfold CS.push;rw[hh]
  rw[hC];refine⟨fun k'=>?_,fun k'=>?_,fun a ha=>?_,hlt,hnd,hdj⟩
  ·by_cases ek:k'=k
   ·subst ek
    simp only[fset_same];rw[e];rfl
   ·simp only[fset_ne _ _ ek]
    exact h.head k'
  ·by_cases ek:k'=k
   ·subst ek
    rw[fset_same,e];exact⟨fset_same _ _ _,trivial⟩
   ·rw[fset_ne _ _ ek]
    exact(h.link k').congr fun x hx=>fset_ne _ _ (fun e=>ho k' (e ▸ hx))
  ·have hai:a≠i:=by
    rintro rfl;exact ha k (by rw[fset_same];simp)
   show (fset C.link i _ a).ins=false;rw[fset_ne _ _ hai];refine h.out a fun k' hk=>?_
   by_cases ek:k'=k
   ·subst ek
    rw[e] at hk;cases hk
   ·exact ha k' (by rw[fset_ne _ _ ek];exact hk)
 ·obtain⟨z,h1,h2,m,h3⟩:=lstI_mem e
  have hh:C.head k=some ⟨fstI (ls k),lstI (ls k),((ls k).length:Int)⟩:=by rw[h.head k,if_neg e]
  have hC:C.push k i=⟨fset C.head k (some ⟨fstI (ls k),i,((ls k).length:Int)+1⟩),fset (fset C.link i ⟨k.1,k.2,true,z,-1⟩) z { C.link z with be:=i }⟩:=by
   unfold CS.push;rw[hh];simp only[h1,Int.toNat_natCast]
  rw[hC];refine⟨fun k'=>?_,fun k'=>?_,fun a ha=>?_,hlt,hnd,hdj⟩
  ·by_cases ek:k'=k
   ·subst ek
    simp only[fset_same];rw[if_neg (by simp),lstI_snoc];congr 2
    ·cases hc:ls k' with
     |nil=>exact absurd hc e
     |cons a l=>rfl
    ·simp
   ·simp only[fset_ne _ _ ek]
    exact h.head k'
  ·by_cases ek:k'=k
   ·subst ek
    rw[fset_same];have hl:=h.link k';have hn:=h.nodup k';have hi':=ho k';rw[h3] at hl hn hi' ⊢;exact hl.snoc hi' hn
   ·rw[fset_ne _ _ ek]
    refine(h.link k').congr fun x hx=>?_;have x1:x≠z:=fun e'=>ek (h.disj k' k x hx (e' ▸ h2));have x2:x≠i:=fun e'=>ho k' (e' ▸ hx);show fset (fset C.link i _) z _ x=C.link x;rw[fset_ne _ _ x1,fset_ne _ _ x2]
  ·have hai:a≠i:=by
    rintro rfl;exact ha k (by rw[fset_same];simp)
   have haz:a≠z:=by
    rintro rfl;exact ha k (by rw[fset_same];simp[h2])
   show (fset (fset C.link i _) z _ a).ins=false;rw[fset_ne _ _ haz,fset_ne _ _ hai];refine h.out a fun k' hk=>?_
   by_cases ek:k'=k
   ·subst ek
    exact ha k' (by rw[fset_same];simp[hk])
   ·exact ha k' (by rw[fset_ne _ _ ek];exact hk)
theorem ChainOk.at_ (h:ChainOk C ls room) {k:Int×Int} {i:Nat} {l:List Nat} (hk:ls k=i::l):C.link i=⟨k.1,k.2,true,-1,fstI l⟩:=by
 have:=h.link k;rw[hk] at this;exact this.1
theorem ChainOk.popOk (h:ChainOk C ls room) (hr:room<4294967296) {k:Int×Int} {i:Nat} {l:List Nat} (hk:ls k=i::l):PopOk C room i:=by
 have hi:=h.at_ hk;have hle:=h.le k;rw[hk] at hle;refine⟨h.lt k i (by rw[hk];simp),by rw[hi],by rw[hi],?_⟩;rw[hi];simp only;rw[show (k.1,k.2)=k from rfl,h.head k,if_neg (by rw[hk];simp)];refine⟨_,rfl,?_⟩
 cases l with
 |nil=>exact .inl ⟨rfl,by rw[hk];rfl⟩
 |cons b l=>
   refine .inr ⟨b,(i::b::l).length,rfl,h.lt k b (by rw[hk];simp),?_,by rw[hk],by simp,by omega⟩;rintro rfl;have:=h.nodup k;rw[hk] at this;exact(List.nodup_cons.1 this).1 (by simp)
theorem Links.popped {link:Nat→Lk} {k:Int×Int} {i:Nat} {l:List Nat} {p:Int} (h:Links link k p (i::l)) (hn:(i::l).Nodup) {b:Nat} {l':List Nat} (hl:l=b::l'):Links (fset (fset link b { link b with ah:=-1 }) i lk0) k (-1) l:=by
 subst hl;have h1:=(List.nodup_cons.1 hn).1;have h2:=(List.nodup_cons.1 hn).2;have hib:b≠i:=fun e=>h1 (by simp[e]);refine⟨?_,?_⟩
 ·rw[fset_ne _ _ hib,fset_same,h.2.1]
 ·refine h.2.2.congr fun x hx=>?_
  have x1:x≠i:=fun e=>h1 (by simp only[List.mem_cons];exact .inr (e ▸ hx));have x2:x≠b:=fun e=>(List.nodup_cons.1 h2).1 (e ▸ hx);rw[fset_ne _ _ x1,fset_ne _ _ x2]
theorem lstI_tail {i b:Nat} {l:List Nat}:lstI (i::b::l)=lstI (b::l):=rfl
theorem ChainOk.pop (h:ChainOk C ls room) {k:Int×Int} {i:Nat} {l:List Nat} (hk:ls k=i::l):ChainOk (C.pop i) (fset ls k l) room:=by
 have hi:=h.at_ hk;have hn:=h.nodup k;rw[hk] at hn
 have hsub:∀k' a,a∈fset ls k l k'→a∈ls k':=by
  intro k' a ha
  by_cases e:k'=k
  ·subst e
   rw[fset_same] at ha;rw[hk];simp[ha]
  ·rw[fset_ne _ _ e] at ha
   exact ha
 have hik:i∈ls k:=by rw[hk];simp
 have hin:∀k' a,a∈fset ls k l k'→a≠i:=by
  rintro k' a ha rfl;have:=h.disj k' k a (hsub k' a ha) hik;subst this;rw[fset_same] at ha;exact(List.nodup_cons.1 hn).1 ha
 have hlt:∀k' a,a∈fset ls k l k'→a<room:=fun k' a ha=>h.lt k' a (hsub k' a ha)
 have hnd:∀k',(fset ls k l k').Nodup:=by
  intro k'
  by_cases e:k'=k
  ·subst e
   rw[fset_same];exact(List.nodup_cons.1 hn).2
  ·rw[fset_ne _ _ e]
   exact h.nodup k'
 have hdj:∀k1 k2 a,a∈fset ls k l k1→a∈fset ls k l k2→k1=k2:=fun k1 k2 a h1 h2=>h.disj k1 k2 a (hsub _ _ h1) (hsub _ _ h2)
 have hkk:((C.link i).l,(C.link i).s)=k:=by rw[hi]
 have hout:∀a,(∀k',a∉fset ls k l k')→a≠i→(C.link a).ins=false:=by
  intro a ha hai;refine h.out a fun k' hk'=>?_
  by_cases e:k'=k
  ·subst e
   rw[hk] at hk';simp only[List.mem_cons] at hk';exact hk'.elim hai fun e=>ha k' (by rw[fset_same];exact e)
  ·exact ha k' (by rw[fset_ne _ _ e];exact hk')
 cases l with
 |nil=>
   have hC:C.pop i=⟨fset C.head k none,fset C.link i lk0⟩:=by
    unfold CS.pop;simp only[hkk];rw[if_pos (by rw[hi];rfl)]
   rw[hC];refine⟨fun k'=>?_,fun k'=>?_,fun a ha=>?_,hlt,hnd,hdj⟩
   ·by_cases e:k'=k
    ·subst e
     simp only[fset_same];rfl
    ·simp only[fset_ne _ _ e]
     exact h.head k'
   ·by_cases e:k'=k
    ·subst e
     rw[fset_same];trivial
    ·rw[fset_ne _ _ e]
     refine(h.link k').congr fun x hx=>fset_ne _ _ (hin k' x (by rw[fset_ne _ _ e];exact hx))
   ·show (fset C.link i lk0 a).ins=false
    by_cases hai:a=i
    ·rw[hai,fset_same]
     rfl
    ·rw[fset_ne _ _ hai]
     exact hout a ha hai
 |cons b l=>
   have hbe:(C.link i).be=(b:Int):=by rw[hi];rfl
   have hC:C.pop i=⟨fset C.head k ((C.head k).map fun x=>⟨b,x.la,x.n-1⟩),fset (fset C.link b { C.link b with ah:=-1 }) i lk0⟩:=by
    unfold CS.pop;simp only[hkk,hbe,Int.toNat_natCast];rw[if_neg (by omega)]
   rw[hC]
   have hbl:b∈fset ls k (b::l) k:=by rw[fset_same];simp
   refine⟨fun k'=>?_,fun k'=>?_,fun a ha=>?_,hlt,hnd,hdj⟩
   ·by_cases e:k'=k
    ·subst e
     simp only[fset_same];rw[h.head k',if_neg (by rw[hk];simp),hk,lstI_tail,if_neg (by simp)];simp only[Option.map_some,fstI];congr 2;simp
    ·simp only[fset_ne _ _ e]
     exact h.head k'
   ·by_cases e:k'=k
    ·subst e
     rw[fset_same];have hl:=h.link k';rw[hk] at hl;exact hl.popped hn rfl
    ·rw[fset_ne _ _ e]
     refine(h.link k').congr fun x hx=>?_;have x1:x≠i:=hin k' x (by rw[fset_ne _ _ e];exact hx);have x2:x≠b:=fun e'=>e (hdj k' k b (by rw[fset_ne _ _ e];exact e' ▸ hx) hbl);show fset (fset C.link b _) i lk0 x=C.link x;rw[fset_ne _ _ x1,fset_ne _ _ x2]
   ·show (fset (fset C.link b _) i lk0 a).ins=false
    by_cases hai:a=i
    ·rw[hai,fset_same]
     rfl
    ·have hab:a≠b:=fun e=>ha k (e ▸ hbl)
     rw[fset_ne _ _ hai,fset_ne _ _ hab];exact hout a ha hai
end
def nxtN (n m:Nat):Int:=if m<64 then firstN n m else -1
theorem first_end {n m:Nat} (hm:m=64) (w:World):Calls Tryz.prog 299 #[.int .u64 n,.int .i64 m] w fun e w'=>e=.returned (.int .i64 (-1))∧Below w.heap.size w w':=by
 subst hm;go_enter Tryz.func299,Tryz.ntmps299;have hBa:Below w.heap.size w ((w.alloc (.cells #[.int .u64 n] 37)).alloc (.cells #[.int .i64 64] 3)):=((Below.refl _ w).alloc (Nat.le_refl _) _).alloc (by simp) _
 have h2:Blk ((w.alloc (.cells #[.int .u64 n] 37)).alloc (.cells #[.int .i64 64] 3)) (w.heap.size+1) #[.int .i64 64] 3:=by
  have:=Blk.new (w.alloc (.cells #[.int .u64 n] 37)) #[.int .i64 (64:Int)] 3;simpa using this
 have c2:((w.alloc (.cells #[.int .u64 n] 37)).alloc (.cells #[.int .i64 64] 3)).cell? ⟨w.heap.size+1,0,none⟩=some (.int .i64 64):=h2.cell 0 rfl;go_wp2;refine bodyPost_ret (v:=.int .i64 (-1)) ?_ rfl ⟨rfl,hBa⟩;simp[results,Tryz.results299,go_sem]
theorem nxt_at {n m:Nat} (hn:n<18446744073709551616) (hm:m≤64) {w:World} (hT:TabW w):Calls Tryz.prog 299 #[.int .u64 n,.int .i64 m] w fun e w'=>e=.returned (.int .i64 (nxtN n m))∧Below w.heap.size w w':=by
 unfold nxtN
 by_cases h:m<64
 ·rw[if_pos h]
  exact first_at hn h hT
 ·rw[if_neg h]
  exact first_end (by omega) w
theorem onext_at {M:Nat→Nat} (hM:∀i,M i<18446744073709551616) {l m:Nat} (hl:l<8) (hm:m≤64) {w:World} (hT:TabW w):Calls Tryz.prog 302 #[.agg (arr8 M),.int .i64 l,.int .i64 m] w fun e w'=>e=.returned (.int .i64 (nxtN (M l) m))∧Below w.heap.size w w':=by
 have hb:∀w,Calls Tryz.prog 247 #[.int .i64 l,.int .i64 0] w fun e w'=>e=.returned (.int .u64 1)∧w'=w:=fun w=>bit_at l 0 hl (by omega) w;have hBa:Below w.heap.size w (w.alloc (Obj.cells #[.int .u64 (M 0),.int .u64 (M 1),.int .u64 (M 2),.int .u64 (M 3),.int .u64 (M 4),.int .u64 (M 5),.int .u64 (M 6),.int .u64 (M 7)] 213)):=(Below.refl _ w).alloc (Nat.le_refl _) _;have hX:Blk (w.alloc (Obj.cells #[.int .u64 (M 0),.int .u64 (M 1),.int .u64 (M 2),.int .u64 (M 3),.int .u64 (M 4),.int .u64 (M 5),.int .u64 (M 6),.int .u64 (M 7)] 213)) w.heap.size (arr8 M) 213:=Blk.new w (arr8 M) 213;have cl:(w.alloc (Obj.cells #[.int .u64 (M 0),.int .u64 (M 1),.int .u64 (M 2),.int .u64 (M 3),.int .u64 (M 4),.int .u64 (M 5),.int .u64 (M 6),.int .u64 (M 7)] 213)).cell? ⟨w.heap.size,l,none⟩=some (.int .u64 (M l)):=hX.cell l (arr8_at M l hl);have hx:=nxt_at (hM l) hm (w:=w.alloc (Obj.cells #[.int .u64 (M 0),.int .u64 (M 1),.int .u64 (M 2),.int .u64 (M 3),.int .u64 (M 4),.int .u64 (M 5),.int .u64 (M 6),.int .u64 (M 7)] 213)) (hT.below (hBa.mono (Nat.le_refl _)));have hsz:=hBa.size;unfold arr8;clear hX hT hM;go_enter Tryz.func302,Tryz.ntmps302
 go_wp2_with (go_at_call 247;fail)
 refine(hb _).mono ?_;rintro e w1 ⟨rfl,rfl⟩
 go_wp2_with (go_at_call 299;fail)
 refine hx.mono ?_;rintro e w2 ⟨rfl,hb2⟩;go_wp2;refine bodyPost_ret (v:=.int .i64 (nxtN (M l) m)) ?_ rfl ⟨rfl,hBa.trans (hb2.mono hsz)⟩;simp[results,Tryz.results302,go_sem]
attribute [local go_sem] Oper.semAt_some
def Bits (n:Nat):Int→List Nat→Prop
 |i,[]=>i=-1
 |i,a::l=>i=(a:Int)∧a<64∧Bits n (nxtN n (a+1)) l
theorem nxtN_ge (n m:Nat) (hn:n<18446744073709551616) (hm:m≤64):nxtN n m=-1∨∃a:Nat,nxtN n m=a∧m≤a∧a<64:=by
 unfold nxtN
 by_cases h:m<64
 ·rw[if_pos h]
  unfold firstN
  have e:2^64-1-(2^m-1)=2^m*(2^(64-m)-1):=by
   have e1:2^64=2^m*2^(64-m):=by rw[←Nat.pow_add];congr 1;omega
   have e2:1≤2^m:=Nat.one_le_two_pow;rw[Nat.mul_sub,←e1];omega
  rw[e];generalize hr:n &&& 2^m*(2^(64-m)-1)=r
  by_cases hz:r=0
  ·exact .inl (if_pos hz)
  ·refine .inr ⟨Lib.ctz 64 r,if_neg hz,?_,?_⟩
   ·have hlt:r<2^64:=by rw[←hr];exact Nat.lt_of_le_of_lt Nat.and_le_left (by omega)
    obtain⟨k,hk,hc⟩:=Lib.ctzFrom_spec 64 r (by omega) hlt
    have hcz:Lib.ctz 64 r=Lib.ctzFrom 64 r:=by unfold Lib.ctz;rw[if_neg hz]
    rw[hcz];generalize Lib.ctzFrom 64 r=c at *
    have hb:r.testBit c=true:=by
     rw[hk,Nat.testBit_two_pow_mul];simp
    rw[←hr,Nat.testBit_and,Nat.testBit_two_pow_mul] at hb;simp at hb;omega
   ·have hlt:r<2^64:=by rw[←hr];exact Nat.lt_of_le_of_lt Nat.and_le_left (by omega)
    exact(Lib.lowest_bit 64 r hz hlt).2
 ·exact .inl (if_neg h)
theorem bits_any (n:Nat) (hn:n<18446744073709551616) (m:Nat) (hm:m≤64):∃l,Bits n (nxtN n m) l:=by
 induction h:64-m using Nat.strongRecOn generalizing m with
 |ind k ih=>
   rcases nxtN_ge n m hn hm with e|⟨a,e,h1,h2⟩
   ·exact⟨[],e⟩
   ·obtain⟨l,hl⟩:=ih (64-(a+1)) (by omega) (a+1) (by omega) rfl
    exact⟨a::l,e,h2,hl⟩
end Go.Proofs.YtkndlfdpmpdihaaGreatDoor
namespace Go.Proofs.YtkndlfdpmpdihaaGreatDoor
open Go.RowKit Go.Ev Go.Mv
set_option linter.unusedVariables false
set_option linter.unusedSimpArgs false
set_option maxRecDepth 100000
attribute [local go_sem] Oper.semAt_some
def upToL (L:Nat→List Nat) (k:Nat):List (Nat×Nat):=(List.range k).flatMap fun l=>(L l).map fun s=>(l,s)
theorem upToL_succ (L:Nat→List Nat) (k:Nat):upToL L (k+1)=upToL L k++(L k).map fun s=>(k,s):=by simp[upToL,List.range_succ]
theorem upToL_len (L:Nat→List Nat) {k:Nat}:∀ {n:Nat},k≤n→(upToL L k).length≤(upToL L n).length:=by
 intro n h
 induction h with
 |refl=>exact Nat.le_refl _
 |step h ih=>rw[upToL_succ];simp;omega
theorem upToL_pre (L:Nat→List Nat) {k:Nat}:∀ {n:Nat},k≤n→upToL L k <+: upToL L n:=by
 intro n h
 induction h with
 |refl=>exact List.prefix_refl _
 |step h ih=>rw[upToL_succ];exact ih.trans (List.prefix_append _ _)
theorem grown_of {w w':World} (h:Below w.heap.size w w') (row:Option Nat):w.grownBy w' row:=⟨h.os,h.tape,h.output,h.size,fun k hk _=>h.block k hk⟩
set_option maxHeartbeats 4000000 in
theorem each1_in (n:Nat) (hn:1≤n) {M:Nat→Nat} (hM:∀i,M i<18446744073709551616) {L:Nat→List Nat} (hL:∀l,l<8→Bits (M l) (nxtN (M l) 0) (L l)) (l bx n₀:Nat) (hbx:bx<n₀) (h2:2<n₀) (J Jx:List (Nat×Nat)→World→Prop)
 (W:World) (hJ:AbidesFrom W.heap.size J) (hnW:n₀≤W.heap.size)
 (hY:∀pre x W,J pre W→pre.length<(upToL L 8).length→YieldAt Fence.wide (n-1) Tryz.prog l #[.agg #[.int .i64 (x.1:Int),.int .i64 (x.2:Int)]] W fun e W'=>
  (e=.returned (.bool true)∧J (pre++[x]) W'∧Below n₀ W W')∨(e=.returned (.bool false)∧Jx (pre++[x]) W'))
 (hX:Blk W bx (arr8 M) 213) (hT:TabW W) (h0:J [] W) :
 CallsIn Fence.wide n Tryz.prog 301 #[.func (.yield l) #[] #[],.pointer (some ⟨bx,0,none⟩)] W fun e W'=>(∃v,e=.returned v) ∧
  ((∃ys,ys=upToL L 8∧J ys W')∨(∃pre,pre <+: upToL L 8∧Jx pre W')):=by
 refine callsIn_of_wp Tryz.func301 rfl trivial ?_ rfl;simp only[Tryz.ntmps301,List.size_toArray,List.length_cons,List.length_nil,Nat.reduceAdd,Nat.reduceSub,Array.replicate_succ,Array.replicate_zero,List.push_toArray,List.append_toArray,List.nil_append,List.cons_append]
 gi_wp2
 gi_loopg [5] 8 (fun g i wr=>∃k:Nat,k≤8∧g=8-k∧i=.int .i64 k∧J (upToL L k) wr∧Below n₀ W wr∧W.heap.size≤wr.heap.size)
 case atStart=>exact⟨0,by omega,rfl,rfl,h0,Below.refl _ _,Nat.le_refl _⟩
 case round=>
  obtain⟨k,hk,hg,rfl,hJs,hB,hsz⟩:=hrel
  by_cases hlt:k<8
  ·have hXr:=hX.below hB hbx
   have hTr:TabW wr:=hT.keep (hB.block _ h2);have c0:wr.cell? ⟨bx,0,none⟩=some (.int .u64 (M 0)):=hXr.cell 0 rfl;have c1:wr.cell? ⟨bx,1,none⟩=some (.int .u64 (M 1)):=hXr.cell 1 rfl;have c2:wr.cell? ⟨bx,2,none⟩=some (.int .u64 (M 2)):=hXr.cell 2 rfl;have c3:wr.cell? ⟨bx,3,none⟩=some (.int .u64 (M 3)):=hXr.cell 3 rfl;have c4:wr.cell? ⟨bx,4,none⟩=some (.int .u64 (M 4)):=hXr.cell 4 rfl;have c5:wr.cell? ⟨bx,5,none⟩=some (.int .u64 (M 5)):=hXr.cell 5 rfl;have c6:wr.cell? ⟨bx,6,none⟩=some (.int .u64 (M 6)):=hXr.cell 6 rfl;have c7:wr.cell? ⟨bx,7,none⟩=some (.int .u64 (M 7)):=hXr.cell 7 rfl;have hnx:=onext_at hM hlt (Nat.zero_le 64) hTr;rw[show ((0:Nat):Int)=0 from rfl] at hnx;unfold arr8 at hnx
   gi_wp2_with (refine⟨trivial,?_⟩;gi_at_call 302;refine(callsIn_wide.2 hnx).mono ?_;rintro e w1 ⟨rfl,hb1⟩)
   have hJ1:=hJ _ _ _ none hJs (grown_of hb1 none) (fun r e=>by cases e);have hB1:Below n₀ W w1:=hB.trans (hb1.mono (Nat.le_trans hnW hsz));have hs1:W.heap.size≤w1.heap.size:=Nat.le_trans hsz hb1.size;clear c0 c1 c2 c3 c4 c5 c6 c7 hnx hXr hTr hJs
   gi_loopg [4] (L k).length (fun g s wr=>∃done rest j,L k=done++rest∧Bits (M k) j rest∧g=rest.length∧s=.int .i64 j∧J (upToL L k++done.map fun s=>(k,s)) wr∧Below n₀ W wr∧W.heap.size≤wr.heap.size)
   case atStart=>exact⟨[],L k,_,rfl,hL k hlt,rfl,rfl,by simpa using hJ1,hB1,hs1⟩
   case round=>
    obtain⟨done,rest,j,hLe,hbt,hg2,rfl,hJq,hBq,hsq⟩:=hrel
    cases rest with
    |nil=>
      have hj:j=-1:=hbt;subst hj
      have hD:L k=done:=by rw[hLe];simp
      rw[←hD,←upToL_succ] at hJq
      gi_wp2
      gi_roundg (8-(k+1))
      case measure=>omega
      case rel=>exact⟨k+1,by omega,rfl,by simp,hJq,hBq,hsq⟩
    |cons a rest=>
      obtain⟨hj,ha,hbt'⟩:=hbt;subst hj;obtain⟨fn,tmps,assign,body,hy,hR⟩:=hY _ (k,a) _ hJq (by have:=upToL_len L (show k+1≤8 by omega);rw[upToL_succ,hLe] at this;simp at this;simp;omega);dsimp only at hy
      gi_wp2
      refine hR.mono ?_;rintro e W3 (⟨rfl,hJ3,hk3⟩|⟨rfl,hJx3⟩)
      ·have hB3:Below n₀ W W3:=hBq.trans hk3
       have hs3:W.heap.size≤W3.heap.size:=Nat.le_trans hsq hk3.size;have hXq:=hX.below hB3 hbx;have hTq:TabW W3:=hT.keep (hB3.block _ h2);have c0:W3.cell? ⟨bx,0,none⟩=some (.int .u64 (M 0)):=hXq.cell 0 rfl;have c1:W3.cell? ⟨bx,1,none⟩=some (.int .u64 (M 1)):=hXq.cell 1 rfl;have c2:W3.cell? ⟨bx,2,none⟩=some (.int .u64 (M 2)):=hXq.cell 2 rfl;have c3:W3.cell? ⟨bx,3,none⟩=some (.int .u64 (M 3)):=hXq.cell 3 rfl;have c4:W3.cell? ⟨bx,4,none⟩=some (.int .u64 (M 4)):=hXq.cell 4 rfl;have c5:W3.cell? ⟨bx,5,none⟩=some (.int .u64 (M 5)):=hXq.cell 5 rfl;have c6:W3.cell? ⟨bx,6,none⟩=some (.int .u64 (M 6)):=hXq.cell 6 rfl;have c7:W3.cell? ⟨bx,7,none⟩=some (.int .u64 (M 7)):=hXq.cell 7 rfl;have hnx:=onext_at hM hlt (show a+1≤64 by omega) hTq;rw[show ((a+1:Nat):Int)=(a:Int)+1 by omega] at hnx;unfold arr8 at hnx
       gi_wp2_with (refine⟨trivial,?_⟩;gi_at_call 302;refine(callsIn_wide.2 hnx).mono ?_;rintro e w4 ⟨rfl,hb4⟩)
       have hJ4:=hJ _ _ _ none hJ3 (grown_of hb4 none) (fun r e=>by cases e)
       gi_roundg rest.length
       case measure=>simp only[List.length_cons] at hg2;omega
       case rel=>exact⟨done++[a],rest,_,by rw[hLe];simp,hbt',rfl,rfl,by simpa using hJ4,hB3.trans (hb4.mono (Nat.le_trans hnW hs3)),Nat.le_trans hs3 hb4.size⟩
      ·gi_wp2
       refine bodyPost_ret (results_none rfl _ _ _) rfl ?_;refine⟨⟨_,rfl⟩,.inr ⟨_,?_,hJx3⟩⟩;refine List.IsPrefix.trans ?_ (upToL_pre L (show k+1≤8 by omega));rw[upToL_succ,hLe];exact⟨rest.map fun s=>(k,s),by simp⟩
  ·obtain rfl:k=8:=by omega
   gi_wp2
   go_end0
   exact⟨⟨_,rfl⟩,.inl ⟨_,rfl,hJs⟩⟩
end Go.Proofs.YtkndlfdpmpdihaaGreatDoor
namespace Go.Proofs.YtkndlfdpmpdihaaGreatDoor
open Go.RowKit Go.Ev Go.Mv
set_option linter.unusedVariables false
set_option linter.unusedSimpArgs false
set_option maxRecDepth 100000
attribute [local go_sem] Oper.semAt_some
theorem Blk.kept {A B:World} {b:Nat} {vs:Array Value} {T:TypeId} {row:Option Nat} (h:Blk A b vs T) (hg:A.grownBy B row) (hr:∀r,row=some r→∃o:Obj,A.heap[r]?=some o∧o.isCells=false):Blk B b vs T:=by
 refine(hg.block b h.lt (fun e=>?_)).trans h;obtain⟨o,ho,hc⟩:=hr b e.symm;unfold Blk at h;rw[h] at ho;cases ho;cases hc
theorem each_at (M:Nat→Nat) (n:Nat) (w:World):CallsIn Fence.wide n Tryz.prog 239 #[.agg (arr8 M)] w fun e w'=>e=.returned (.func (.func 301) #[] #[.pointer (some ⟨w.heap.size,0,none⟩)])∧w'=w.alloc (.cells (arr8 M) 213):=by
 unfold arr8;refine callsIn_of_wp Tryz.func239 rfl trivial ?_ rfl;simp only[Tryz.ntmps239,List.size_toArray,List.length_cons,List.length_nil,Nat.reduceAdd,Nat.reduceSub,Array.replicate_succ,Array.replicate_zero,List.push_toArray,List.append_toArray,List.nil_append,List.cons_append]
 gi_wp2
 go_ret
 exact⟨rfl,rfl⟩
theorem each_stops (n:Nat) (hn:1≤n) {M:Nat→Nat} (hM:∀i,M i<18446744073709551616) {L:Nat→List Nat} (hL:∀l,l<8→Bits (M l) (nxtN (M l) 0) (L l)) (bx n₀:Nat) (w:World) (hbx:bx<n₀) (h2:2<n₀) (hnw:n₀≤w.heap.size)
 (hX:Blk w bx (arr8 M) 213) (hT:TabW w) :
 SeqStopsK Fence.wide n Tryz.prog 301 #[.pointer (some ⟨bx,0,none⟩)] (fun x:Nat×Nat=>#[Value.agg #[.int .i64 (x.1:Int),.int .i64 (x.2:Int)]]) (Below n₀) (fun ys=>ys=upToL L 8) (fun pre=>pre <+: upToL L 8) (upToL L 8).length w:=fun l J Jx W hW hJ _ hY h0=>
 each1_in n hn hM hL l bx n₀ hbx h2 J Jx W hJ (Nat.le_trans hnw hW.size) hY (hX.below hW (by omega)) (hT.below hW) h0
def lowK (L:Nat→List Nat):Int×Int:=match upToL L 8 with
 | []=>(-1,-1)
 |x::_=>(x.1,x.2)
theorem under213:Tryz.prog.underlying 213=some (.array 8 37):=by kernel_rfl
theorem eq_arr8 (x0 x1 x2 x3 x4 x5 x6 x7 y0 y1 y2 y3 y4 y5 y6 y7:Int) (w:World) :
 (Op.equalIn 10000 213 (.agg #[.int .u64 x0,.int .u64 x1,.int .u64 x2,.int .u64 x3,.int .u64 x4,.int .u64 x5,.int .u64 x6,.int .u64 x7]) (.agg #[.int .u64 y0,.int .u64 y1,.int .u64 y2,.int .u64 y3,.int .u64 y4,.int .u64 y5,.int .u64 y6,.int .u64 y7])).run Tryz.prog w=.ok ([x0,x1,x2,x3,x4,x5,x6,x7]==[y0,y1,y2,y3,y4,y5,y6,y7]) w:=
 run_equalIn_ints w .u64 9998 213 37 8 under213 under37 size37 [x0,x1,x2,x3,x4,x5,x6,x7] [y0,y1,y2,y3,y4,y5,y6,y7] rfl rfl
end Go.Proofs.YtkndlfdpmpdihaaGreatDoor
namespace Go.Proofs.YtkndlfdpmpdihaaGreatDoor
open Go.RowKit Go.Ev Go.Mv
set_option linter.unusedVariables false
set_option linter.unusedSimpArgs false
set_option maxRecDepth 100000
attribute [local go_sem] Oper.semAt_some
theorem bits0 {L:List Nat} (h:Bits 0 (nxtN 0 0) L):L=[]:=by
 cases L with
 |nil=>rfl
 |cons a l=>
   have:=h.1
   have e:nxtN 0 0=-1:=by unfold nxtN firstN;simp
   omega
theorem low0 {M:Nat→Nat} {L:Nat→List Nat} (hL:∀l,l<8→Bits (M l) (nxtN (M l) 0) (L l)) (h:∀l,l<8→M l=0):upToL L 8=[]:=by
 unfold upToL;rw[List.flatMap_eq_nil_iff];intro l hl;have hl':l<8:=List.mem_range.1 hl;have:=hL l hl';rw[h l hl'] at this;rw[bits0 this];rfl
set_option maxHeartbeats 4000000 in
theorem lowest_in (n:Nat) (hn:3≤n) {M:Nat→Nat} (hM:∀i,M i<18446744073709551616) {L:Nat→List Nat} (hL:∀l,l<8→Bits (M l) (nxtN (M l) 0) (L l)) (w:World) (hT:TabW w) :
 CallsIn Fence.wide n Tryz.prog 191 #[.agg (arr8 M)] w fun e W'=>e=.returned (.tuple #[.int .i64 (lowK L).1,.int .i64 (lowK L).2])∧Below w.heap.size w W':=by
 have h1:1≤n:=by omega
 have heq:=eq_arr8 (M 0) (M 1) (M 2) (M 3) (M 4) (M 5) (M 6) (M 7) 0 0 0 0 0 0 0 0
 have hE:CallsIn Fence.wide (n-1) Tryz.prog 239 #[.agg #[.int .u64 (M 0),.int .u64 (M 1),.int .u64 (M 2),.int .u64 (M 3),.int .u64 (M 4),.int .u64 (M 5),.int .u64 (M 6),.int .u64 (M 7)]] (((w.alloc (.cells #[.int .u64 (M 0),.int .u64 (M 1),.int .u64 (M 2),.int .u64 (M 3),.int .u64 (M 4),.int .u64 (M 5),.int .u64 (M 6),.int .u64 (M 7)] 213)).alloc (.cells #[.int .i64 0] 3)).alloc (.cells #[.int .i64 0] 3)) fun e w'=>e=.returned (.func (.func 301) #[] #[.pointer (some ⟨w.heap.size+1+1+1,0,none⟩)])∧w'=(((w.alloc (.cells #[.int .u64 (M 0),.int .u64 (M 1),.int .u64 (M 2),.int .u64 (M 3),.int .u64 (M 4),.int .u64 (M 5),.int .u64 (M 6),.int .u64 (M 7)] 213)).alloc (.cells #[.int .i64 0] 3)).alloc (.cells #[.int .i64 0] 3)).alloc (.cells #[.int .u64 (M 0),.int .u64 (M 1),.int .u64 (M 2),.int .u64 (M 3),.int .u64 (M 4),.int .u64 (M 5),.int .u64 (M 6),.int .u64 (M 7)] 213):=by
  have:=each_at M (n-1) (((w.alloc (.cells #[.int .u64 (M 0),.int .u64 (M 1),.int .u64 (M 2),.int .u64 (M 3),.int .u64 (M 4),.int .u64 (M 5),.int .u64 (M 6),.int .u64 (M 7)] 213)).alloc (.cells #[.int .i64 0] 3)).alloc (.cells #[.int .i64 0] 3));simp only[World.size_alloc] at this;exact this
 unfold arr8;refine callsIn_of_wp_marks Tryz.func191 rfl trivial ?_ rfl;simp only[Tryz.ntmps191,List.size_toArray,List.length_cons,List.length_nil,Nat.reduceAdd,Nat.reduceSub,Array.replicate_succ,Array.replicate_zero,List.push_toArray,List.append_toArray,List.nil_append,List.cons_append];obtain⟨bz,hbz⟩:∃bz,bz=([(M 0:Int),(M 1:Int),(M 2:Int),(M 3:Int),(M 4:Int),(M 5:Int),(M 6:Int),(M 7:Int)]==[0,0,0,0,0,0,0,0]):=⟨_,rfl⟩;rw[←hbz] at heq
 gi_wp2_with (refine⟨trivial,?_⟩;gi_at_call 239;fail)
 ·rename_i hz
  have hz':∀l,l<8→M l=0:=by
   simp at hz;intro l hl
   match l,hl with
   | 0,_=>omega
   | 1,_=>omega
   | 2,_=>omega
   | 3,_=>omega
   | 4,_=>omega
   | 5,_=>omega
   | 6,_=>omega
   | 7,_=>omega
  have hlow:lowK L=(-1,-1):=by unfold lowK;rw[low0 hL hz']
  have hB:Below w.heap.size w (((w.alloc (.cells #[.int .u64 (M 0),.int .u64 (M 1),.int .u64 (M 2),.int .u64 (M 3),.int .u64 (M 4),.int .u64 (M 5),.int .u64 (M 6),.int .u64 (M 7)] 213)).alloc (.cells #[.int .i64 (-1)] 3)).alloc (.cells #[.int .i64 (-1)] 3)):=(((Below.refl _ w).alloc (Nat.le_refl _) _).alloc (by simp) _).alloc (by simp;omega) _
  have q1:(((w.alloc (.cells #[.int .u64 (M 0),.int .u64 (M 1),.int .u64 (M 2),.int .u64 (M 3),.int .u64 (M 4),.int .u64 (M 5),.int .u64 (M 6),.int .u64 (M 7)] 213)).alloc (.cells #[.int .i64 (-1)] 3)).alloc (.cells #[.int .i64 (-1)] 3)).cell? ⟨w.heap.size+1,0,none⟩=some (.int .i64 (-1)):=by
   have:=((Blk.new (w.alloc (.cells #[.int .u64 (M 0),.int .u64 (M 1),.int .u64 (M 2),.int .u64 (M 3),.int .u64 (M 4),.int .u64 (M 5),.int .u64 (M 6),.int .u64 (M 7)] 213)) #[.int .i64 (-1)] 3).alloc (.cells #[.int .i64 (-1)] 3)).cell 0 rfl;simpa using this
  have q2:(((w.alloc (.cells #[.int .u64 (M 0),.int .u64 (M 1),.int .u64 (M 2),.int .u64 (M 3),.int .u64 (M 4),.int .u64 (M 5),.int .u64 (M 6),.int .u64 (M 7)] 213)).alloc (.cells #[.int .i64 (-1)] 3)).alloc (.cells #[.int .i64 (-1)] 3)).cell? ⟨w.heap.size+1+1,0,none⟩=some (.int .i64 (-1)):=by
   have:=(Blk.new ((w.alloc (.cells #[.int .u64 (M 0),.int .u64 (M 1),.int .u64 (M 2),.int .u64 (M 3),.int .u64 (M 4),.int .u64 (M 5),.int .u64 (M 6),.int .u64 (M 7)] 213)).alloc (.cells #[.int .i64 (-1)] 3)) #[.int .i64 (-1)] 3).cell 0 rfl;simpa using this
  rw[hlow];generalize (((w.alloc (.cells #[.int .u64 (M 0),.int .u64 (M 1),.int .u64 (M 2),.int .u64 (M 3),.int .u64 (M 4),.int .u64 (M 5),.int .u64 (M 6),.int .u64 (M 7)] 213)).alloc (.cells #[.int .i64 (-1)] 3)).alloc (.cells #[.int .i64 (-1)] 3))=w9 at *;refine⟨.tuple #[.int .i64 (-1),.int .i64 (-1)],?_,rfl,hB⟩;simp[results,Tryz.f191,go_sem,q1,q2]
 ·refine⟨trivial,?_⟩
  refine hE.mono ?_;rintro e w1 ⟨rfl,rfl⟩
  have bR1:Boxed ((((w.alloc (.cells #[.int .u64 (M 0),.int .u64 (M 1),.int .u64 (M 2),.int .u64 (M 3),.int .u64 (M 4),.int .u64 (M 5),.int .u64 (M 6),.int .u64 (M 7)] 213)).alloc (.cells #[.int .i64 0] 3)).alloc (.cells #[.int .i64 0] 3)).alloc (.cells #[.int .u64 (M 0),.int .u64 (M 1),.int .u64 (M 2),.int .u64 (M 3),.int .u64 (M 4),.int .u64 (M 5),.int .u64 (M 6),.int .u64 (M 7)] 213)) (w.heap.size+1) 3 (.int .i64 0):=by
   have:=((Boxed.new (w.alloc (.cells #[.int .u64 (M 0),.int .u64 (M 1),.int .u64 (M 2),.int .u64 (M 3),.int .u64 (M 4),.int .u64 (M 5),.int .u64 (M 6),.int .u64 (M 7)] 213)) 3 (.int .i64 0)).alloc (.cells #[.int .i64 0] 3)).alloc (.cells #[.int .u64 (M 0),.int .u64 (M 1),.int .u64 (M 2),.int .u64 (M 3),.int .u64 (M 4),.int .u64 (M 5),.int .u64 (M 6),.int .u64 (M 7)] 213);simpa using this
  have bR2:Boxed ((((w.alloc (.cells #[.int .u64 (M 0),.int .u64 (M 1),.int .u64 (M 2),.int .u64 (M 3),.int .u64 (M 4),.int .u64 (M 5),.int .u64 (M 6),.int .u64 (M 7)] 213)).alloc (.cells #[.int .i64 0] 3)).alloc (.cells #[.int .i64 0] 3)).alloc (.cells #[.int .u64 (M 0),.int .u64 (M 1),.int .u64 (M 2),.int .u64 (M 3),.int .u64 (M 4),.int .u64 (M 5),.int .u64 (M 6),.int .u64 (M 7)] 213)) (w.heap.size+1+1) 3 (.int .i64 0):=by
   have:=(Boxed.new ((w.alloc (.cells #[.int .u64 (M 0),.int .u64 (M 1),.int .u64 (M 2),.int .u64 (M 3),.int .u64 (M 4),.int .u64 (M 5),.int .u64 (M 6),.int .u64 (M 7)] 213)).alloc (.cells #[.int .i64 0] 3)) 3 (.int .i64 0)).alloc (.cells #[.int .u64 (M 0),.int .u64 (M 1),.int .u64 (M 2),.int .u64 (M 3),.int .u64 (M 4),.int .u64 (M 5),.int .u64 (M 6),.int .u64 (M 7)] 213);simpa using this
  have bX:Blk ((((w.alloc (.cells #[.int .u64 (M 0),.int .u64 (M 1),.int .u64 (M 2),.int .u64 (M 3),.int .u64 (M 4),.int .u64 (M 5),.int .u64 (M 6),.int .u64 (M 7)] 213)).alloc (.cells #[.int .i64 0] 3)).alloc (.cells #[.int .i64 0] 3)).alloc (.cells #[.int .u64 (M 0),.int .u64 (M 1),.int .u64 (M 2),.int .u64 (M 3),.int .u64 (M 4),.int .u64 (M 5),.int .u64 (M 6),.int .u64 (M 7)] 213)) (w.heap.size+1+1+1) #[.int .u64 (M 0),.int .u64 (M 1),.int .u64 (M 2),.int .u64 (M 3),.int .u64 (M 4),.int .u64 (M 5),.int .u64 (M 6),.int .u64 (M 7)] 213:=by
   have:=Blk.new (((w.alloc (.cells #[.int .u64 (M 0),.int .u64 (M 1),.int .u64 (M 2),.int .u64 (M 3),.int .u64 (M 4),.int .u64 (M 5),.int .u64 (M 6),.int .u64 (M 7)] 213)).alloc (.cells #[.int .i64 0] 3)).alloc (.cells #[.int .i64 0] 3)) #[.int .u64 (M 0),.int .u64 (M 1),.int .u64 (M 2),.int .u64 (M 3),.int .u64 (M 4),.int .u64 (M 5),.int .u64 (M 6),.int .u64 (M 7)] 213;simpa using this
  have hB0:Below w.heap.size w ((((w.alloc (.cells #[.int .u64 (M 0),.int .u64 (M 1),.int .u64 (M 2),.int .u64 (M 3),.int .u64 (M 4),.int .u64 (M 5),.int .u64 (M 6),.int .u64 (M 7)] 213)).alloc (.cells #[.int .i64 0] 3)).alloc (.cells #[.int .i64 0] 3)).alloc (.cells #[.int .u64 (M 0),.int .u64 (M 1),.int .u64 (M 2),.int .u64 (M 3),.int .u64 (M 4),.int .u64 (M 5),.int .u64 (M 6),.int .u64 (M 7)] 213)):=((((Below.refl _ w).alloc (Nat.le_refl _) _).alloc (by simp) _).alloc (by simp;omega) _).alloc (by simp;omega) _
  have hsz:(((((w.alloc (.cells #[.int .u64 (M 0),.int .u64 (M 1),.int .u64 (M 2),.int .u64 (M 3),.int .u64 (M 4),.int .u64 (M 5),.int .u64 (M 6),.int .u64 (M 7)] 213)).alloc (.cells #[.int .i64 0] 3)).alloc (.cells #[.int .i64 0] 3)).alloc (.cells #[.int .u64 (M 0),.int .u64 (M 1),.int .u64 (M 2),.int .u64 (M 3),.int .u64 (M 4),.int .u64 (M 5),.int .u64 (M 6),.int .u64 (M 7)] 213))).heap.size=w.heap.size+4:=by simp
  have hT0:TabW ((((w.alloc (.cells #[.int .u64 (M 0),.int .u64 (M 1),.int .u64 (M 2),.int .u64 (M 3),.int .u64 (M 4),.int .u64 (M 5),.int .u64 (M 6),.int .u64 (M 7)] 213)).alloc (.cells #[.int .i64 0] 3)).alloc (.cells #[.int .i64 0] 3)).alloc (.cells #[.int .u64 (M 0),.int .u64 (M 1),.int .u64 (M 2),.int .u64 (M 3),.int .u64 (M 4),.int .u64 (M 5),.int .u64 (M 6),.int .u64 (M 7)] 213)):=hT.below hB0;clear hE heq
  gi_wp2
  obtain⟨W1,hW1⟩:∃W1,((((w.alloc (.cells #[.int .u64 (M 0),.int .u64 (M 1),.int .u64 (M 2),.int .u64 (M 3),.int .u64 (M 4),.int .u64 (M 5),.int .u64 (M 6),.int .u64 (M 7)] 213)).alloc (.cells #[.int .i64 0] 3)).alloc (.cells #[.int .i64 0] 3)).alloc (.cells #[.int .u64 (M 0),.int .u64 (M 1),.int .u64 (M 2),.int .u64 (M 3),.int .u64 (M 4),.int .u64 (M 5),.int .u64 (M 6),.int .u64 (M 7)] 213))=W1:=⟨_,rfl⟩;rw[hW1] at bR1 bR2 bX hB0 hsz hT0 ⊢;clear hW1;have h2:=hT.lt
  refine wpIn_rangeFunc_ownH rfl h1 (gf:=301) (lb:=#[.pointer (some ⟨w.heap.size+1+1+1,0,none⟩)]) rfl trivial (enters_of Tryz.func301 (by kernel_rfl) rfl)
   (each_stops (n-1) (by omega) hM hL (w.heap.size+1+1+1) (w.heap.size+4) W1 (by omega) (by omega) (by omega) bX hT0) belowK_t (belowK_b (by omega)) (Below.refl _ _) (fun _=>rfl)
   (fun pre W=>(pre=[]∧Boxed W (w.heap.size+1) 3 (.int .i64 0)∧Boxed W (w.heap.size+1+1) 3 (.int .i64 0)∧w.heap.size+4≤W.heap.size)∧Below w.heap.size w W)
   (fun c pre W=>(∃x,c=.ret∧pre=[x]∧Boxed W (w.heap.size+1) 3 (.int .i64 (x.1:Int))∧Boxed W (w.heap.size+1+1) 3 (.int .i64 (x.2:Int)))∧Below w.heap.size w W)
   (OwnFrom.and (fun s X Y row hs hg hr=>⟨hs.1,boxed_own _ 3 (fun(_:Unit)=>Value.int .i64 0) () X Y row hs.2.1 hg (fun r e=>(hr r e).2),boxed_own _ 3 (fun(_:Unit)=>Value.int .i64 0) () X Y row hs.2.2.1 hg (fun r e=>(hr r e).2),Nat.le_trans hs.2.2.2 hg.size⟩) (ownFrom_below (Nat.le_refl _) (by omega)))
   (fun c=>OwnFrom.and (fun s X Y row hs hg hr=>by obtain⟨x,e1,e2,e3,e4⟩:=hs;exact⟨x,e1,e2,boxed_own _ 3 (fun(_:Unit)=>Value.int .i64 (x.1:Int)) () X Y row e3 hg (fun r e=>(hr r e).2),boxed_own _ 3 (fun(_:Unit)=>Value.int .i64 (x.2:Int)) () X Y row e4 hg (fun r e=>(hr r e).2)⟩) (ownFrom_below (Nat.le_refl _) (by omega)))
   ⟨⟨rfl,bR1,bR2,by omega⟩,hB0⟩
   (fun x a' W=>∃Bx b7,w.heap.size+4≤Bx∧Blk W Bx #[.int .i64 (x.1:Int),.int .i64 (x.2:Int)] 309∧a'={ tmps:=#[.agg #[.int .u64 (M 0),.int .u64 (M 1),.int .u64 (M 2),.int .u64 (M 3),.int .u64 (M 4),.int .u64 (M 5),.int .u64 (M 6),.int .u64 (M 7)],.pointer (some ⟨w.heap.size,0,none⟩),.pointer (some ⟨w.heap.size+1,0,none⟩),.pointer (some ⟨w.heap.size+1+1,0,none⟩),.pointer (some ⟨Bx,0,none⟩),.agg #[.int .u64 (M 0),.int .u64 (M 1),.int .u64 (M 2),.int .u64 (M 3),.int .u64 (M 4),.int .u64 (M 5),.int .u64 (M 6),.int .u64 (M 7)],.agg #[.int .u64 0,.int .u64 0,.int .u64 0,.int .u64 0,.int .u64 0,.int .u64 0,.int .u64 0,.int .u64 0],b7,.agg #[.int .u64 (M 0),.int .u64 (M 1),.int .u64 (M 2),.int .u64 (M 3),.int .u64 (M 4),.int .u64 (M 5),.int .u64 (M 6),.int .u64 (M 7)],.func (.func 301) #[] #[.pointer (some ⟨w.heap.size+1+1+1,0,none⟩)],.agg #[.int .i64 (x.1:Int),.int .i64 (x.2:Int)],undef,undef,undef,undef],defers:=[] })
   (fun x a' _ X Y row hs hg hr=>by obtain⟨Bx,b7,e1,e2,e3⟩:=hs;exact⟨Bx,b7,e1,e2.kept hg (fun r e=>(hr r e).2),e3⟩)
   ?assign ?body ?done ?stop
  case assign=>
   rintro l pre x W K ⟨⟨hp,b1,b2,hz4⟩,hB1⟩ hK
   gi_wp2
   exact hK _ _ ((KeepsOthers.alloc _ _).from _) ((Below.refl _ W).alloc hz4 _) ⟨⟨hp,b1.alloc _,b2.alloc _,by simp;omega⟩,hB1.alloc hB1.size _⟩ ⟨W.heap.size,_,hz4,Blk.new W _ _,rfl⟩
  case body=>
   rintro l pre x a' W hl ⟨r,hr⟩ ⟨⟨rfl,b1,b2,hz4⟩,hB1⟩ ⟨Bx,b7,hBx,bX1,rfl⟩ hlt;have cX:W.cell? ⟨Bx,0,none⟩=some (.int .i64 (x.1:Int)):=bX1.cell 0 rfl;have dX:W.cell? ⟨Bx,1,none⟩=some (.int .i64 (x.2:Int)):=bX1.cell 1 rfl;have c1:=b1.cell;have c2:=b2.cell;have f1:=b1.frozen;have f2:=b2.frozen;have pb1':Boxed ((W.setCell ⟨w.heap.size+1,0,none⟩ (.int .i64 (x.1:Int))).setCell ⟨w.heap.size+1+1,0,none⟩ (.int .i64 (x.2:Int))) (w.heap.size+1) 3 (.int .i64 (x.1:Int)):=(b1.set (.int .i64 (x.1:Int))).kept (grownBy_setCell' _ _ _) (by simp);have b1':Boxed ((W.setCell ⟨w.heap.size+1,0,none⟩ (.int .i64 (x.1:Int))).setCell ⟨w.heap.size+1+1,0,none⟩ (.int .i64 (x.2:Int))).drew (w.heap.size+1) 3 (.int .i64 (x.1:Int)):=pb1';have pb2':Boxed ((W.setCell ⟨w.heap.size+1,0,none⟩ (.int .i64 (x.1:Int))).setCell ⟨w.heap.size+1+1,0,none⟩ (.int .i64 (x.2:Int))) (w.heap.size+1+1) 3 (.int .i64 (x.2:Int)):=(b2.kept (grownBy_setCell' _ _ _) (by simp)).set (.int .i64 (x.2:Int));have b2':Boxed ((W.setCell ⟨w.heap.size+1,0,none⟩ (.int .i64 (x.1:Int))).setCell ⟨w.heap.size+1+1,0,none⟩ (.int .i64 (x.2:Int))).drew (w.heap.size+1+1) 3 (.int .i64 (x.2:Int)):=pb2';have hBB:Below w.heap.size w ((W.setCell ⟨w.heap.size+1,0,none⟩ (.int .i64 (x.1:Int))).setCell ⟨w.heap.size+1+1,0,none⟩ (.int .i64 (x.2:Int))).drew:=((hB1.setCell (p:=⟨w.heap.size+1,0,none⟩) (by simp) _).setCell (p:=⟨w.heap.size+1+1,0,none⟩) (by simp;omega) _).drew;have hKO:KeepsOthers W ((W.setCell ⟨w.heap.size+1,0,none⟩ (.int .i64 (x.1:Int))).setCell ⟨w.heap.size+1+1,0,none⟩ (.int .i64 (x.2:Int))).drew:=((KeepsOthers.setCell _ _ _).trans (KeepsOthers.setCell _ _ _)).trans (KeepsOthers.drew _)
   gi_wp2
   gi_region
   all_goals gi_wp2
   all_goals exact⟨hKO.from _,⟨x,rfl,rfl,b1',b2'⟩,hBB⟩
  case done=>
   rintro D zs W hD rfl ⟨⟨hp,b1,b2,hz4⟩,hB1⟩ hK;have c1:=b1.cell;have c2:=b2.cell;have f1:=b1.frozen;have f2:=b2.frozen
   have hlow:lowK L=(-1,-1):=by unfold lowK;rw[hp]
   gi_wp2
   rw[hlow];have hK1:=(KeepsOthers.setCell W ⟨w.heap.size+1,0,none⟩ (.int .i64 (-1))).same D _ hK rfl;have hK':=(KeepsOthers.setCell _ ⟨w.heap.size+1+1,0,none⟩ (.int .i64 (-1))).same D _ hK1 rfl;refine⟨by simp,.inl ⟨_,_,rfl,run_takeDeferred hK',?_⟩⟩;have b1':Boxed ((W.setCell ⟨w.heap.size+1,0,none⟩ (.int .i64 (-1))).setCell ⟨w.heap.size+1+1,0,none⟩ (.int .i64 (-1))) (w.heap.size+1) 3 (.int .i64 (-1)):=(b1.set (.int .i64 (-1))).kept (grownBy_setCell' _ _ _) (by simp);have b2':Boxed ((W.setCell ⟨w.heap.size+1,0,none⟩ (.int .i64 (-1))).setCell ⟨w.heap.size+1+1,0,none⟩ (.int .i64 (-1))) (w.heap.size+1+1) 3 (.int .i64 (-1)):=(b2.kept (grownBy_setCell' _ _ _) (by simp)).set (.int .i64 (-1));have hc1:=cell_kept b1'.cell (grownBy_putObj' _ D (.deferred none)) (fun r e=>by cases e;exact⟨_,hK',rfl⟩);have hc2:=cell_kept b2'.cell (grownBy_putObj' _ D (.deferred none)) (fun r e=>by cases e;exact⟨_,hK',rfl⟩);refine⟨.tuple #[.int .i64 (-1),.int .i64 (-1)],?_,rfl,((hB1.setCell (p:=⟨w.heap.size+1,0,none⟩) (by simp) _).setCell (p:=⟨w.heap.size+1+1,0,none⟩) (by simp;omega) _).trans (belowK_b (w:=w) (Nat.le_refl _) _ D _ _ (by omega) hK' rfl rfl)⟩;simp[results,Tryz.f191,go_sem,hc1,hc2]
  case stop=>
   rintro D c pre W hD hpre ⟨⟨x,rfl,rfl,b1,b2⟩,hB1⟩ hK
   gi_wp2
   have hlow:lowK L=((x.1:Int),(x.2:Int)):=by
    obtain⟨t,ht⟩:=hpre;unfold lowK;rw[←ht];rfl
   refine⟨by simp,.inl ⟨_,_,rfl,run_takeDeferred hK,?_⟩⟩;have hc1:=cell_kept b1.cell (grownBy_putObj' _ D (.deferred none)) (fun r e=>by cases e;exact⟨_,hK,rfl⟩);have hc2:=cell_kept b2.cell (grownBy_putObj' _ D (.deferred none)) (fun r e=>by cases e;exact⟨_,hK,rfl⟩);rw[hlow];refine⟨.tuple #[.int .i64 (x.1:Int),.int .i64 (x.2:Int)],?_,rfl,hB1.trans (belowK_b (w:=w) (Nat.le_refl _) W D _ _ (by omega) hK rfl rfl)⟩;simp[results,Tryz.f191,go_sem,hc1,hc2]
theorem lowest_at {M:Nat→Nat} (hM:∀i,M i<18446744073709551616) {L:Nat→List Nat} (hL:∀l,l<8→Bits (M l) (nxtN (M l) 0) (L l)) (w:World) (hT:TabW w) :
 Calls Tryz.prog 191 #[.agg (arr8 M)] w fun e W'=>e=.returned (.tuple #[.int .i64 (lowK L).1,.int .i64 (lowK L).2])∧Below w.heap.size w W':=
 callsIn_wide.1 (lowest_in 3 (Nat.le_refl _) hM hL w hT)
end Go.Proofs.YtkndlfdpmpdihaaGreatDoor
namespace Go.Proofs.YtkndlfdpmpdihaaGreatDoor
open Go.RowKit Go.Ev Go.Mv
set_option linter.unusedVariables false
set_option linter.unusedSimpArgs false
set_option maxRecDepth 100000
section
variable {B:WB} {S:WS} {w w':World}
structure Told (B:WB) (S:WS) (k:Int×Int) (L:List Nat):Prop where
 tr:Trail S.c.link (firstOf (S.c.head k)) L
 ok:∀a∈L,a<B.c.room∧∃t,LiveAt S.p a t
 le:L.length≤64
def nextV (S:WS) (Ll Lo Lf:List Nat) (lo:Int):Int×Bool:=
 if Ll≠[] then(Lib.minOf (Ll.map (dlOf S)),true) else if 0≤lo then(Lib.minOf (Lo.map (dlOf S)),decide (Lo≠[])) else(Lib.minOf (Lf.map (dlOf S)),decide (Lf≠[]))
theorem next_none (h:WheelAt B S w) (hn:S.p.n=0):Calls Tryz.prog 122 #[.pointer (some ⟨B.b,0,none⟩)] w fun e w'=>e=.returned (.tuple #[.int .u64 0,.bool false])∧Below w.heap.size w w':=by
 have hlv:=wlive_at h;rw[hn] at hlv;rw[show ((0:Nat):Int)=0 from rfl] at hlv;go_enter Tryz.func122,Tryz.ntmps122
 go_wp2_with (go_at_call 72;refine hlv.mono ?_;rintro e w1 ⟨rfl,hb1⟩)
 refine bodyPost_ret (v:=.tuple #[.int .u64 0,.bool false]) ?_ rfl ⟨rfl,hb1⟩;simp[results,Tryz.results122,go_sem]
set_option maxHeartbeats 4000000 in
theorem next_some (h:WheelAt B S w) (hT:TabW w) (hm:∀i,S.m i<18446744073709551616) (hn:S.p.n≠0) {LB:Nat→List Nat} (hLB:∀l,l<8→Bits (S.m l) (nxtN (S.m l) 0) (LB l)) {Ll Lo Lf:List Nat}
 (h1:Told B S (-1,0) Ll) (h2:Told B S (lowK LB) Lo) (h3:Told B S (8,0) Lf) :
 Calls Tryz.prog 122 #[.pointer (some ⟨B.b,0,none⟩)] w fun e w'=>e=.returned (.tuple #[.int .u64 (nextV S Ll Lo Lf (lowK LB).1).1,.bool (nextV S Ll Lo Lf (lowK LB).1).2])∧Below w.heap.size w w':=by
 have hlw:=h.lt;obtain⟨n,hnn⟩:∃n,n=S.p.n:=⟨_,rfl⟩;have hlv:=wlive_at h;rw[←hnn] at hn hlv;clear hnn
 have hn':((n:Int)==0)=false:=by simp;exact hn
 obtain⟨⟨lo,so⟩,hlo⟩:∃k,k=lowK LB:=⟨_,rfl⟩;have hlow:=fun w hT=>lowest_at hm hLB w hT;rw[←hlo] at h2 hlow ⊢;simp only at hlow ⊢;clear hlo
 have hE1:Ll≠[]→nextV S Ll Lo Lf lo=(Lib.minOf (Ll.map (dlOf S)),true):=fun hc=>by unfold nextV;rw[if_pos hc]
 have hE2:Ll=[]→0≤lo→nextV S Ll Lo Lf lo=(Lib.minOf (Lo.map (dlOf S)),decide (Lo≠[])):=fun hc h0=>by unfold nextV;rw[if_neg (by simp[hc]),if_pos h0]
 have hE3:Ll=[]→lo<0→nextV S Ll Lo Lf lo=(Lib.minOf (Lf.map (dlOf S)),decide (Lf≠[])):=fun hc h0=>by unfold nextV;rw[if_neg (by simp[hc]),if_neg (by omega)]
 generalize nextV S Ll Lo Lf lo=rv at *;go_enter Tryz.func122,Tryz.ntmps122
 go_wp2_with (go_at_call 72;fail)
 refine hlv.mono ?_;rintro e w1 ⟨rfl,hb1⟩;have h1w:=h.below hb1 hlw
 go_wp2_with (first|(go_at_call 172;refine(late_at _).mono ?_;rintro e w2 ⟨rfl,hb2⟩)|(go_at_call 190;fail))
 have hB2:Below w.heap.size w w2:=hb1.trans (hb2.mono hb1.size);have h2w:=h.below hB2 hlw;refine(least_at h2w h1.tr h1.ok h1.le).mono ?_;rintro e w3 ⟨rfl,hb3⟩;have hB3:Below w.heap.size w w3:=hB2.trans (hb3.mono hB2.size);have h3w:=h.below hB3 hlw;have hT3:TabW w3:=hT.below hB3
 by_cases hc:Ll=[]
 ·have e1:decide (Ll≠[])=false:=by simp[hc]
  rw[e1];have hE2':=hE2 hc;have hE3':=hE3 hc;clear hE1 hE2 hE3 e1 hc;have c0:w3.cell? ⟨B.b,2,none⟩=some (.int .u64 (S.m 0)):=h3w.blk.cell 2 rfl;have c1:w3.cell? ⟨B.b,3,none⟩=some (.int .u64 (S.m 1)):=h3w.blk.cell 3 rfl;have c2:w3.cell? ⟨B.b,4,none⟩=some (.int .u64 (S.m 2)):=h3w.blk.cell 4 rfl;have c3:w3.cell? ⟨B.b,5,none⟩=some (.int .u64 (S.m 3)):=h3w.blk.cell 5 rfl;have c4:w3.cell? ⟨B.b,6,none⟩=some (.int .u64 (S.m 4)):=h3w.blk.cell 6 rfl;have c5:w3.cell? ⟨B.b,7,none⟩=some (.int .u64 (S.m 5)):=h3w.blk.cell 7 rfl;have c6:w3.cell? ⟨B.b,8,none⟩=some (.int .u64 (S.m 6)):=h3w.blk.cell 8 rfl;have c7:w3.cell? ⟨B.b,9,none⟩=some (.int .u64 (S.m 7)):=h3w.blk.cell 9 rfl;have hlw3:=hlow w3 hT3;unfold arr8 at hlw3
  go_wp2_with (go_at_call 191;fail)
  refine hlw3.mono ?_;rintro e w4 ⟨rfl,hb4⟩;have hB4:Below w.heap.size w w4:=hB3.trans (hb4.mono hB3.size);have h4w:=h.below hB4 hlw
  by_cases h0:0≤lo
  ·have hE:=hE2' h0
   clear hE2' hE3' c0 c1 c2 c3 c4 c5 c6 c7
   go_wp2_with (go_at_call 190;refine(least_at h4w h2.tr h2.ok h2.le).mono ?_;rintro e w5 ⟨rfl,hb5⟩)
   refine bodyPost_ret (v:=.tuple #[.int .u64 (Lib.minOf (Lo.map (dlOf S))),.bool (decide (Lo≠[]))]) ?_ rfl ⟨by rw[hE],hB4.trans (hb5.mono hB4.size)⟩;simp[results,Tryz.results122,go_sem]
  ·have h0':lo<0:=by omega
   have hE:=hE3' h0';clear hE2' hE3' h0 c0 c1 c2 c3 c4 c5 c6 c7
   go_wp2_with (first|(go_at_call 174;refine(far_at _).mono ?_;rintro e w5 ⟨rfl,hb5⟩;have hB5:=hB4.trans (hb5.mono hB4.size);have h5w:=h.below hB5 hlw)|(go_at_call 190;refine(least_at h5w h3.tr h3.ok h3.le).mono ?_;rintro e w6 ⟨rfl,hb6⟩))
   refine bodyPost_ret (v:=.tuple #[.int .u64 (Lib.minOf (Lf.map (dlOf S))),.bool (decide (Lf≠[]))]) ?_ rfl ⟨by rw[hE],hB5.trans (hb6.mono hB5.size)⟩;simp[results,Tryz.results122,go_sem]
 ·have e1:decide (Ll≠[])=true:=by simp[hc]
  have hE:=hE1 hc;rw[e1];clear hE1 hE2 hE3 e1 hc;go_wp2;refine bodyPost_ret (v:=.tuple #[.int .u64 (Lib.minOf (Ll.map (dlOf S))),.bool true]) ?_ rfl ⟨by rw[hE],hB3⟩;simp[results,Tryz.results122,go_sem]
end
end Go.Proofs.YtkndlfdpmpdihaaGreatDoor
