/- The log: what it holds. The log: a copy of what it holds. The service: what fired. The log as a service keeps it. The wheel's law: one more, and the least of all; plain law. The wheel as a service keeps it: free places, how many there are; plain law. A new port: its gaps are copied. A new service an Conditions: those that each statement shows. -/
import Derived.Test.YtkndlfdpmpdihaaGreatDoorY42
import Derived.Test.YtkndlfdpmpdihaaGreatDoorY20
import Derived.Test.YtkndlfdpmpdihaaGreatDoorY18
import Derived.Test.YtkndlfdpmpdihaaGreatDoorY16
import Derived.ArgAppend
import Derived.Test.YtkndlfdpmpdihaaGreatDoorRows
import Derived.Test.YtkndlfdpmpdihaaGreatDoorY36
import Derived.Deep.Slices
import Derived.ChangeArms
import Derived.ProofKit
import Derived.LaidMore
import Derived.Lib.LaidTab
namespace Go.Proofs.YtkndlfdpmpdihaaGreatDoor
open Go.RowKit Go.Ev Go.Mv
set_option linter.unusedVariables false
set_option linter.unusedSimpArgs false
set_option maxRecDepth 100000
theorem all130 {w:World} {lb mb:Nat} {v:Value} (hL:Blk w lb #[v,.map (some mb)] 242):Calls Tryz.prog 130 #[.pointer (some ⟨lb,0,none⟩)] w fun e w'=>e=.returned v∧w'=w:=by
 have c0:w.cell? ⟨lb,0,none⟩=some v:=hL.cell 0 rfl;go_enter Tryz.func130,Tryz.ntmps130;go_wp2;refine bodyPost_ret (v:=v) ?_ rfl ⟨rfl,rfl⟩;simp[results,Tryz.results130,go_sem]
end Go.Proofs.YtkndlfdpmpdihaaGreatDoor
namespace Go.Proofs.YtkndlfdpmpdihaaGreatDoor
open Go.RowKit Go.Ev Go.Mv
set_option linter.unusedVariables false
set_option linter.unusedSimpArgs false
set_option maxRecDepth 100000
set_option maxHeartbeats 2000000 in
theorem clone129 {w:World} {nL m g cap:Nat} {xs:List Value} (hv:w.ownsRow nL 71 4 (.slice (some ⟨g,0,none⟩) m cap) m xs) (hm:0<m) (hm2:m<1000000) (h1:∀u∈xs,u.oneCell'=true):Calls Tryz.prog 129 #[.slice (some ⟨g,0,none⟩) m cap] w fun e w'=>∃v,e=.returned v∧w'.ownsRow w.heap.size 71 4 v m xs∧Below w.heap.size w w':=by
 obtain⟨i0,ji,js0,js1,js2⟩:=info_parts info71;have hxl:=hv.1
 have hcs:∀(W:World),Below w.heap.size w W→∀j u,xs[j]?=some u→W.cell? ((⟨g,0,none⟩:Addr).add j)=some u:=fun W hW j u hj=>by
  have hv2:=rows_tch (X:=fun _=>False) hv (Tch.of_below hW) (fun k e=>e.elim);exact hv2.cells (g:=g) rfl j u hj
 have heq:∀w,(binOp BinOp.eql 68 (.slice (some ⟨g,0,none⟩) m cap) (.slice none 0 0)).run Tryz.prog w=.ok (.bool false) w:=fun w=>by kernel_rfl
 go_enter Tryz.func129,Tryz.ntmps129
 go_wp2_with (at_builtin;refine wpList_append_grows _ rfl (.tmp 5) (.tmp 6) 68 rfl 71 i0 (.agg #[.int .u64 0,.int .u64 0,.int .u64 0,.int .i64 0]) 4 32 under68 ji js0 js1 js2 rfl (by decide) (some ⟨w.heap.size,0,none⟩) 0 0 [] rfl (by simp) rfl (by intro _ _ j u hj;simp at hj) ⟨g,0,none⟩ m cap xs rfl hxl (hcs _ ((Below.refl _ _).alloc (Nat.le_refl _) _)) h1 (by omega) (by unfold maxLen;omega) (by omega) ?_)
 intro v1 w1 hown hgrow;have hB:Below w.heap.size w w1:=((Below.refl _ w).alloc (Nat.le_refl _) _).grown hgrow (by simp) (fun k e=>by cases e);have hr:=rows_base hown (Nat.le_succ w.heap.size);clear hown hgrow hcs hv;go_wp2;refine bodyPost_ret (v:=v1) ?_ rfl ⟨v1,rfl,hr,hB⟩;simp[results,Tryz.results129,go_sem]
theorem fires73 {w:World} {lb mb nL m g cap:Nat} {xs:List Value} (hL:Blk w lb #[.slice (some ⟨g,0,none⟩) m cap,.map (some mb)] 242) (hv:w.ownsRow nL 71 4 (.slice (some ⟨g,0,none⟩) m cap) m xs) (hm:0<m) (hm2:m<1000000) (h1:∀u∈xs,u.oneCell'=true) :
 Calls Tryz.prog 73 #[.pointer (some ⟨lb,0,none⟩)] w fun e w'=>∃v,e=.returned v∧w'.ownsRow w.heap.size 71 4 v m xs∧Below w.heap.size w w':=by
 have ha:=all130 hL;have hc:=clone129 hv hm hm2 h1;clear hL hv h1;go_enter Tryz.func73,Tryz.ntmps73
 go_wp2_with (go_at_call 130;fail)
 refine ha.mono ?_;rintro e w1 ⟨rfl,rfl⟩
 go_wp2_with (go_at_call 129;fail)
 refine hc.mono ?_;rintro e w2 ⟨v,rfl,hr,hb⟩;go_wp2;refine bodyPost_ret (v:=v) ?_ rfl ⟨v,rfl,hr,hb⟩;simp[results,Tryz.results73,go_sem]
end Go.Proofs.YtkndlfdpmpdihaaGreatDoor
namespace Go.Proofs.YtkndlfdpmpdihaaGreatDoor
open Go.RowKit Go.Ev Go.Mv
set_option linter.unusedVariables false
set_option linter.unusedSimpArgs false
set_option maxRecDepth 100000
theorem sfires31 {I:BI} {B:WB} {Z:SB} {a:I.A} {S:WS} {w:World} {lb mb nL m g cap:Nat} {xs:List Value} (h:SvcAt I B Z a S w) (hz:Z.v4=.pointer (some ⟨lb,0,none⟩)) (hL:Blk w lb #[.slice (some ⟨g,0,none⟩) m cap,.map (some mb)] 242) (hv:w.ownsRow nL 71 4 (.slice (some ⟨g,0,none⟩) m cap) m xs) (hm:0<m) (hm2:m<1000000) (h1:∀u∈xs,u.oneCell'=true) :
 Calls Tryz.prog 31 #[.pointer (some ⟨Z.b,0,none⟩)] w fun e w'=>∃v,e=.returned v∧w'.ownsRow w.heap.size 71 4 v m xs∧Below w.heap.size w w':=by
 have hf:=fires73 hL hv hm hm2 h1
 have c4:w.cell? ⟨Z.b,4,none⟩=some (.pointer (some ⟨lb,0,none⟩)):=by rw[←hz];exact h.blk.cell 4 rfl
 clear hL hv h1 h hz;go_enter Tryz.func31,Tryz.ntmps31
 go_wp2_with (go_at_call 73;fail)
 refine hf.mono ?_;rintro e w2 ⟨v,rfl,hr,hb⟩;go_wp2;refine bodyPost_ret (v:=v) ?_ rfl ⟨v,rfl,hr,hb⟩;simp[results,Tryz.results31,go_sem]
def fireC (x:Nat×Nat×Nat×Int):List Value:=[.int .u64 (x.1:Int),.int .u64 (x.2.1:Int),.int .u64 (x.2.2.1:Int),.int .i64 x.2.2.2]
def fireCells (l:List (Nat×Nat×Nat×Int)):List Value:=l.flatMap fireC
theorem fireCells_app (l l':List (Nat×Nat×Nat×Int)):fireCells (l++l')=fireCells l++fireCells l':=by
 unfold fireCells;rw[List.flatMap_append]
theorem fireCells_one (l:List (Nat×Nat×Nat×Int)):∀u∈fireCells l,u.oneCell'=true:=by
 intro u hu;obtain⟨x,_,hx⟩:=List.mem_flatMap.1 hu;unfold fireC at hx;simp at hx
 rcases hx with rfl|rfl|rfl|rfl<;>rfl
def LogAt (lb mb nL:Nat) (fs:List (Nat×Nat×Nat×Int)) (w:World):Prop:=
 ∃v f n,Blk w lb #[v,.map (some mb)] 242∧MapIs UP w mb f n∧w.ownsRow nL 71 4 v fs.length (fireCells fs)∧(fs=[]→v=.slice none 0 0)∧(fs≠[]→∃g cap,v=.slice (some ⟨g,0,none⟩) fs.length cap)∧∀k,∃c:Nat,c≤fs.length∧(f k).getD (.int .i64 0)=.int .i64 (c:Int)
section
variable {lb mb nL:Nat} {fs:List (Nat×Nat×Nat×Int)} {w w':World}
theorem LogAt.tch (h:LogAt lb mb nL fs w) {X:Nat→Prop} (ht:Tch X w w') (h1:¬X lb) (h2:¬X mb) (hx:∀k,X k→nL≤k→w.heap.size≤k):LogAt lb mb nL fs w':=by
 obtain⟨v,f,n,a,b,c,d,e,g⟩:=h;exact⟨v,f,n,(ht.block _ a.lt h1).trans a,b.tch ht h2,rows_keep c ht hx,d,e,g⟩
theorem LogAt.below (h:LogAt lb mb nL fs w) (hb:Below w.heap.size w w'):LogAt lb mb nL fs w':=h.tch (X:=fun _=>False) (Tch.of_below hb) (fun e=>e) (fun e=>e) (fun _ e=>e.elim)
theorem LogAt.set (h:LogAt lb mb nL fs w) {x:Nat} {vs:Array Value} {T:TypeId} (hx:Blk w x vs T) (hT:T≠71) (h1:lb≠x) (h2:mb≠x) (ht:Tch (fun r=>r=x) w w'):LogAt lb mb nL fs w':=by
 obtain⟨v,f,n,a,b,c,d,e,g⟩:=h;refine⟨v,f,n,(ht.block _ a.lt h1).trans a,b.tch ht h2,⟨c.1,?_⟩,d,e,g⟩;rcases c.2 with h3|⟨g',cap,cur,k1,k2,k3,k4⟩
 ·exact .inl h3
 ·refine .inr ⟨g',cap,cur,k1,k2,(ht.block _ (Array.getElem?_eq_some_iff.1 k3).1 ?_).trans k3,k4⟩
  rintro rfl;rw[show w.heap[g']?=some (.cells vs T (0,0)) from hx] at k3;cases k3;exact hT rfl
theorem log0 (nL:Nat) (h:Blk w lb #[.slice none 0 0,.map (some mb)] 242) (hm:w.heap[mb]?=some (.map #[] 0)):LogAt lb mb nL [] w:=
 ⟨_,fun _=>none,0,h,⟨_,_,hm,⟨by simp,List.Pairwise.nil,List.Pairwise.nil,by simp,fun a=>rfl,rfl⟩⟩,World.ownsRow_nil _ _ _ _,fun _=>rfl,fun h=>absurd rfl h,fun k=>⟨0,Nat.le_refl _,rfl⟩⟩
theorem log_add (h:LogAt lb mb nL fs w) (hne:lb≠mb) (hnL:nL≤w.heap.size) (hlb:lb<nL) (hmb:mb<nL) (hl:fs.length<1000000) {hd d t:Nat} (hh:hd<18446744073709551616) :
 Calls Tryz.prog 69 #[.pointer (some ⟨lb,0,none⟩),.int .u64 hd,.int .u64 d,.int .u64 t] w fun e w'=>∃c:Int,e=.returned (.agg #[.int .u64 hd,.int .u64 d,.int .u64 t,.int .i64 c])∧LogAt lb mb nL (fs++[(hd,d,t,c)]) w'∧Tch (fun r=>r=lb∨r=mb∨nL≤r) w w'∧Kept 71 nL w w':=by
 obtain⟨v,f,n,a,b,c,_,_,g⟩:=h;obtain⟨k,hk1,hk2⟩:=g (((hd/4096:Nat):Int),((hd%4096:Nat):Int));refine(add69 a b hne b.lt c hnL hlb hmb hl hh (by omega) hk2).mono ?_;rintro e w' ⟨rfl,gg,cap,n4,r1,r2,r3,r4,r5⟩;refine⟨(k:Int)+1,rfl,⟨_,_,n4,r2,r5,?_,fun e=>by simp at e,fun _=>⟨gg,cap,by simp⟩,fun x=>?_⟩,r3,r4⟩
 ·rw[fireCells_app,List.length_append]
  exact r1
 ·by_cases e:x=(((hd/4096:Nat):Int),((hd%4096:Nat):Int))
  ·subst e
   rw[fset_same];exact⟨k+1,by simp;omega,by simp⟩
  ·rw[fset_ne _ _ e]
   obtain⟨c,h1,h2⟩:=g x;exact⟨c,by simp;omega,h2⟩
theorem clone0 (w:World):Calls Tryz.prog 129 #[.slice none 0 0] w fun e w'=>e=.returned (.slice none 0 0)∧w'=w:=by
 have heq:∀w,(binOp BinOp.eql 68 (.slice none 0 0) (.slice none 0 0)).run Tryz.prog w=.ok (.bool true) w:=fun w=>by kernel_rfl
 go_enter Tryz.func129,Tryz.ntmps129;go_wp2;refine bodyPost_ret (v:=.slice none 0 0) ?_ rfl ⟨rfl,rfl⟩;simp[results,Tryz.results129,go_sem]
theorem fires0 (h:Blk w lb #[.slice none 0 0,.map (some mb)] 242):Calls Tryz.prog 73 #[.pointer (some ⟨lb,0,none⟩)] w fun e w'=>e=.returned (.slice none 0 0)∧w'=w:=by
 have ha:=all130 h;go_enter Tryz.func73,Tryz.ntmps73
 go_wp2_with (first|(go_at_call 130;refine ha.mono ?_;rintro e w1 ⟨rfl,rfl⟩)|(go_at_call 129;refine(clone0 _).mono ?_;rintro e w1 ⟨rfl,rfl⟩))
 refine bodyPost_ret (v:=.slice none 0 0) ?_ rfl ⟨rfl,rfl⟩;simp[results,Tryz.results73,go_sem]
theorem sfires_log {I:BI} {B:WB} {Z:SB} {a:I.A} {S:WS} (h:SvcAt I B Z a S w) (hz:Z.v4=.pointer (some ⟨lb,0,none⟩)) (hl:LogAt lb mb nL fs w) (hm:fs.length<1000000) :
 Calls Tryz.prog 31 #[.pointer (some ⟨Z.b,0,none⟩)] w fun e w'=>∃v,e=.returned v∧w'.ownsRow w.heap.size 71 4 v fs.length (fireCells fs)∧Below w.heap.size w w':=by
 obtain⟨v,f,n,q1,q2,q3,q4,q5,q6⟩:=hl
 by_cases hf:fs=[]
 ·have e4:=q4 hf
  subst e4;subst hf;have hf:=fires0 q1
  have c4:w.cell? ⟨Z.b,4,none⟩=some (.pointer (some ⟨lb,0,none⟩)):=by rw[←hz];exact h.blk.cell 4 rfl
  clear q1 q2 q3 q4 q5 q6 h hz;go_enter Tryz.func31,Tryz.ntmps31
  go_wp2_with (go_at_call 73;refine hf.mono ?_;rintro e w1 ⟨rfl,rfl⟩)
  refine bodyPost_ret (v:=.slice none 0 0) ?_ rfl ⟨_,rfl,World.ownsRow_nil _ _ _ _,Below.refl _ _⟩;simp[results,Tryz.results31,go_sem]
 ·obtain⟨g,cap,e5⟩:=q5 hf
  subst e5;exact sfires31 h hz q1 q3 (List.length_pos_iff.2 hf) hm (fireCells_one fs)
end
theorem minOf_spec:∀ {zs:List Int},zs≠[]→Lib.minOf zs∈zs∧∀z∈zs,Lib.minOf zs≤z:=by
 intro zs h;unfold Lib.minOf
 have key:∀(l:List Int) (i:Int),(l.foldl min i=i∨l.foldl min i∈l)∧l.foldl min i≤i∧∀z∈l,l.foldl min i≤z:=by
  intro l
  induction l with
  |nil=>exact fun i=>⟨.inl rfl,Int.le_refl _,fun z hz=>by cases hz⟩
  |cons a l ih=>
    intro i;obtain⟨h1,h2,h3⟩:=ih (min i a);rw[List.foldl_cons];refine⟨?_,Int.le_trans h2 (Int.min_le_left _ _),fun z hz=>?_⟩
    ·rcases h1 with h1|h1
     ·rw[h1,Int.min_def]
      split
      ·exact .inl rfl
      ·exact .inr (by simp)
     ·exact .inr (List.mem_cons_of_mem _ h1)
    ·rcases List.mem_cons.1 hz with rfl|hz
     ·exact Int.le_trans h2 (Int.min_le_right _ _)
     ·exact h3 z hz
 cases zs with
 |nil=>exact absurd rfl h
 |cons a l=>
   obtain⟨h1,h2,h3⟩:=key (a::l) a;exact⟨h1.elim (fun e=>by rw[show (a::l).headD 0=a from rfl,e];simp) id,h3⟩
def Least (p:PS) (c:Nat):Prop:=(∀a t,p.ent a=some t→c≤t.d)∧((∃a t,p.ent a=some t∧t.d=c)∨((∀a,p.ent a=none)∧c=18446744073709551615))
section
variable {B:WB} {S:WS} {ls:Int×Int→List Nat}
theorem nextV_head {L:Nat→List Nat} {k0:Int×Int} {K:List (Int×Int)} (hK:placesL ls L=k0::K) (h0:ls k0≠[]):nextV S (ls (-1,0)) (ls (lowK L)) (ls (8,0)) (lowK L).1=(Lib.minOf ((ls k0).map (dlOf S)),true):=by
 unfold placesL at hK;unfold nextV
 by_cases hc:ls (-1,0)=[]
 ·rw[if_neg (by simp[hc])]
  rw[if_pos hc,List.nil_append] at hK
  cases hu:upToL L 8 with
  |nil=>
    have hl:lowK L=(-1,-1):=by unfold lowK;rw[hu]
    rw[hl,if_neg (by decide)];rw[hu,List.map_nil,List.nil_append] at hK;split at hK
    ·cases hK
    ·cases hK
     rename_i h8;simp[h8]
  |cons x l=>
    have hl:lowK L=((x.1:Int),(x.2:Int)):=by unfold lowK;rw[hu]
    rw[hu,List.map_cons,List.cons_append] at hK;have e:=(List.cons.inj hK).1;rw[hl,if_pos (by show (0:Int)≤(x.1:Int);omega),e];simp[h0]
 ·rw[if_pos hc]
  rw[if_neg hc] at hK;have e:(-1,0)=k0:=(List.cons.inj hK).1;rw[←e]
theorem WMid.nxt (h:WMid B S ls S.base (fun _=>False)) (hn:S.p.n=0↔∀a,S.p.ent a=none):∃v b,Nx B S v b∧Least S.p (if b then v else 18446744073709551615):=by
 by_cases hn0:S.p.n=0
 ·have h0:=hn.1 hn0
  refine⟨0,false,⟨by omega,fun w hw _=>next_none hw hn0⟩,fun a t ha=>?_,.inr ⟨h0,rfl⟩⟩;rw[h0 a] at ha;cases ha
 ·obtain⟨LB,hLB⟩:=h.ok.bits
  have hin:∀a t,S.p.ent a=some t→a∈ls (placeOf S.base t.d):=fun a t ht=>(h.all a t ht).resolve_left id
  obtain⟨a0,t0,ht0⟩:∃a t,S.p.ent a=some t:=by
   apply Classical.byContradiction;intro hc;refine hn0 (hn.2 fun a=>?_)
   cases he:S.p.ent a with
   |none=>rfl
   |some t=>exact absurd ⟨a,t,he⟩ hc
  have hmem:∀k,k∈placesL ls LB↔ls k≠[]:=h.mem_places hLB;have hsort:=h.sorted hLB;have hk0:placeOf S.base t0.d∈placesL ls LB:=(hmem _).2 (fun e=>by have:=hin a0 t0 ht0;rw[e] at this;cases this)
  cases hK:placesL ls LB with
  |nil=>rw[hK] at hk0;cases hk0
  |cons k0 K=>
    have h0:ls k0≠[]:=(hmem k0).1 (by rw[hK];simp);have hV:=nextV_head (S:=S) hK h0;obtain⟨m1,m2⟩:=minOf_spec (zs:=(ls k0).map (dlOf S)) (by simp[h0]);obtain⟨a,ha,hm⟩:=List.mem_map.1 m1;obtain⟨t,ht,hp⟩:=h.pl k0 a ha;obtain⟨t',hL',ht'⟩:=h.ok.live k0 a ha
    have ett:t'=t:=by have:=hL'.ent;rw[ht] at this;cases this;rfl
    rw[ett] at ht'
    have hd:dlOf S a=(t.d:Int):=by unfold dlOf;rw[ht]
    rw[←hm,hd] at m2;rw[←hm,hd] at hV;refine⟨t.d,true,⟨ht',fun w hw hT=>?_⟩,fun a' t' hta=>?_,.inl ⟨a,t,ht,rfl⟩⟩
    ·have:=next_some hw hT h.ok.m hn0 hLB (h.ok.told (-1,0)) (h.ok.told (lowK LB)) (h.ok.told (8,0))
     rw[hV] at this;exact this
    ·show t.d≤t'.d
     have ha':=hin a' t' hta;have hk':placeOf S.base t'.d∈placesL ls LB:=(hmem _).2 (fun e=>by rw[e] at ha';cases ha');rw[hK,List.mem_cons] at hk';rcases hk' with e|hk'
     ·rw[e] at ha'
      have:=m2 _ (List.mem_map.2 ⟨a',ha',rfl⟩)
      have hd':dlOf S a'=(t'.d:Int):=by unfold dlOf;rw[hta]
      rw[hd'] at this;omega
     ·rw[hK,List.pairwise_cons] at hsort
      have hlt:=hsort.1 _ hk';obtain⟨f,hf,hle⟩:=(pl_of S.base t'.d).span;have:=hp.ahead hf hlt;omega
theorem WMid.add (h:WMid B S ls S.base (fun _=>False)) {a d p:Nat} (hd:d<18446744073709551616) (hac:a<B.c.room) (hn:S.p.ent a=none) (hg:S.p.gen a<4294967295) :
 (∀k,a∉ls k)∧WMid B (S.add a d p) (fset ls (placeOf S.base d) (ls (placeOf S.base d)++[a])) S.base (fun _=>False):=by
 have hroom:=h.ok.room
 have hout:∀k,a∉ls k:=fun k hk=>by
  obtain⟨t,ht,_⟩:=h.pl k a hk;rw[hn] at ht;cases ht
 have hne:∀ {k x},x∈ls k→x≠a:=fun{k x} hx e=>hout k (e ▸ hx)
 have h1:WMid B { S with p:=⟨fset S.p.ent a (some ⟨d,p,S.order⟩),S.p.gen,S.p.n+1,markW S.p.word a true⟩,order:=S.order+1 } ls S.base (fun x=>x=a):=by
  refine⟨⟨h.ok.ch,fun k x hx=>?_,h.ok.m,hroom⟩,fun k x hx=>?_,fun x t hx=>?_,fun x hx=>?_,h.bits⟩
  ·obtain⟨t,hL,ht⟩:=h.ok.live k x hx
   exact⟨t,⟨(fset_ne _ _ (hne hx)).trans hL.ent,hL.lt,hL.gen⟩,ht⟩
  ·obtain⟨t,ht,hp⟩:=h.pl k x hx
   exact⟨t,(fset_ne _ _ (hne hx)).trans ht,hp⟩
  ·by_cases e:x=a
   ·exact .inl e
   ·have hx':S.p.ent x=some t:=(fset_ne _ _ e).symm.trans hx
    exact(h.all x t hx').imp (fun e=>e.elim) id
  ·subst hx
   exact⟨hout,hac,⟨d,p,S.order⟩,⟨fset_same _ _ _,by omega,hg⟩,hd⟩
 refine⟨hout,?_⟩;have h2:=(h1.push rfl (a:=a) rfl (t:=⟨d,p,S.order⟩) (fset_same _ _ _)).2;exact h2.congr (fun _=>rfl) (fun x=>⟨fun e=>e.elim,fun e=>e.2 e.1⟩)
end
def cntN (f:Nat→Option Tm):Nat→Nat
 | 0=>0
 |r+1=>cntN f r+if (f r).isSome then 1 else 0
theorem cntN_out (f:Nat→Option Tm) (a:Nat) (x:Option Tm):∀r,r≤a→cntN (fset f a x) r=cntN f r
 | 0,_=>rfl
 |r+1,h=>by
   show cntN (fset f a x) r+_=cntN f r+_;rw[cntN_out f a x r (by omega),fset_ne _ _ (by omega)]
theorem cntN_in (f:Nat→Option Tm) (a:Nat) (t:Tm) (ha:f a=none):∀r,a<r→cntN (fset f a (some t)) r=cntN f r+1
 | 0,h=>by omega
 |r+1,h=>by
   show cntN (fset f a (some t)) r+_=cntN f r+_+1
   by_cases e:a=r
   ·subst e
    rw[cntN_out f a (some t) a (Nat.le_refl _),fset_same,ha];simp
   ·rw[cntN_in f a t ha r (by omega),fset_ne _ _ (by omega)]
    omega
theorem cntN_off (f:Nat→Option Tm) (a:Nat) (t:Tm) (ha:f a=some t):∀r,a<r→cntN (fset f a none) r+1=cntN f r
 | 0,h=>by omega
 |r+1,h=>by
   show cntN (fset f a none) r+_+1=cntN f r+_
   by_cases e:a=r
   ·subst e
    rw[cntN_out f a none a (Nat.le_refl _),fset_same,ha];simp
   ·have:=cntN_off f a t ha r (by omega)
    rw[fset_ne _ _ (by omega)];omega
theorem cntN_zero (f:Nat→Option Tm):∀r,cntN f r=0↔∀a,a<r→f a=none
 | 0=>⟨fun _ a h=>by omega,fun _=>rfl⟩
 |r+1=>by
   show cntN f r+_=0↔_;have ih:=cntN_zero f r;constructor
   ·intro h a ha
    have h1:cntN f r=0:=by omega
    by_cases e:a=r
    ·subst e
     cases hf:f a with
     |none=>rfl
     |some t=>rw[hf] at h;simp at h
    ·exact ih.1 h1 a (by omega)
   ·intro h
    rw[ih.2 (fun a ha=>h a (by omega)),h r (by omega)];rfl
theorem cntN_free (f:Nat→Option Tm):∀r,cntN f r<r→∃a,a<r∧f a=none
 | 0,h=>by omega
 |r+1,h=>by
   have h:cntN f r+(if (f r).isSome then 1 else 0)<r+1:=h
   cases hf:f r with
   |none=>exact⟨r,by omega,hf⟩
   |some t=>
     rw[hf] at h;simp only[Option.isSome_some,if_true] at h;obtain⟨a,h1,h2⟩:=cntN_free f r (by omega);exact⟨a,by omega,h2⟩
theorem mark_on {w a s:Nat} (ha:a<64) (hs:s<64):(markW w a true).testBit s=(decide (s=a) || w.testBit s):=by
 unfold markW;rw[if_pos rfl,Nat.testBit_or,Nat.testBit_and,drop_bit ha hs,two_bit]
 by_cases e:a=s
 ·subst e;simp
 ·have e':s≠a:=fun h=>e h.symm
  simp[e,e']
theorem mark_off {w a s:Nat} (ha:a<64) (hs:s<64):(markW w a false).testBit s=(decide (s≠a)&&w.testBit s):=by
 unfold markW;rw[if_neg (by decide),Nat.testBit_and,drop_bit ha hs]
 by_cases e:a=s
 ·subst e;simp
 ·have e':s≠a:=fun h=>e h.symm
  simp[e,e']
theorem markW_lt {w a:Nat} (b:Bool) (ha:a<64) (hw:w<18446744073709551616):markW w a b<18446744073709551616:=by
 have h1:w &&& (2^64-1-2^a)<18446744073709551616:=Nat.lt_of_le_of_lt Nat.and_le_left hw;have h2:2^a<2^64:=Nat.pow_lt_pow_right (by omega) ha;unfold markW;split
 ·exact Nat.or_lt_two_pow (n:=64) h1 h2
 ·exact h1
theorem nt_bit {w s:Nat} (hw:w<18446744073709551616) (hs:s<64):(18446744073709551615-w).testBit s=!w.testBit s:=by
 have:=Nat.testBit_two_pow_sub_succ (n:=64) (x:=w) hw s;rw[show 2^64-(w+1)=18446744073709551615-w from by omega] at this;rw[this];simp[hs]
structure PoolOk (p:PS) (r:Nat):Prop where
 cnt:p.n=cntN p.ent r
 out:∀a,r≤a→p.ent a=none
 bit:∀a,a<64→p.word.testBit a=(p.ent a).isSome
 word:p.word<18446744073709551616
 per:∀a t,p.ent a=some t→t.p=0
section
variable {p:PS} {r:Nat}
theorem PoolOk.lt (h:PoolOk p r) {a:Nat} {t:Tm} (ha:p.ent a=some t):a<r:=by
 apply Classical.byContradiction;intro hc;rw[h.out a (by omega)] at ha;cases ha
theorem PoolOk.zero (h:PoolOk p r):p.n=0↔∀a,p.ent a=none:=by
 rw[h.cnt,cntN_zero];exact⟨fun e a=>if ha:a<r then e a ha else h.out a (by omega),fun e a _=>e a⟩
theorem PoolOk.free (h:PoolOk p r) (hr:r≤64) (hn:p.n<r):∃a,a<r∧p.ent a=none∧(∀x,x<a→p.ent x≠none)∧firstN (18446744073709551615-p.word) 0=(a:Int):=by
 obtain⟨x,hx,hf⟩:=cntN_free p.ent r (by rw[←h.cnt];exact hn);have hw:=h.word
 have hb:∀s,s<64→(18446744073709551615-p.word).testBit s=!(p.ent s).isSome:=fun s hs=>by rw[nt_bit hw hs,h.bit s hs]
 have e:nxtN (18446744073709551615-p.word) 0=firstN (18446744073709551615-p.word) 0:=by unfold nxtN;rw[if_pos (by omega)]
 rcases nxt_spec (18446744073709551615-p.word) (by omega) 0 (by omega) with⟨_,h1⟩|⟨a,h0,_,h2,h3,h4⟩
 ·have:=h1 x (Nat.zero_le _) (by omega)
  rw[hb x (by omega),hf] at this;cases this
 ·rw[hb a h2] at h3
  have hax:a≤x:=by
   apply Classical.byContradiction;intro hc;have:=h4 x (Nat.zero_le _) (by omega);rw[hb x (by omega),hf] at this;cases this
  refine⟨a,by omega,?_,fun y hy hc=>?_,by rw[←e];exact h0⟩
  ·cases he:p.ent a with
   |none=>rfl
   |some t=>rw[he] at h3;cases h3
  ·have:=h4 y (Nat.zero_le _) hy
   rw[hb y (by omega),hc] at this;cases this
theorem PoolOk.put (h:PoolOk p r) (hr:r≤64) {a d o:Nat} (ha:a<r) (hn:p.ent a=none):PoolOk ⟨fset p.ent a (some ⟨d,0,o⟩),p.gen,p.n+1,markW p.word a true⟩ r:=by
 refine⟨?_,fun x hx=>?_,fun x hx=>?_,(show markW p.word a true<_ from markW_lt true (by omega) h.word),fun x t hx=>?_⟩
 ·show p.n+1=cntN (fset p.ent a _) r
  rw[cntN_in p.ent a _ hn r ha,h.cnt]
 ·exact(fset_ne _ _ (by omega)).trans (h.out x hx)
 ·show (markW p.word a true).testBit x=(fset p.ent a _ x).isSome
  rw[mark_on (by omega) hx]
  by_cases e:x=a
  ·subst e;rw[fset_same];simp
  ·rw[fset_ne _ _ e,h.bit x hx];simp[e]
 ·by_cases e:x=a
  ·subst e
   rw[show (⟨fset p.ent x (some ⟨d,0,o⟩),p.gen,p.n+1,markW p.word x true⟩:PS).ent x=some ⟨d,0,o⟩ from fset_same _ _ _] at hx;cases hx;rfl
  ·exact h.per x t ((fset_ne _ _ e).symm.trans hx)
theorem PoolOk.drop (h:PoolOk p r) (hr:r≤64) {a:Nat} {t:Tm} (hn:p.ent a=some t):PoolOk (p.drop a) r:=by
 have ha:=h.lt hn;refine⟨?_,fun x hx=>?_,fun x hx=>?_,(show markW p.word a false<_ from markW_lt false (by omega) h.word),fun x u hx=>?_⟩
 ·show p.n-1=cntN (fset p.ent a _) r
  have:=cntN_off p.ent a t hn r ha;have:=h.cnt;omega
 ·exact(fset_ne _ _ (by omega)).trans (h.out x hx)
 ·show (markW p.word a false).testBit x=(fset p.ent a _ x).isSome
  rw[mark_off (by omega) hx]
  by_cases e:x=a
  ·subst e;rw[fset_same];simp
  ·rw[fset_ne _ _ e,h.bit x hx];simp[e]
 ·by_cases e:x=a
  ·subst e
   rw[show (p.drop x).ent x=none from fset_same _ _ _] at hx;cases hx
  ·exact h.per x u ((fset_ne _ _ e).symm.trans hx)
theorem PoolOk.dropAll (hr:r≤64):∀ {D:List Nat} {p:PS},PoolOk p r→D.Nodup→(∀a∈D,∃t,p.ent a=some t)→PoolOk (dropL p D) r
 | [],p,h,_,_=>h
 |a::D,p,h,hn,hD=>by
   obtain⟨t,ht⟩:=hD a (by simp);rw[List.nodup_cons] at hn;show PoolOk (dropL (p.drop a) D) r;refine PoolOk.dropAll hr (h.drop hr ht) hn.2 fun x hx=>?_;obtain⟨u,hu⟩:=hD x (by simp[hx]);exact⟨u,(fset_ne _ _ (fun e=>hn.1 (by rw[←e];exact hx))).trans hu⟩
end
theorem drop_n (p:PS) (a:Nat):(p.drop a).n=p.n-1:=rfl
theorem poolOk0 (r:Nat):PoolOk ps0 r:=by
 refine⟨?_,fun a _=>rfl,fun a _=>?_,by show 0<_;omega,fun a t h=>by cases h⟩
 ·exact((cntN_zero ps0.ent r).2 (fun a _=>rfl)).symm
 ·exact Nat.zero_testBit a
structure WL (B:WB) (r:Nat) (S:WS) (ls:Int×Int→List Nat):Prop where
 mid:WMid B S ls S.base (fun _=>False)
 own2:¬B.own 2
 rp:B.p.room=r
 rc:B.c.room=r
 hr:r≤31
 pool:PoolOk S.p r
section
variable {B:WB} {r:Nat} {S:WS} {ls:Int×Int→List Nat}
theorem WL.nxt (h:WL B r S ls):∃v b,Nx B S v b∧Least S.p (if b then v else 18446744073709551615):=h.mid.nxt h.pool.zero
theorem WL.add (h:WL B r S ls) (hn:S.p.n<r) {d:Nat} (hd:d<18446744073709551616) (hb:S.base<18446744073709551616) (ho:S.order<4294967296) (hg:∀a,S.p.gen a<4294967295) :
 ∃a,a<r∧S.p.ent a=none∧(∀x,x<a→S.p.ent x≠none)∧Ad B S d 0 (hN S.p a) (S.add a d 0)∧∃ls',WL B r (S.add a d 0) ls':=by
 have hr:=h.hr;obtain⟨a,ha,hf,hm,hw⟩:=h.pool.free (by omega) hn;have hwd:=h.pool.word;obtain⟨h1,h2⟩:=h.mid.add (p:=0) hd (by rw[h.rc];exact ha) hf (hg a);refine⟨a,ha,hf,hm,(h.mid.ok.add h.own2 (a:=a) (nw:=18446744073709551615-S.p.word) (by omega) hw (by omega) (by rw[h.rp];exact ha) (by rw[h.rc];exact ha) hf (hg a) hd hb ho h1).1,_,h2,h.own2,h.rp,h.rc,h.hr,?_⟩;exact h.pool.put (by omega) ha hf
end
theorem mid0 {B:WB} (hc:B.c.room≤31):WMid B ws0 (fun _=>[]) 0 (fun _=>False):=by
 refine⟨⟨⟨fun k=>rfl,fun k=>trivial,fun a _=>rfl,fun k a h=>(by cases h),fun k=>List.nodup_nil,fun k k' a h=>(by cases h)⟩,fun k a h=>(by cases h),fun i=>by show 0<_;omega,by omega⟩,fun k a h=>(by cases h),fun a t h=>(by cases h),fun a h=>h.elim,fun l s hl hs=>?_⟩;show (0:Nat).testBit s=true↔_;rw[Nat.zero_testBit];simp
theorem wl0 {B:WB} {r:Nat} (hp:B.p.room=r) (hc:B.c.room=r) (hr:r≤31) (h2:¬B.own 2):WL B r ws0 (fun _=>[]):=
 ⟨mid0 (by omega),h2,hp,hc,hr,poolOk0 r⟩
theorem info22:(Tryz.prog.info? 22).map (fun i=>(i.zero,i.size,i.bytes))=some (some (.int .u32 0),1,4):=by kernel_rfl
theorem under40:Tryz.prog.underlying 40=some (.slice 22):=by kernel_rfl
def GapsIn (p:Option Addr) (gl:List Nat) (w:World):Prop:=gl≠[]→∃b off,p=some ⟨b,off,none⟩∧b<w.heap.size∧∀(j v:Nat),gl[j]?=some v→w.cell? ⟨b,off+j,none⟩=some (.int .u32 v)
section
variable {w:World}
set_option maxHeartbeats 1000000 in
theorem gaps11 {pb:Nat} {c3:Value} (hb:Blk w pb #[.int .i64 0,.int .u64 0,.int .i64 0,c3,.slice none 0 0] 104) {p:Option Addr} {cap:Nat} {gl:List Nat} (hl:gl.length≤64) (hp:p=none∨∃b off,p=some ⟨b,off,none⟩) (hin:GapsIn p gl w) :
 Calls Tryz.prog 11 #[.pointer (some ⟨pb,0,none⟩),.slice p gl.length cap] w fun e w'=>e=.returned (.int .i64 0)∧Tch (fun r=>r=pb) w w'∧∃ga gc gb,Blk w' pb #[.int .i64 0,.int .u64 0,.int .i64 0,c3,.slice ga gl.length gc] 104 ∧
  (gl≠[]→ga=some ⟨gb,0,none⟩∧w.heap.size≤gb∧gb<w'.heap.size∧∀(j v:Nat),gl[j]?=some v→w'.cell? ⟨gb,j,none⟩=some (.int .u32 v)):=by
 obtain⟨i0,hi,hz0,hz1,hz2⟩:=info_parts info22;have f4:=hb.free 4;have d4:w.cell? ⟨pb,4,none⟩=some (.slice none 0 0):=hb.cell 4 rfl;obtain⟨n,hn⟩:∃n,n=gl.length:=⟨_,rfl⟩;rw[←hn] at hl ⊢
 have hd64:decide ((n:Int) > 64)=false:=by simp;omega
 by_cases h0:gl=[]
 ·have:n=0:=by rw[hn,h0];rfl
  subst this;have HG:=Lib.hid h0;clear hn h0;rcases hp with rfl|⟨b,off,rfl⟩
  ·have z4:=hb.set 4 (.slice none 0 0)
   have ht:=(Tch.refl (fun r=>r=pb) w).setCell (a:=⟨pb,4,none⟩) (.slice none 0 0) (.inl rfl);go_enter Tryz.func11,Tryz.ntmps11
   go_wp2_with (at_builtin;fail)
   refine bodyPost_ret (v:=.int .i64 0) ?_ rfl ⟨rfl,ht,none,0,0,z4,fun h=>absurd HG.out h⟩;simp[results,Tryz.results11,go_sem]
  ·have z4:=hb.set 4 (.slice (some ⟨b,off,none⟩) 0 0)
   have ht:=(Tch.refl (fun r=>r=pb) w).setCell (a:=⟨pb,4,none⟩) (.slice (some ⟨b,off,none⟩) 0 0) (.inl rfl);go_enter Tryz.func11,Tryz.ntmps11
   go_wp2_with (at_builtin;fail)
   refine bodyPost_ret (v:=.int .i64 0) ?_ rfl ⟨rfl,ht,(some ⟨b,off,none⟩),0,0,z4,fun h=>absurd HG.out h⟩;simp[results,Tryz.results11,go_sem]
 ·have hn0:0<n:=by
   rw[hn];exact List.length_pos_iff.2 h0
  obtain⟨b,off,rfl,hbw,hcs⟩:=hin h0
  have hlen:(gl.map fun v:Nat=>Value.int .u32 (v:Int)).length=n*1:=by simp[hn]
  obtain⟨vs,hvs⟩:∃vs,vs=gl.map fun v:Nat=>Value.int .u32 (v:Int):=⟨_,rfl⟩
  have hcs':∀j u,vs[j]?=some u→w.cell? ((⟨b,off,none⟩:Addr).add j)=some u:=by
   intro j u hj;rw[hvs,List.getElem?_map] at hj
   cases hg:gl[j]? with
   |none=>rw[hg] at hj;cases hj
   |some v=>
     rw[hg] at hj;cases hj;rw[Addr.add_lit];exact hcs j v hg
  have h1c:∀u∈vs,u.oneCell'=true:=by
   intro u hu;rw[hvs] at hu;obtain⟨v,_,rfl⟩:=List.mem_map.1 hu;rfl
  have hvj:∀(j v:Nat),gl[j]?=some v→vs[j]?=some (.int .u32 v):=fun j v hj=>by rw[hvs,List.getElem?_map,hj];rfl
  rw[←hvs] at hlen;clear hn h0 hvs;go_enter Tryz.func11,Tryz.ntmps11
  go_wp2_with (at_builtin;refine wpList_append_grows _ rfl (.tmp 14) (.tmp 15) 40 rfl 22 i0 (.int .u32 0) 1 4 under40 hi hz0 hz1 hz2 rfl (by decide) (some ⟨b,off,none⟩) 0 0 [] rfl (by simp) rfl (by intro _ _ j u hj;simp at hj) ⟨b,off,none⟩ n cap vs rfl hlen hcs' h1c (by omega) (by unfold maxLen;omega) (by omega) ?_)
  intro v1 w1 hown hgrow;have hb1:Below w.heap.size w w1:=(Below.refl _ w).grown hgrow (Nat.le_refl _) (fun k e=>by cases e);have z1:=hb.below hb1 hb.lt;obtain⟨hl1,⟨_,hz⟩|⟨g,cap1,cur,rfl,hbg,hg1,hnc,hcm,hcsz,htk⟩⟩:=hown
  ·omega
  have f5:=z1.free 4;have d5:w1.cell? ⟨pb,4,none⟩=some (.slice none 0 0):=z1.cell 4 rfl;have z4:=z1.set 4 (.slice (some ⟨g,0,none⟩) n cap1);have ht:Tch (fun r=>r=pb) w (w1.setCell ⟨pb,4,none⟩ (.slice (some ⟨g,0,none⟩) n cap1)):=(Tch.of_below hb1).trans ((Tch.refl (fun r=>r=pb) w1).setCell (a:=⟨pb,4,none⟩) (.slice (some ⟨g,0,none⟩) n cap1) (.inl rfl));have hgs:g<w1.heap.size:=(Array.getElem?_eq_some_iff.1 hg1).1
  have hgp:g≠pb:=fun e=>by have:=hb.lt;omega
  have hgc:∀(j v:Nat),gl[j]?=some v→(w1.setCell ⟨pb,4,none⟩ (.slice (some ⟨g,0,none⟩) n cap1)).cell? ⟨g,j,none⟩=some (.int .u32 v):=by
   intro j v hj;have hu:=hvj j v hj;unfold World.cell?;rw[((Tch.refl (fun r=>r=pb) w1).setCell (a:=⟨pb,4,none⟩) (.slice (some ⟨g,0,none⟩) n cap1) (.inl rfl)).block g hgs hgp,hg1];show cur[j]?=_
   have hlt:j<n*1:=by
    have:=(List.getElem?_eq_some_iff.1 hu).1;omega
   rw[←htk,List.getElem?_take_of_lt hlt] at hu;simpa using hu
  go_wp2;refine bodyPost_ret (v:=.int .i64 0) ?_ rfl ⟨rfl,ht,some ⟨g,0,none⟩,cap1,g,z4,fun _=>⟨rfl,hbg,?_,hgc⟩⟩
  ·simp[results,Tryz.results11,go_sem]
  ·exact Nat.lt_of_lt_of_le hgs (Tch.refl (fun r=>r=pb) w1 |>.setCell (a:=⟨pb,4,none⟩) (.slice (some ⟨g,0,none⟩) n cap1) (.inl rfl)).size
theorem boot42 {Q:QB} {S:QS} (h:PortAt Q S w):Calls Tryz.prog 42 #[.pointer (some ⟨Q.pb,0,none⟩)] w fun e w'=>e=.returned (.int .i64 0)∧Tch (fun r=>r=Q.pb) w w'∧PortAt Q S w':=by
 have c2:∀x:WX w,x.w.cell? ⟨Q.pb,2,none⟩=some (.int .i64 0):=h.blk.wx 2 rfl;go_enter Tryz.func42,Tryz.ntmps42;go_wp2;refine wp_region_grown (by kernel_rfl) (by kernel_rfl) ?_
 repeat (go_big_quiet_step (first|(go_at_call 59;exact WX.of_same ((resets59 (h.below (by first|assumption|exact WX.h _))).mono fun e w' h=>⟨h.1,h.2.symm⟩))))
 refine wpQuiet_nil ?_;intro w2 hb2;have h2:=h.below hb2;have q2:w2.cell? ⟨Q.pb,2,none⟩=some (.int .i64 0):=h2.blk.cell 2 rfl;have f2:=h2.blk.free 2;have z2:=h2.blk.set 2 (.int .i64 0);have ht:=(Tch.refl (fun r=>r=Q.pb) w2).setCell (a:=⟨Q.pb,2,none⟩) (.int .i64 0) (.inl rfl);have h3:=h2.selfT (m:=S.made) (sp:=S.sp) ht z2;clear c2;go_wp2;refine bodyPost_ret (v:=.int .i64 0) ?_ rfl ⟨rfl,(Tch.of_below hb2).trans ht,h3⟩;simp[results,Tryz.results42,go_sem]
theorem pnew8 {b:Nat→Nat} {s:BT} (h:BoardAt b s w) {p:Option Addr} {cap:Nat} {gl:List Nat} (hl:gl.length≤64) (hv:∀v∈gl,v<4294967296) (hp:p=none∨∃b off,p=some ⟨b,off,none⟩) (hin:GapsIn p gl w) :
 Calls Tryz.prog 8 #[.pointer (some ⟨b 16,0,none⟩),.slice p gl.length cap] w fun e w'=>∃Q:QB,e=.returned (.tuple #[.pointer (some ⟨Q.pb,0,none⟩),.int .i64 0])∧Below w.heap.size w w'∧PortAt Q ⟨s,0,0⟩ w'∧Q.b=b∧Q.gl=gl∧w.heap.size≤Q.pb∧(gl≠[]→w.heap.size≤Q.gb):=by
 have hB:=(Below.refl w.heap.size w).alloc (Nat.le_refl _) (.cells #[.int .i64 0,.int .u64 0,.int .i64 0,.pointer (some ⟨b 16,0,none⟩),.slice none 0 0] 104);have hX:=Blk.new w #[.int .i64 0,.int .u64 0,.int .i64 0,.pointer (some ⟨b 16,0,none⟩),.slice none 0 0] 104
 have hin1:GapsIn p gl (w.alloc (.cells #[.int .i64 0,.int .u64 0,.int .i64 0,.pointer (some ⟨b 16,0,none⟩),.slice none 0 0] 104)):=fun hn=>by
  obtain⟨b,off,h1,h2,h3⟩:=hin hn;exact⟨b,off,h1,Nat.lt_of_lt_of_le h2 hB.size,fun j v hj=>(hB.cell (p:=⟨b,off+j,none⟩) h2).trans (h3 j v hj)⟩
 have h1:=h.tch (X:=fun _=>False) (Tch.of_below hB) (fun k e=>e.elim);have hG:=gaps11 hX hl (cap:=cap) hp hin1;obtain⟨n,hn⟩:∃n,n=gl.length:=⟨_,rfl⟩;obtain⟨x,hx⟩:∃x,x=w.heap.size:=⟨_,rfl⟩;rw[←hn,←hx] at hG
 have hxb:∀r,FT (ksB b) r→r<x:=by rw[hx];exact h.lt
 have hx8:8≤x:=by
  have h1:=hxb (b 16) ⟨16,ks16⟩;have h2:=h.hi (b 16) ⟨16,ks16⟩;omega
 rw[←hn,←hx];have HN:=Lib.hid hn;rw[←hx] at hB hX;clear hn hin hin1;go_enter Tryz.func8,Tryz.ntmps8
 go_wp2_with (go_at_call 11;fail)
 rw[←hx];clear hx;refine hG.mono ?_;rintro e w2 ⟨rfl,ht2,ga,gc,gb,hb2,hga⟩;have hxl:=hX.lt
 have hq:PortAt ⟨b,x,ga,gc,gb,gl⟩ ⟨s,0,0⟩ w2:=by
  have e:=HN.out;subst e
  exact⟨h1.tch ht2 (fun k e=>e ▸ ⟨fun e'=>by have:=hxb x e';omega,hx8⟩),hb2,fun hn=>⟨(hga hn).1,(hga hn).2.2.1⟩,fun j v hj=>⟨hv v (List.mem_of_getElem? hj),(hga (by rintro e;rw[e] at hj;simp at hj)).2.2.2 j v hj⟩,
   fun e'=>by have:=hxb x e';omega,fun hn=>⟨fun e'=>by have h2:=hxb gb e';have h3:=(hga hn).2.1;omega,by have h3:=(hga hn).2.1;show gb≠x;omega,by have h3:=(hga hn).2.1;show 8≤gb;omega⟩,hx8⟩
 have hgx:gl≠[]→x≤gb:=fun hn=>by have:=(hga hn).2.1;omega
 have hB2:Below x w w2:=hB.trans ⟨ht2.os,ht2.tape,ht2.output,ht2.size,fun k hk=>ht2.block k (by omega) (by omega)⟩;clear hb2 hga ht2 hG hX hB h1
 go_wp2_with (go_at_call 42;fail)
 refine(boot42 hq).mono ?_;rintro e w3 ⟨rfl,ht3,hq3⟩;go_wp2;refine bodyPost_ret (v:=.tuple #[.pointer (some ⟨x,0,none⟩),.int .i64 0]) ?_ rfl ⟨⟨b,x,ga,gc,gb,gl⟩,rfl,hB2.trans ⟨ht3.os,ht3.tape,ht3.output,ht3.size,fun k hk=>ht3.block k (by have:=hq.blk.lt;show k<_;exact Nat.lt_trans hk this) (fun e=>by have e:k=x:=e;omega)⟩,hq3,rfl,rfl,Nat.le_refl _,hgx⟩;simp[results,Tryz.results8,go_sem]
end
section
variable {w:World}
theorem tch_new {X:Nat→Prop} {n:Nat} {w w':World} (h:Tch X w w') (hX:∀k,X k→n≤k) (hn:n≤w.heap.size):Below n w w':=⟨h.os,h.tape,h.output,h.size,fun k hk=>h.block k (by omega) (fun e=>by have:=hX k e;omega)⟩
theorem snew165 {Q:QB} {S:QS} (h:PortAt Q S w):Calls Tryz.prog 165 #[.pointer (some ⟨Q.pb,0,none⟩),.int .i64 0] w fun e w'=>∃hb,e=.returned (.tuple #[.pointer (some ⟨hb,0,none⟩),.int .i64 0])∧Tch (FT (ksB Q.b)) w w'∧w.heap.size≤hb∧ShotAt Q hb S 18446744073709551615 w':=by
 have hf:∀w,(Instr.field 29 (.agg #[.int .i64 1,.int .i64 1,.int .u32 10]) 0).run Tryz.prog w=.ok (.int .i64 1) w:=fun _=>by kernel_rfl
 go_enter Tryz.func165,Tryz.ntmps165
 go_wp2_with (first|(go_at_call 25;refine(pboard25 h).mono ?_;rintro e w1 ⟨rfl,rfl⟩)|(go_at_call 234;fail))
 refine(bcfg h.board).mono ?_;rintro e w2 ⟨rfl,ht2,hb2⟩;have h2:=h.boardT ht2 hb2;have hX:=Blk.new w2 #[.pointer (some ⟨Q.pb,0,none⟩),.int .i64 0,.int .u64 18446744073709551615] 203;have hB:Below w2.heap.size w2 (w2.alloc (.cells #[.pointer (some ⟨Q.pb,0,none⟩),.int .i64 0,.int .u64 18446744073709551615] 203)):=(Below.refl _ w2).alloc (Nat.le_refl _) _;have h3:=h2.below hB;have ho:=h2.away (Nat.le_refl _)
 have h8:8≤w2.heap.size:=by have:=h2.hi;have:=h2.blk.lt;omega
 go_wp2;refine bodyPost_ret (v:=.tuple #[.pointer (some ⟨w2.heap.size,0,none⟩),.int .i64 0]) ?_ rfl ⟨w2.heap.size,rfl,ht2.trans (Tch.of_below hB),ht2.size,h3,hX,ho,h8⟩;simp[results,Tryz.results165,go_sem]
theorem cnew167 (pb:Nat):Calls Tryz.prog 167 #[.pointer (some ⟨pb,0,none⟩)] w fun e w'=>e=.returned (.pointer (some ⟨w.heap.size,0,none⟩))∧w'=w.alloc (.cells #[.pointer (some ⟨pb,0,none⟩),.int .u64 0] 207):=by
 go_enter Tryz.func167,Tryz.ntmps167;go_wp2;refine bodyPost_ret (v:=.pointer (some ⟨w.heap.size,0,none⟩)) ?_ rfl ⟨rfl,rfl⟩;simp[results,Tryz.results167,go_sem]
theorem fnew168:Calls Tryz.prog 168 #[] w fun e w'=>e=.returned (.pointer (some ⟨w.heap.size+1,0,none⟩))∧w'=(w.alloc (.map #[] 0)).alloc (.cells #[.slice none 0 0,.map (some w.heap.size)] 242):=by
 have hmm:=@run_makeMap Tryz.prog;go_enter Tryz.func168,Tryz.ntmps168;go_wp2;refine bodyPost_ret (v:=.pointer (some ⟨w.heap.size+1,0,none⟩)) ?_ rfl ⟨rfl,rfl⟩;simp[results,Tryz.results168,go_sem]
theorem dnew9 (pb:Nat):Calls Tryz.prog 9 #[.pointer (some ⟨pb,0,none⟩)] w fun e w'=>∃x:Nat,e=.returned (.pointer (some ⟨x,0,none⟩))∧Below w.heap.size w w':=by
 go_enter Tryz.func9,Tryz.ntmps9;go_wp2;refine bodyPost_ret (v:=.pointer (some ⟨w.heap.size,0,none⟩)) ?_ rfl ⟨_,rfl,(Below.refl _ _).alloc (Nat.le_refl _) _⟩;simp[results,Tryz.results9,go_sem]
end
structure Extra (Q:QB) (hb:Nat) (B:WB) (Z:SB) (kb lb mb:Nat):Prop where
 v1:Z.v1=.pointer (some ⟨kb,0,none⟩)
 v4:Z.v4=.pointer (some ⟨lb,0,none⟩)
 k:¬DF Q hb kb∧¬B.all kb∧kb≠Z.b∧8≤kb
 l:¬DF Q hb lb∧¬B.all lb∧lb≠Z.b∧8≤lb
 m:¬DF Q hb mb∧¬B.all mb∧mb≠Z.b∧8≤mb
 kl:kb≠lb
 km:kb≠mb
 lm:lb≠mb
section
variable {w:World}
theorem vnew101 {Q:QB} {S:QS} {n0:Nat} (h:PortAt Q S w) (hT:Tabs w) (h8:8≤n0) (h0:∀k,Q.ft k→n0≤k) (hn:n0≤w.heap.size) {r left:Nat} (h1:1≤r) (h2:r≤31) (hm:S.made+left<4611686018427387904) (ht:S.s.time+left*4294967296<4611686018427387904) :
 Calls Tryz.prog 101 #[.pointer (some ⟨Q.pb,0,none⟩),.int .i64 0,.int .i64 r] w fun e w'=>∃(hb:Nat) (B:WB) (Z:SB) (kb lb mb:Nat),e=.returned (.tuple #[.pointer (some ⟨Z.b,0,none⟩),.int .i64 0])∧Below n0 w w' ∧
  SvcAt (deskBI Q hb) B Z ⟨S.s,S.made,S.sp,18446744073709551615,left,by omega⟩ ws0 w'∧Z.room=r∧B.p.room=r∧B.c.room=r∧(∀k,DF Q hb k∨B.all k→n0≤k)∧n0≤Z.b ∧
  Extra Q hb B Z kb lb mb∧Blk w' kb #[.pointer (some ⟨Q.pb,0,none⟩),.int .u64 0] 207∧Blk w' lb #[.slice none 0 0,.map (some mb)] 242∧w'.heap[mb]?=some (.map #[] 0)∧n0≤kb∧n0≤lb∧n0≤mb:=by
 have hmm:=@run_makeMap Tryz.prog;go_enter Tryz.func101,Tryz.ntmps101
 go_wp2_with (go_at_call 165;fail)
 refine(snew165 h).mono ?_;rintro e w1 ⟨hb,rfl,ht1,hb1,hs1⟩;have hB1:Below n0 w w1:=tch_new ht1 (fun k hk=>h0 k (.inl hk)) hn
 go_wp2_with (go_at_call 166;fail)
 refine(wheel_new h1 (by omega) w1).mono ?_;rintro e w2 ⟨B,rfl,hb2,hw2,hr1,hr2,hall⟩;have hs2:=hs1.tch (X:=fun _=>False) (Tch.of_below hb2) (fun k e=>e.elim)
 go_wp2_with (first|(go_at_call 167;refine(cnew167 Q.pb).mono ?_;rintro e w3 ⟨rfl,rfl⟩)|(go_at_call 168;refine fnew168.mono ?_;rintro e w3 ⟨rfl,rfl⟩))
 have hB5:Below w2.heap.size w2 ((((w2.alloc (Obj.cells #[.pointer (some ⟨Q.pb,0,none⟩),.int .u64 0] 207)).alloc (Obj.map #[] 0)).alloc (Obj.cells #[.slice none 0 0,.map (some (w2.heap.size+1))] 242)).alloc (Obj.cells #[.pointer (some ⟨B.b,0,none⟩),.pointer (some ⟨w2.heap.size,0,none⟩),.pointer (some ⟨hb,0,none⟩),.pointer (some ⟨Q.pb,0,none⟩),.pointer (some ⟨w2.heap.size+1+1,0,none⟩),.int .i64 r] 133)):=((((Below.refl _ w2).alloc (Nat.le_refl _) _).alloc (by simp) _).alloc (by simp;omega) _).alloc (by simp;omega) _;have z0:Blk ((((w2.alloc (Obj.cells #[.pointer (some ⟨Q.pb,0,none⟩),.int .u64 0] 207)).alloc (Obj.map #[] 0)).alloc (Obj.cells #[.slice none 0 0,.map (some (w2.heap.size+1))] 242)).alloc (Obj.cells #[.pointer (some ⟨B.b,0,none⟩),.pointer (some ⟨w2.heap.size,0,none⟩),.pointer (some ⟨hb,0,none⟩),.pointer (some ⟨Q.pb,0,none⟩),.pointer (some ⟨w2.heap.size+1+1,0,none⟩),.int .i64 r] 133)) w2.heap.size #[.pointer (some ⟨Q.pb,0,none⟩),.int .u64 0] 207:=(((Blk.new w2 _ _).alloc _).alloc _).alloc _
 have z1:((((w2.alloc (Obj.cells #[.pointer (some ⟨Q.pb,0,none⟩),.int .u64 0] 207)).alloc (Obj.map #[] 0)).alloc (Obj.cells #[.slice none 0 0,.map (some (w2.heap.size+1))] 242)).alloc (Obj.cells #[.pointer (some ⟨B.b,0,none⟩),.pointer (some ⟨w2.heap.size,0,none⟩),.pointer (some ⟨hb,0,none⟩),.pointer (some ⟨Q.pb,0,none⟩),.pointer (some ⟨w2.heap.size+1+1,0,none⟩),.int .i64 r] 133)).heap[w2.heap.size+1]?=some (.map #[] 0):=by
  have e:(w2.alloc (Obj.cells #[.pointer (some ⟨Q.pb,0,none⟩),.int .u64 0] 207)).heap.size=w2.heap.size+1:=by simp
  have h1:((w2.alloc (Obj.cells #[.pointer (some ⟨Q.pb,0,none⟩),.int .u64 0] 207)).alloc (Obj.map #[] 0)).heap[w2.heap.size+1]?=some (.map #[] 0):=by rw[←e];exact heap_alloc_new _ _
  exact(heap_alloc_old _ _ (by simp)).trans ((heap_alloc_old _ _ (by simp)).trans h1)
 have z2:Blk ((((w2.alloc (Obj.cells #[.pointer (some ⟨Q.pb,0,none⟩),.int .u64 0] 207)).alloc (Obj.map #[] 0)).alloc (Obj.cells #[.slice none 0 0,.map (some (w2.heap.size+1))] 242)).alloc (Obj.cells #[.pointer (some ⟨B.b,0,none⟩),.pointer (some ⟨w2.heap.size,0,none⟩),.pointer (some ⟨hb,0,none⟩),.pointer (some ⟨Q.pb,0,none⟩),.pointer (some ⟨w2.heap.size+1+1,0,none⟩),.int .i64 r] 133)) (w2.heap.size+1+1) #[.slice none 0 0,.map (some (w2.heap.size+1))] 242:=by
  have:=(Blk.new ((w2.alloc (Obj.cells #[.pointer (some ⟨Q.pb,0,none⟩),.int .u64 0] 207)).alloc (Obj.map #[] 0)) #[.slice none 0 0,.map (some (w2.heap.size+1))] 242).alloc (Obj.cells #[.pointer (some ⟨B.b,0,none⟩),.pointer (some ⟨w2.heap.size,0,none⟩),.pointer (some ⟨hb,0,none⟩),.pointer (some ⟨Q.pb,0,none⟩),.pointer (some ⟨w2.heap.size+1+1,0,none⟩),.int .i64 r] 133);simpa using this
 have z3:Blk ((((w2.alloc (Obj.cells #[.pointer (some ⟨Q.pb,0,none⟩),.int .u64 0] 207)).alloc (Obj.map #[] 0)).alloc (Obj.cells #[.slice none 0 0,.map (some (w2.heap.size+1))] 242)).alloc (Obj.cells #[.pointer (some ⟨B.b,0,none⟩),.pointer (some ⟨w2.heap.size,0,none⟩),.pointer (some ⟨hb,0,none⟩),.pointer (some ⟨Q.pb,0,none⟩),.pointer (some ⟨w2.heap.size+1+1,0,none⟩),.int .i64 r] 133)) (w2.heap.size+1+1+1) #[.pointer (some ⟨B.b,0,none⟩),.pointer (some ⟨w2.heap.size,0,none⟩),.pointer (some ⟨hb,0,none⟩),.pointer (some ⟨Q.pb,0,none⟩),.pointer (some ⟨w2.heap.size+1+1,0,none⟩),.int .i64 r] 133:=by
  have:=Blk.new (((w2.alloc (Obj.cells #[.pointer (some ⟨Q.pb,0,none⟩),.int .u64 0] 207)).alloc (Obj.map #[] 0)).alloc (Obj.cells #[.slice none 0 0,.map (some (w2.heap.size+1))] 242)) #[.pointer (some ⟨B.b,0,none⟩),.pointer (some ⟨w2.heap.size,0,none⟩),.pointer (some ⟨hb,0,none⟩),.pointer (some ⟨Q.pb,0,none⟩),.pointer (some ⟨w2.heap.size+1+1,0,none⟩),.int .i64 r] 133;simpa using this
 generalize ((((w2.alloc (Obj.cells #[.pointer (some ⟨Q.pb,0,none⟩),.int .u64 0] 207)).alloc (Obj.map #[] 0)).alloc (Obj.cells #[.slice none 0 0,.map (some (w2.heap.size+1))] 242)).alloc (Obj.cells #[.pointer (some ⟨B.b,0,none⟩),.pointer (some ⟨w2.heap.size,0,none⟩),.pointer (some ⟨hb,0,none⟩),.pointer (some ⟨Q.pb,0,none⟩),.pointer (some ⟨w2.heap.size+1+1,0,none⟩),.int .i64 r] 133))=w5 at *
 have hdf1:∀k,DF Q hb k→k<w1.heap.size:=by
  rintro k (hk|rfl)
  ·exact hs1.port.lt k hk
  ·exact hs1.blk.lt
 have hsz:=hb2.size;have hn1:=hB1.size
 have hn01:n0≤w1.heap.size:=by have:=ht1.size;omega
 have hbl:∀k,B.all k→k<w2.heap.size:=by
  have hl:=hw2.lt
  rintro k ((e|(e|e|e)|(e|e))|e|e)<;>omega
 have hdn:∀k,DF Q hb k→n0≤k:=by
  rintro k (hk|rfl)
  ·exact h0 k hk
  ·omega
 have away:∀x,w2.heap.size≤x→¬DF Q hb x∧¬B.all x:=fun x hx=>⟨fun e=>by have:=hdf1 x e;omega,fun e=>by have:=hbl x e;omega⟩;have hBn:Below n0 w w5:=(hB1.trans (hb2.mono hn01)).trans (hB5.mono (by omega));have hs5:=hs2.tch (X:=fun _=>False) (Tch.of_below hB5) (fun k e=>e.elim);have a0:=away w2.heap.size (Nat.le_refl _);have a1:=away (w2.heap.size+1) (by omega);have a2:=away (w2.heap.size+1+1) (by omega);have a3:=away (w2.heap.size+1+1+1) (by omega)
 refine bodyPost_ret (v:=.tuple #[.pointer (some ⟨w2.heap.size+1+1+1,0,none⟩),.int .i64 0]) ?_ rfl ⟨hb,B,⟨w2.heap.size+1+1+1,.pointer (some ⟨w2.heap.size,0,none⟩),.pointer (some ⟨w2.heap.size+1+1,0,none⟩),r⟩,w2.heap.size,w2.heap.size+1+1,w2.heap.size+1,rfl,hBn,
  ⟨z3,hw2.below hB5 hw2.lt,⟨hs5,hm,ht,hT.below h8 hBn⟩,a3.1,fun k hk e=>?_,a3.2,fun k hk=>?_⟩,rfl,hr1,hr2,fun k hk=>?_,?_,⟨rfl,rfl,⟨a0.1,a0.2,?_,?_⟩,⟨a2.1,a2.2,?_,?_⟩,⟨a1.1,a1.2,?_,?_⟩,?_,?_,?_⟩,z0,z2,z1,?_,?_,?_⟩
 ·simp[results,Tryz.results101,go_sem]
 ·have:=hall k hk
  have:=hdf1 k e;omega
 ·have:=hall k hk
  omega
 ·rcases hk with hk|hk
  ·exact hdn k hk
  ·have:=hall k hk
   omega
 all_goals first
  |omega
  |(show _≠w2.heap.size+1+1+1;omega)
  |(show n0≤w2.heap.size+1+1+1;omega)
end
end Go.Proofs.YtkndlfdpmpdihaaGreatDoor
namespace Go.Proofs.YtkndlfdpmpdihaaGreatDoor
open Go.ChangeShapes Go.WideShapes Go.Deep Go.RowKit Go.Ev
set_option linter.unusedVariables false
set_option maxRecDepth 100000
theorem var_at {W:World} {n:String} {g:Nat} {cs:Array Value} (hg:Tryz.prog.globalNamed n=some g) (h:W.var? Tryz.prog n=some cs):∃e f,W.heap[g]?=some (.cells cs e f):=by
 unfold World.var? at h;rw[hg] at h;simp only[Option.bind_some] at h;split at h
 ·rename_i cs' e f hh
  cases h;exact⟨_,_,hh⟩
 ·cases h
def numsOf (l:List Value):List Int:=l.map fun v=>match v with
 |.int _ n=>n
 |_=>0
theorem tabs_full {W:World} (h:laidMetH Tryz.prog Rows.topFullRow.laid W):Tabs W:=by
 rw[MakeChecks.laidMetH_plain _ _ _ (by kernel_rfl)] at h;obtain⟨ps,⟨g0,t0,cs0,f0,p0,q0,hg0,ht0,hv0,hd0,⟨g1,t1,cs1,f1,p1,q1,hg1,ht1,hv1,hd1,⟨g2,t2,cs2,f2,p2,q2,hg2,ht2,hv2,hd2,_⟩,_⟩,_⟩,_,_⟩:=h
 have n0:Tryz.prog.globalNamed "math/bits.deBruijn32tab" = some 7:=by kernel_rfl
 have n1:Tryz.prog.globalNamed "math/bits.deBruijn64tab" = some 2:=by kernel_rfl
 have n2:Tryz.prog.globalNamed "internal/strconv.uint64pow10" = some 0:=by kernel_rfl
 obtain rfl:=Option.some.inj (n1.symm.trans hg1);obtain rfl:=Option.some.inj (n2.symm.trans hg2);obtain⟨e0,w0,h7⟩:=var_at n0 hv0;obtain⟨e1,w1,h2⟩:=var_at n1 hv1;obtain⟨e2,w2,h0⟩:=var_at n2 hv2
 have T1:(Tryz.prog.globals[2]?).map (·.type)=some 496:=by kernel_rfl
 have T2:(Tryz.prog.globals[0]?).map (·.type)=some 460:=by kernel_rfl
 obtain rfl:=Option.some.inj (T1.symm.trans ht1);obtain rfl:=Option.some.inj (T2.symm.trans ht2);have x1:=Lib.cells_of_tab (k:=.u8) (zs:=numsOf tab64) Tryz.underlying496 Tryz.underlying5 (by kernel_rfl) (by kernel_rfl) hd1;have x2:=Lib.cells_of_tab (k:=.u64) (zs:=numsOf pow10) Tryz.underlying460 Tryz.underlying37 (by kernel_rfl) (by kernel_rfl) hd2;have y1:cs1=⟨tab64⟩:=Array.toList_inj.1 (x1.trans rfl);have y2:cs2=⟨pow10⟩:=Array.toList_inj.1 (x2.trans rfl);exact⟨(Array.getElem?_eq_some_iff.1 h7).1,⟨e2,w2,by rw[h0,y2]⟩,e1,w1,by rw[h2,y1]⟩
end Go.Proofs.YtkndlfdpmpdihaaGreatDoor
