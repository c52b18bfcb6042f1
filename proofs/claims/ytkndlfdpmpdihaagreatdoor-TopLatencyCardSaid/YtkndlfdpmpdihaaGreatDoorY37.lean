/- A small world put anew: fewer blocks, other symbols; calls from one told world to another. What lies in whatever world az a told small world tells, with symbols; calls from one such state to another. What symbols stand for, rule by rule, over natural numbers. Conditions: those that each statement shows. -/
import Derived.Test.YtkndlfdpmpdihaaGreatDoorY29
namespace Go.Ev
open Go.RowKit
set_option linter.unusedVariables false
set_option linter.unusedSimpArgs false
def pkB (pi:List Nat) (k k':Nat):Bool:=match pi[k']? with
 |some j=>Nat.beq j k
 |none=>false
theorem pkB_eq {pi:List Nat} {k k':Nat} (h:pkB pi k k'=true):pi[k']?=some k:=by
 unfold pkB at h;split at h
 ·rename_i j hj;rw[hj,Nat.eq_of_beq_eq_true h]
 ·cases h
def isSy:Value→Bool
 |.func (.yield _) _ _=>true
 |_=>false
def cvV (pi:List Nat) (sub:Value→Value→Bool):Nat→Value→Value→Bool
 | 0,_,_=>false
 |n+1,v,u=>match v,u with
   |.pointer none,.pointer none=>true
   |.pointer (some ⟨k,o,none⟩),.pointer (some ⟨k',o',none⟩)=>pkB pi k k'&&Nat.beq o o'
   |.slice none l c,.slice none l' c'=>Nat.beq l l'&&Nat.beq c c'
   |.slice (some ⟨k,o,none⟩) l c,.slice (some ⟨k',o',none⟩) l' c'=>pkB pi k k'&&(Nat.beq o o'&&(Nat.beq l l'&&Nat.beq c c'))
   |.map none,.map none=>true
   |.map (some k),.map (some k')=>pkB pi k k'
   |.nilFunc,.nilFunc=>true
   |.nilIface,.nilIface=>true
   |.string a,.string b=>bytesEq a b
   |.iface t v,.iface s u=>t==s&&cvV pi sub n v u
   |.agg a,.agg b=>leq (cvV pi sub n) a.toList b.toList
   |v,u=>sub v u
def SubOk (G G':Gl) (sub:Value→Value→Bool):Prop:=∀x y,sub x y=true→(sb x=true∨isSy x=true)∧∀u,sb2 u=true→((x=u∧sb u=true)∨(isSy x=true∧G.s x u))→((y=u∧sb u=true)∨(isSy y=true∧G'.s y u))
def Rel.via (τ:Rel) (pi:List Nat) (s:Value→Value→Prop):Rel:=⟨fun k r i=>∃x,pi[k]?=some x∧τ.r x r i,s⟩
section
variable {G G':Gl} {sub:Value→Value→Bool} {pi:List Nat} {τ:Rel}
theorem cvL_ar {f:Value→Value→Bool} {τ':Rel} (hf:∀x y u,f x y=true→VR τ x u→VR τ' y u):∀(l m:List Value),leq f l m=true→∀us:List Value,AR τ ⟨l⟩ ⟨us⟩→AR τ' ⟨m⟩ ⟨us⟩
 | [],[],_,us,h=>by
   have:us=[]:=by have:=h.1;simpa using this.symm
   subst this;exact AR.nil _
 |x::l,y::m,h,us,ha=>by
   simp only[leq,Bool.and_eq_true] at h
   cases us with
   |nil=>have:=ha.1;simp at this
   |cons u us=>
     have h0:=ha.2 0 x u (by simp) (by simp);have ht:AR τ ⟨l⟩ ⟨us⟩:=⟨by have:=ha.1;simpa using this,fun i v v' a b=>ha.2 (i+1) v v' (by simpa using a) (by simpa using b)⟩;have ih:=cvL_ar hf l m h.2 us ht;refine⟨by have:=ih.1;simpa using this,fun i v v' a b=>?_⟩
     cases i with
     |zero=>
       have ea:y=v:=by simpa using a
       have eb:u=v':=by simpa using b
       subst ea eb;exact hf _ _ _ h.1 h0
     |succ i=>exact ih.2 i v v' (by simpa using a) (by simpa using b)
 | [],_::_,h,_,_=>by cases h
 |_::_,[],h,_,_=>by cases h
theorem cvV_sound (hs:SubOk G G' sub) (hτ:τ.s=G.s):∀(n:Nat) (v u x:Value),cvV pi sub n v u=true→VR τ v x→VR (τ.via pi G'.s) u x:=by
 intro n
 induction n with
 |zero=>intro v u x h;cases h
 |succ n ih=>
   intro v u x h hv;unfold cvV at h;split at h
   ·cases hv;exact .ptr0
   ·rw[Bool.and_eq_true] at h
    cases hv;rename_i i ht;rw[Nat.eq_of_beq_eq_true h.2];exact .ptr _ _ _ i ⟨_,pkB_eq h.1,ht⟩
   ·rw[Bool.and_eq_true] at h
    cases hv;rw[Nat.eq_of_beq_eq_true h.1,Nat.eq_of_beq_eq_true h.2];exact .sl0 _ _
   ·simp only[Bool.and_eq_true] at h
    cases hv;rename_i i ht hc;rw[Nat.eq_of_beq_eq_true h.2.1,Nat.eq_of_beq_eq_true h.2.2.1,Nat.eq_of_beq_eq_true h.2.2.2] at *;exact .sl _ _ _ _ _ _ i ⟨_,pkB_eq h.1,ht⟩ hc
   ·cases hv;exact .map0
   ·cases hv
    rename_i i ht;exact .map _ _ i ⟨_,pkB_eq h,ht⟩
   ·cases hv;exact .nilFunc
   ·cases hv;exact .nilIface
   ·cases hv
    rw[bytesEq_eq _ _ h];exact .string _
   ·simp only[Bool.and_eq_true,beq_iff_eq] at h
    cases hv;rename_i v' hv;rw[h.1];exact .iface _ _ _ (ih _ _ _ h.2 hv)
   ·cases hv
    rename_i a b ys hsz hall;have:=cvL_ar (τ':=τ.via pi G'.s) (fun x y u hx hv=>ih x y u hx hv) a.toList b.toList h ys.toList ⟨by simpa using hsz,fun i v v' p q=>hall i v v' (by simpa using p) (by simpa using q)⟩;exact .agg _ _ (by have:=this.1;simpa using this) (fun i v v' p q=>this.2 i v v' (by simpa using p) (by simpa using q))
   ·obtain⟨h1,h2⟩:=hs _ _ h
    have hx:sb2 x=true∧((v=x∧sb x=true)∨(isSy v=true∧G.s v x)):=by
     rcases h1 with h1|h1
     ·cases v<;>first|(cases h1;done)|skip
      ·cases hv;exact⟨rfl,.inl ⟨rfl,rfl⟩⟩
      ·cases hv;exact⟨rfl,.inl ⟨rfl,rfl⟩⟩
     ·cases v with
      |func fn xs ys=>
        cases fn with
        |yield l=>
          cases hv with
          |func fn xs ys us vs hf=>exact absurd rfl (hf _)
          |sym l xs ys v' hsy hb=>exact⟨hb,.inr ⟨rfl,hτ ▸ hsy⟩⟩
        |_=>cases h1
      |_=>cases h1
    rcases h2 x hx.1 hx.2 with⟨rfl,this⟩|⟨hy,hg⟩
    ·cases u<;>first|(cases this;done)|skip
     ·exact .bool _
     ·exact .int _ _
    ·cases u with
     |func fn xs ys=>
       cases fn with
       |yield l=>exact .sym _ _ _ _ hg hx.1
       |_=>cases hy
     |_=>cases hy
end
def cvE (f:Value→Value→Bool):List MapEntry→List MapEntry→Bool:=leq fun e e'=>f e.key e'.key&&(f e.val e'.val&&Nat.beq e.born e'.born)
def isDead:Obj→Bool
 |.cells ⟨[]⟩ t f=>Nat.beq t 0&&(Nat.beq f.1 1&&Nat.beq f.2 1)
 |_=>false
theorem isDead_eq {o:Obj} (h:isDead o=true):o=dead:=by
 unfold isDead at h;split at h
 ·rename_i t f
  simp only[Bool.and_eq_true] at h;obtain⟨a,b⟩:=f;have h1:=Nat.eq_of_beq_eq_true h.1;have h2:=Nat.eq_of_beq_eq_true h.2.1;have h3:=Nat.eq_of_beq_eq_true h.2.2;dsimp only at h2 h3;subst h1 h2 h3;rfl
 ·cases h
def cvO (pi:List Nat) (sub:Value→Value→Bool) (o o':Obj):Bool:=match isDead o' with
 |true=>true
 |false=>match o,o' with
   |.cells cs e f,.cells cs' e' f'=>Nat.beq e e'&&(Nat.beq f.1 f'.1&&(Nat.beq f.2 f'.2&&(match (f==(0,0) || (Nat.ble 2 f.1&&Nat.beq f.2 1)) with
     |true=>leq (cvV pi sub 20) cs.toList cs'.toList
     |false=>Nat.beq f.1 0&&(Nat.beq f.2 (cs.size+1)&&(leq (veq 20) cs.toList cs'.toList&&cs.toList.all (AFb 10))))))
   |.map es c,.map es' c'=>Nat.beq c c'&&cvE (cvV pi sub 20) es.toList es'.toList
   |_,_=>false
section
variable {G G':Gl} {sub:Value→Value→Bool} {pi:List Nat} {τ:Rel} {B:FM} {w0:World}
theorem AR.toL {xs ys:Array Value} (h:AR τ xs ys):AR τ ⟨xs.toList⟩ ⟨ys.toList⟩:=⟨by simpa using h.1,fun i v v' p q=>h.2 i v v' (by simpa using p) (by simpa using q)⟩
theorem AR.ofL {xs ys:Array Value} (h:AR τ ⟨xs.toList⟩ ⟨ys.toList⟩):AR τ xs ys:=⟨by simpa using h.1,fun i v v' p q=>h.2 i v v' (by simpa using p) (by simpa using q)⟩
theorem leq_get {α:Type} {f:α→α→Bool}:∀(l m:List α),leq f l m=true→l.length=m.length∧∀(i:Nat) (x y:α),l[i]?=some x→m[i]?=some y→f x y=true
 | [],[],_=>⟨rfl,fun i x y h=>by simp at h⟩
 |x::l,y::m,h=>by
   simp only[leq,Bool.and_eq_true] at h;have ih:=leq_get l m h.2;refine⟨by simp[ih.1],fun i a b ha hb=>?_⟩
   cases i with
   |zero=>
     have ea:x=a:=by simpa using ha
     have eb:y=b:=by simpa using hb
     subst ea eb;exact h.1
   |succ i=>exact ih.2 i a b (by simpa using ha) (by simpa using hb)
 | [],_::_,h=>by cases h
 |_::_,[],h=>by cases h
theorem cvO_or (hs:SubOk G G' sub) (hτ:τ.s=G.s) {o o' u:Obj} {i:Option (Nat×Nat)} (h:cvO pi sub o o'=true) (hl:live o'=true) (ho:OR τ i o u):OR (τ.via pi G'.s) i o' u:=by
 unfold cvO at h;split at h
 ·rename_i hd;rw[isDead_eq hd] at hl;cases hl
 ·split at h
  ·rename_i cs e f cs' e' f' hd
   simp only[Bool.and_eq_true] at h;have h1:=Nat.eq_of_beq_eq_true h.1;have h2:f=f':=Prod.ext (Nat.eq_of_beq_eq_true h.2.1) (Nat.eq_of_beq_eq_true h.2.2.1);subst h1 h2
   have hl2:(f==(0,0) || (Nat.ble 2 f.1&&Nat.beq f.2 1))=true:=by
    cases ho with
    |cells=>rfl
    |more=>
      rename_i m z _ _ _;show ((z+2,1)==(0,0) || (Nat.ble 2 (z+2)&&Nat.beq 1 1))=true;rw[Nat.ble_eq_true_of_le (by omega)];simp
   have h3:=h.2.2.2;rw[hl2] at h3;dsimp only at h3
   cases ho with
   |cells cs cs2 e ha=>exact .cells _ _ _ (AR.ofL (cvL_ar (fun x y u hx hv=>cvV_sound hs hτ 20 x y u hx hv) _ _ h3 _ ha.toL))
   |more cs cs2 e m z ha hb hc=>
     obtain⟨hlen,hall⟩:=leq_get _ _ h3
     have hsz:cs'.size=cs.size:=by simpa using hlen.symm
     refine .more _ _ _ _ _ (by omega) hb (fun j v v' p q=>?_)
     have hj:j<cs.size:=by have:=(Array.getElem?_eq_some_iff.1 p).1;omega
     exact cvV_sound hs hτ 20 cs[j] v v' (hall j _ _ (by simp[hj]) (by simpa using p)) (hc j _ _ (by simp[hj]) q)
  ·rename_i es c es' c' hd
   rw[Bool.and_eq_true] at h;have h1:=Nat.eq_of_beq_eq_true h.1;subst h1
   cases ho with
   |map es fs c he=>
     obtain⟨hlen,hall⟩:=leq_get _ _ h.2
     have hsz:es'.size=es.size:=by simpa using hlen.symm
     refine .map _ _ _ ⟨by rw[hsz];exact he.1,fun j e' g p q=>?_⟩
     have hj:j<es.size:=by have:=(Array.getElem?_eq_some_iff.1 p).1;omega
     have hk:=hall j es[j] e' (by simp[hj]) (by simpa using p);simp only[Bool.and_eq_true] at hk;obtain⟨a1,a2,a3⟩:=he.2 j es[j] g (by simp[hj]) q;exact⟨cvV_sound hs hτ 20 _ _ _ hk.1 a1,cvV_sound hs hτ 20 _ _ _ hk.2.1 a2,by rw[←Nat.eq_of_beq_eq_true hk.2.2];exact a3⟩
  ·cases h
theorem cvO_live {o o':Obj} (h:cvO pi sub o o'=true) (hl:live o'=true):live o=true:=by
 unfold cvO at h;split at h
 ·rename_i hd;rw[isDead_eq hd] at hl;cases hl
 ·split at h
  ·rename_i cs e f cs' e' f' hd
   simp only[Bool.and_eq_true] at h;have h2:f=f':=Prod.ext (Nat.eq_of_beq_eq_true h.2.1) (Nat.eq_of_beq_eq_true h.2.2.1);subst h2;exact hl
  ·rfl
  ·cases h
theorem cvO_ok {o o':Obj} (h:cvO pi sub o o'=true):live o'=true∨o'=dead∨∃cs e,o'=oldB cs e:=by
 unfold cvO at h;split at h
 ·rename_i hd;exact .inr (.inl (isDead_eq hd))
 ·split at h
  ·rename_i cs e f cs' e' f' hd
   simp only[Bool.and_eq_true] at h;have h2:f=f':=Prod.ext (Nat.eq_of_beq_eq_true h.2.1) (Nat.eq_of_beq_eq_true h.2.2.1);subst h2;have h3:=h.2.2.2;split at h3
   ·rename_i hl
    refine .inl ?_;rw[Bool.or_eq_true,Bool.and_eq_true] at hl;show (f==(0,0) || (decide (2≤f.1)&&f.2==1))=true;rw[Bool.or_eq_true,Bool.and_eq_true];rcases hl with hl|⟨a,b⟩
    ·exact .inl hl
    ·exact .inr ⟨by simpa using Nat.le_of_ble_eq_true a,by simpa using Nat.eq_of_beq_eq_true b⟩
   ·simp only[Bool.and_eq_true] at h3
    refine .inr (.inr ⟨cs',e',?_⟩);have a:=Nat.eq_of_beq_eq_true h3.1;have b:=Nat.eq_of_beq_eq_true h3.2.1;have c:=leq_eq _ (veq_eq 20) _ _ h3.2.2.1;have c:cs=cs':=Array.toList_inj.1 c;subst c;obtain⟨f1,f2⟩:=f;rw[show f1=0 from a,show f2=cs.size+1 from b]
  ·exact .inl rfl
  ·cases h
theorem cvO_old {o:Obj} {cs:Array Value} {e:TypeId} (h:cvO pi sub o (oldB cs e)=true):o=oldB cs e∧cs.toList.all (AFb 10)=true:=by
 have hd:isDead (oldB cs e)=false:=by
  cases hq:isDead (oldB cs e) with
  |false=>rfl
  |true=>
    have:=isDead_eq hq;simp only[dead,oldB,Obj.cells.injEq,Prod.mk.injEq] at this;omega
 unfold cvO at h;rw[hd] at h
 cases o with
 |cells cs1 e1 f=>
   dsimp only[oldB] at h;simp only[Bool.and_eq_true] at h;have h1:=Nat.eq_of_beq_eq_true h.1;obtain⟨f1,f2⟩:=f;have h2:f1=0:=Nat.eq_of_beq_eq_true h.2.1;have h4:f2=cs.size+1:=Nat.eq_of_beq_eq_true h.2.2.1;subst h1 h2 h4;have h3:=h.2.2.2
   have hl:((((0:Nat),cs.size+1):Nat×Nat)==(0,0) || (Nat.ble 2 0&&Nat.beq (cs.size+1) 1))=false:=by simp
   rw[hl] at h3;simp only[Bool.and_eq_true] at h3;have c:cs1=cs:=Array.toList_inj.1 (leq_eq _ (veq_eq 20) _ _ h3.2.2.1);subst c;exact⟨rfl,h3.2.2.2⟩
 |_=>cases h
theorem WR.conv (hn:G'.n=G.n) (hs:SubOk G G' sub) {H H':Array Obj} {w:World} (hlen:H'.size=pi.length) (hinj:∀i j x:Nat,pi[i]?=some x→pi[j]?=some x→i=j) (hid:∀g,g<G.n→pi[g]?=some g)
 (hcv:∀i x:Nat,pi[i]?=some x→∃o o',H[x]?=some o∧H'[i]?=some o'∧cvO pi sub o o'=true) (h:WR G B w0 τ H w):WR G' B w0 (τ.via pi G'.s) H' w:=by
 have hal:∀k x:Nat,pi[k]?=some x→alive H' k→alive H x:=by
  rintro k x hk ⟨u,hu,hl⟩;obtain⟨o,o',h1,h2,h3⟩:=hcv k x hk;rw[hu] at h2;cases h2;exact⟨o,h1,cvO_live h3 hl⟩
 have hpi:∀(k:Nat) (o:Obj),H'[k]?=some o→∃x,pi[k]?=some x:=by
  intro k o hk;have:=(Array.getElem?_eq_some_iff.1 hk).1;exact⟨_,List.getElem?_eq_getElem (by omega)⟩
 refine⟨fun k o hk hl=>?_,?_,?_,?_,fun k o hk=>?_,fun k cs e hk=>?_,fun g hg=>⟨g,hid g (hn ▸ hg),h.glob g (hn ▸ hg)⟩,h.kp,rfl⟩
 ·obtain⟨x,hx⟩:=hpi k o hk
  obtain⟨o1,o2,h1,h2,h3⟩:=hcv k x hx;rw[hk] at h2;cases h2;obtain⟨r,i,u,a,b,c⟩:=h.blk x o1 h1 (cvO_live h3 hl);exact⟨r,i,u,⟨x,hx,a⟩,b,cvO_or hs h.sy h3 hl c⟩
 ·rintro k r i r' i' ⟨x,hx,a⟩ ⟨y,hy,b⟩
  rw[hx] at hy;cases hy;exact h.fn _ _ _ _ _ a b
 ·rintro k k' r i i' ⟨x,hx,a⟩ ⟨y,hy,b⟩ l1 l2
  have:=h.inj _ _ _ _ _ a b (hal _ _ hx l1) (hal _ _ hy l2);subst this;exact hinj _ _ _ hx hy
 ·rintro k r i ⟨x,hx,a⟩
  have:=h.dom _ _ _ a;refine⟨?_,this.2.1,fun l=>this.2.2 (hal _ _ hx l)⟩;rw[hlen];exact(List.getElem?_eq_some_iff.1 hx).1
 ·obtain⟨x,hx⟩:=hpi k o hk
  obtain⟨o1,o2,h1,h2,h3⟩:=hcv k x hx;rw[hk] at h2;cases h2;exact cvO_ok h3
 ·obtain⟨x,hx⟩:=hpi k _ hk
  obtain⟨o1,o2,h1,h2,h3⟩:=hcv k x hx;rw[hk] at h2;cases h2;obtain⟨e1,hall⟩:=cvO_old h3;subst e1;obtain⟨r,i,cs',e',f,a,b,c,d,q⟩:=h.old x cs e h1;refine⟨r,i,cs',e',f,⟨x,hx,a⟩,b,?_,?_,q⟩
  ·intro j v hv
   obtain⟨v',hv',hr⟩:=c j v hv;have hav:AFb 10 v=true:=List.all_eq_true.1 hall v (List.mem_of_getElem? (by simpa using hv));have:=AFb.eq 10 v v' hav hr;subst this;exact⟨_,hv',AFb.vr 10 _ hav⟩
  ·rintro k' i' ⟨y,hy,b'⟩ l
   exact d y i' b' (hal _ _ hy l)
def incF:Nat→List Nat→Bool
 |_,[]=>true
 |m,x::l=>Nat.ble m x&&incF (x+1) l
theorem incF_le:∀(l:List Nat) (m:Nat),incF m l=true→∀(i x:Nat),l[i]?=some x→m≤x
 | [],m,_,i,x,hx=>by simp at hx
 |y::l,m,h,i,x,hx=>by
   simp only[incF,Bool.and_eq_true] at h;have:=Nat.le_of_ble_eq_true h.1
   cases i with
   |zero=>have:y=x:=by simpa using hx
          omega
   |succ i=>have:=incF_le l (y+1) h.2 i x (by simpa using hx);omega
theorem incF_inj:∀(l:List Nat) (m:Nat),incF m l=true→∀(i j x:Nat),l[i]?=some x→l[j]?=some x→i=j
 | [],m,_,i,j,x,hx,_=>by simp at hx
 |y::l,m,h,i,j,x,hx,hy=>by
   simp only[incF,Bool.and_eq_true] at h
   cases i with
   |zero=>
     cases j with
     |zero=>rfl
     |succ j=>
       have e:y=x:=by simpa using hx
       have:=incF_le l (y+1) h.2 j x (by simpa using hy);omega
   |succ i=>
     cases j with
     |zero=>
       have e:y=x:=by simpa using hy
       have:=incF_le l (y+1) h.2 i x (by simpa using hx);omega
     |succ j=>rw[incF_inj l (y+1) h.2 i j x (by simpa using hx) (by simpa using hy)]
def idF (n:Nat) (pi:List Nat):Bool:=leq Nat.beq (pi.take n) (List.range n)
theorem idF_at {n:Nat} {pi:List Nat} (h:idF n pi=true) {g:Nat} (hg:g<n):pi[g]?=some g:=by
 have e:=leq_eq Nat.beq (fun _ _ h=>Nat.eq_of_beq_eq_true h) _ _ h
 have:(pi.take n)[g]?=some g:=by rw[e];simp[hg]
 rw[List.getElem?_take,if_pos hg] at this;exact this
noncomputable def cvGo (pi:List Nat) (sub:Value→Value→Bool) (w w':TW):List Nat→Nat→Bool
 | [],_=>true
 |x::l,i=>(match w.blk x,w'.blk i with
   |some o,some o'=>cvO pi sub o o'
   |_,_=>false)&&cvGo pi sub w w' l (i+1)
theorem cvGo_at {w w':TW}:∀(l:List Nat) (i:Nat),cvGo pi sub w w' l i=true→∀(j x:Nat),l[j]?=some x→∃o o',w.blk x=some o∧w'.blk (i+j)=some o'∧cvO pi sub o o'=true
 | [],i,_,j,x,hx=>by simp at hx
 |y::l,i,h,j,x,hx=>by
   rw[cvGo,Bool.and_eq_true] at h
   cases j with
   |zero=>
     have e:y=x:=by simpa using hx
     subst e;have h1:=h.1;split at h1
     ·rename_i o o' a b;exact⟨o,o',a,b,h1⟩
     ·cases h1
   |succ j=>
     have:=cvGo_at l (i+1) h.2 j x (by simpa using hx);rw[show i+1+j=i+(j+1) by omega] at this;exact this
noncomputable def cvW (n:Nat) (pi:List Nat) (sub:Value→Value→Bool) (w w':TW):Bool:=Nat.beq w'.n pi.length&&(incF 0 pi&&(idF n pi&&cvGo pi sub w w' pi 0))
theorem WT.conv (hn:G'.n=G.n) (hs:SubOk G G' sub) {T T':TW} {H':Array Obj} {w:World} (hT:Rep T' H') (hc:cvW G.n pi sub T T'=true) (h:WT G B w0 τ T w):WT G' B w0 (τ.via pi G'.s) T' w:=by
 obtain⟨H,hR,h⟩:=h;simp only[cvW,Bool.and_eq_true] at hc;refine⟨H',hT,h.conv hn hs ?_ (incF_inj _ _ hc.2.1) (fun g hg=>idF_at hc.2.2.1 hg) fun i x hx=>?_⟩
 ·rw[hT.size,Nat.eq_of_beq_eq_true hc.1]
 ·obtain⟨o,o',a,b,c⟩:=cvGo_at pi 0 hc.2.2.2 i x hx
  rw[Nat.zero_add] at b;exact⟨o,o',(hR.blk a).1,(hT.blk b).1,c⟩
end
theorem fill_repC:∀(l:List Obj) (w:TW) (H:Array Obj),Rep w H→H.size+l.length≤65536→Rep (fillR l (fun w=>w) w) (H++⟨l⟩)
 | [],w,H,h,_=>by
   have e:H++(⟨[]⟩:Array Obj)=H:=by simp
   rw[e];exact h
 |o::l,w,H,h,hs=>by
   show Rep (w.pushK o fun w=>fillR l (fun w=>w) w) _
   have e1:(H++(⟨o::l⟩:Array Obj))=H.push o++⟨l⟩:=by
    apply Array.toList_inj.1;simp
   have hn:=h.size;simp only[List.length_cons] at hs;have:=h.push (by omega) o;rw[e1];simp only[TW.pushK,forceObj_eq,T.setK_eq,forceNat_eq];exact fill_repC l _ _ this (by simp;omega)
theorem fillT_rep {l:List Obj} (h:l.length≤65536):Rep (fillT l) ⟨l⟩:=by
 have:=fill_repC l ⟨.nil,0⟩ #[] ⟨T.ok_nil 16,rfl,fun k hk=>rfl,by decide⟩ (by simpa using h)
 have e:(#[]:Array Obj)++(⟨l⟩:Array Obj)=⟨l⟩:=by simp
 rw[e] at this;exact this
def tyOk (t x:Value):Bool:=match symTy x with
 |some t'=>sameTy t t'
 |none=>sameTy t x
noncomputable def subE (exps:List Value) (x y:Value):Bool:=(sb x&&veq 60 x y) || (match y with
 |.func (.yield 0) ⟨[]⟩ ⟨[.int .u64 (.ofNat i),t]⟩=>match nthL exps i with
   |some e=>(sb x || isSy x)&&(veq 60 e x&&tyOk t x)
   |none=>false
 |_=>false)
theorem sameTy_trans {a b c:Value} (h1:sameTy a b=true) (h2:sameTy b c=true):sameTy a c=true:=by
 cases a<;>cases b<;>first|(cases h1;done)|(cases c<;>first|(cases h2;done)|(simp[sameTy] at h1 h2 ⊢;try (rw[h1,h2])))
theorem sb_not_sy {x:Value} (h:sb x=true):isSy x=false:=by cases x<;>first|rfl|cases h
theorem sb_no_den {ρ:Nat→Option Value} {x u:Value} (h:sb x=true) (hs:symS ρ x u):False:=by
 obtain⟨n,hn⟩:=hs
 cases n with
 |zero=>unfold den at hn;cases hn
 |succ n=>cases x<;>first|(cases h;done)|(unfold den at hn;cases hn)
theorem subE_ok {n:Nat} {ρ ρ':Nat→Option Value} {dl dl':List (Value×Bool)} {h h'} {exps:List Value}
 (hx:∀(i:Nat) (e:Value),exps[i]?=some e→(sb e=true∨isSy e=true)→∃u,symArg (symS ρ) e u∧ρ' i=some u):SubOk (mkG n ρ dl h) (mkG n ρ' dl' h') (subE exps):=by
 intro x y hxy;unfold subE at hxy;rw[Bool.or_eq_true,Bool.and_eq_true] at hxy;rcases hxy with⟨h1,h2⟩|h2
 ·have:=veq_eq _ _ _ h2
  subst this;refine⟨.inl h1,fun u hu hc=>?_⟩;rcases hc with⟨rfl,hq⟩|⟨hs,_⟩
  ·exact .inl ⟨rfl,hq⟩
  ·rw[sb_not_sy h1] at hs;cases hs
 ·split at h2<;>first|(cases h2;done)|skip
  rename_i i t
  split at h2<;>first|(cases h2;done)|skip
  rename_i e he;rw[nthL_eq] at he;simp only[Bool.and_eq_true,Bool.or_eq_true] at h2;obtain⟨h3,h4,h5⟩:=h2;have:=veq_eq _ _ _ h4;subst this;refine⟨h3,fun u hu hc=>.inr ⟨rfl,?_⟩⟩;obtain⟨u0,ha,hr⟩:=hx i e he h3
  have e1:u0=u:=by
   rcases ha with⟨rfl,hq⟩|ha
   ·rcases hc with⟨rfl,_⟩|⟨hs,hc⟩
    ·rfl
    ·rw[sb_not_sy hq] at hs;cases hs
   ·rcases hc with⟨rfl,hq⟩|⟨hs,hc⟩
    ·exact(sb_no_den hq ha).elim
    ·exact symS_fn ha hc
  subst e1
  have ht:sameTy t u0=true:=by
   unfold tyOk at h5;rcases hc with⟨rfl,hu⟩|⟨hs,hc⟩
   ·have:symTy e=none:=by cases e<;>first|(cases hu;done)|rfl
    rw[this] at h5;exact h5
   ·split at h5
    ·rename_i t' ht'
     exact sameTy_trans h5 ((mkG n ρ dl h).ty _ _ _ hc ht')
    ·rename_i hn
     cases e<;>first|(cases hs;done)|skip
     cases t<;>cases h5
  refine⟨1,?_⟩;unfold den;dsimp only;rw[hr];exact typed_eq.2 ⟨rfl,ht⟩
theorem den_wider {ρ ρ':Nat→Option Value} (h:∀i v,ρ i=some v→ρ' i=some v):∀n e v,den ρ n e=some v→den ρ' n e=some v:=by
 intro n
 induction n with
 |zero=>intro e v hd;unfold den at hd;cases hd
 |succ n ih=>
   intro e v hd;unfold den at hd ⊢
   split at hd<;>first|(cases hd;done)|skip
   rotate_left
   ·exact h _ _ hd
   rename_i m l xs c t hm;cases hm
   cases l with
   |zero=>
     dsimp only at hd ⊢
     split at hd<;>first|(cases hd;done)|skip
     rename_i i;obtain⟨h1,h2⟩:=typed_eq.1 hd;exact typed_eq.2 ⟨h _ _ h1,h2⟩
   |succ l=>
     dsimp only at hd ⊢
     split at hd<;>first|(cases hd;done)|skip
     rename_i vs hvs;rw[denL_mono ih hvs];exact hd
theorem symS_wider {ρ ρ':Nat→Option Value} (h:∀i v,ρ i=some v→ρ' i=some v) {e v:Value} (hs:symS ρ e v):symS ρ' e v:=by
 obtain⟨n,hn⟩:=hs;exact⟨n,den_wider h n e v hn⟩
open Classical in
noncomputable def fr (ft:Nat→Prop) (w:World):FM:=fun r=>if ft r then none else w.heap[r]?
theorem fr_none {ft:Nat→Prop} {w:World} {r:Nat} (h:fr ft w r=none) (hr:r<w.heap.size):ft r:=by
 unfold fr at h;split at h
 ·assumption
 ·rw[Array.getElem?_eq_getElem hr] at h;cases h
theorem fr_of {ft:Nat→Prop} {w:World} {r:Nat} (h:¬ft r):fr ft w r=w.heap[r]?:=if_neg h
theorem fr_at {ft:Nat→Prop} {w:World} {r:Nat} (h:ft r):fr ft w r=none:=if_pos h
theorem fr_kp (ft:Nat→Prop) (w:World):Kp (fr ft w) w w:=⟨rfl,rfl,rfl,Nat.le_refl _,fun j o hj=>by
 unfold fr at hj;split at hj
 ·cases hj
 ·exact hj⟩
section
variable {G G':Gl} {B:FM} {w0:World} {τ:Rel} {T:TW} {w:World}
theorem WT.reframe (h:WT G B w0 τ T w) {ft:Nat→Prop} (hft:∀r,B r=none→r<w.heap.size→ft r):WT G (fr ft w) w τ T w:=by
 obtain⟨H,hR,h⟩:=h;refine⟨H,hR,h.blk,h.fn,h.inj,fun k r i ht=>?_,h.ok,fun k cs e hk=>?_,h.glob,fr_kp ft w,h.sy⟩
 ·have:=h.dom _ _ _ ht
  exact⟨this.1,this.2.1,fun l=>fr_at (hft _ (this.2.2 l) this.2.1)⟩
 ·obtain⟨r,i,cs',e',f,a,b,c,d,q⟩:=h.old k cs e hk
  exact⟨r,i,cs',e',f,a,b,c,d,.inl (h.dom _ _ _ a).2.1⟩
theorem WT.wider (hn:G'.n=G.n) (hs:∀e v,G.s e v→G'.s e v) (h:WT G B w0 τ T w):WT G' B w0 ⟨τ.r,G'.s⟩ T w:=by
 obtain⟨H,hR,h⟩:=h;have hle:τ.le ⟨τ.r,G'.s⟩:=⟨fun _ _ _ x=>x,fun e v x=>hs e v (h.sy ▸ x)⟩;refine⟨H,hR,fun k o hk hl=>?_,h.fn,h.inj,h.dom,h.ok,fun k cs e hk=>?_,fun g hg=>h.glob g (hn ▸ hg),h.kp,rfl⟩
 ·obtain⟨r,i,o',a,b,c⟩:=h.blk k o hk hl
  exact⟨r,i,o',a,b,c.mono hle⟩
 ·obtain⟨r,i,cs',e',f,a,b,c,d,q⟩:=h.old k cs e hk
  exact⟨r,i,cs',e',f,a,b,c.mono hle,d,q⟩
end
structure St (G:Gl) (l:List Obj) (τ:Rel) (ft:Nat→Prop) (w:World):Prop where
 wt:WT G (fr ft w) w τ (fillT l) w
 gl:∀r,r<G.n→¬ft r
def noOld (n:Nat) (l:List Obj):Bool:=(l.drop n).all fun o=>live o || isDead o
theorem noOld_lt {n:Nat} {l:List Obj} (h:noOld n l=true) {k:Nat} {cs:Array Value} {e:TypeId} (hk:l[k]?=some (oldB cs e)):k<n:=by
 by_cases hlt:k<n
 ·exact hlt
 ·exfalso
  have:oldB cs e∈l.drop n:=by
   refine List.mem_of_getElem? (i:=k-n) ?_;rw[List.getElem?_drop,show n+(k-n)=k by omega];exact hk
  have h1:=List.all_eq_true.1 h _ this;rw[not_live_old,Bool.false_or] at h1;have:=isDead_eq h1;simp only[dead,oldB,Obj.cells.injEq,Prod.mk.injEq] at this;omega
section
variable {G G' G0:Gl} {τ:Rel} {l l':List Obj} {ft:Nat→Prop} {w:World}
theorem St.wider (hn:G'.n=G.n) (hs:∀e v,G.s e v→G'.s e v) (h:St G l τ ft w):St G' l ⟨τ.r,G'.s⟩ ft w:=⟨h.wt.wider hn hs,fun r hr=>h.gl r (hn ▸ hr)⟩
theorem St.keep (hl:l.length≤65536) (ho:noOld G.n l=true) (h:St G l τ ft w) {w':World} (hsz:w.heap.size≤w'.heap.size) (hk:∀r,r<w.heap.size→(ft r∨r<G.n)→w'.heap[r]?=w.heap[r]?):St G l τ ft w':=by
 refine⟨?_,h.gl⟩;obtain⟨H,hR,hw⟩:=h.wt;refine⟨H,hR,fun k o hk2 hl2=>?_,hw.fn,hw.inj,fun k r i ht=>?_,hw.ok,fun k cs e hk2=>?_,hw.glob,fr_kp ft w',hw.sy⟩
 ·obtain⟨r,i,o',a,b,c⟩:=hw.blk k o hk2 hl2
  have hd:=hw.dom _ _ _ a;exact⟨r,i,o',a,by rw[hk r hd.2.1 (.inl (fr_none (hd.2.2 ⟨o,hk2,hl2⟩) hd.2.1))];exact b,c⟩
 ·have hd:=hw.dom _ _ _ ht
  exact⟨hd.1,by omega,fun l=>fr_at (fr_none (hd.2.2 l) hd.2.1)⟩
 ·obtain⟨r,i,cs',e',f,a,b,c,d,q⟩:=hw.old k cs e hk2
  have hd:=hw.dom _ _ _ a
  have hkn:k<G.n:=by
   refine noOld_lt ho (cs:=cs) (e:=e) ?_;have hr2:=fillT_rep hl;have h1:=hR.get k (by have:=hR.lt;have:=hR.size;have:=hd.1;omega);have h2:=hr2.get k (by have:=hR.lt;have:=hR.size;have:=hd.1;omega);rw[hk2] at h1;rw[h1] at h2;simpa using h2.symm
  have hrk:k=r:=(hw.fn _ _ _ _ _ (hw.glob k hkn) a).1;exact⟨r,i,cs',e',f,a,by rw[hk r hd.2.1 (.inr (by omega))];exact b,c,d,.inl (by omega)⟩
end
noncomputable def askW (ev:EvF) (f:Nat) (az:List Value) (l:List Obj) (v:Value) (n:Nat) (pi:List Nat) (exps:List Value) (l':List Obj):Bool:=
 fillR l (fun T=>fillR l' (fun T'=>match ev f ⟨az⟩ T with
  |some (v1,T1)=>veq 60 v1 v&&cvW n pi (subE exps) T1 T'
  |none=>false) ⟨.nil,0⟩) ⟨.nil,0⟩
theorem St.call {P:Program} {G G':Gl} {τ:Rel} {l l':List Obj} {ft:Nat→Prop} {w:World} {ev:EvF} {f:Nat} {az:List Value} {v:Value} {pi:List Nat} {exps:List Value} {args:Array Value} (h:St G l τ ft w) (hev:EvOkT P G ev)
 (hl':l'.length≤65536) (hn:G'.n=G.n) (hs:SubOk G G' (subE exps)) (ha:AR τ ⟨az⟩ args) (hk:askW ev f az l v G.n pi exps l'=true) :
 Calls P f args w fun e w'=>∃ τ1 v',e=.returned v'∧τ.le τ1∧τ1.s=G.s∧VR τ1 v v'∧St G' l' (τ1.via pi G'.s) (fun r=>ft r∨(w.heap.size≤r∧r<w'.heap.size)) w'∧Kp (fr ft w) w w':=by
 unfold askW at hk;rw[fillR_fillT,fillR_fillT] at hk
 split at hk<;>first|(cases hk;done)|skip
 rename_i v1 T1 hrun;rw[Bool.and_eq_true] at hk;have:=veq_eq _ _ _ hk.1;subst this;refine(hev f _ _ _ _ hrun _ w τ args w ha h.wt).mono ?_;rintro e w' ⟨τ1,v',rfl,hle,hv,hw⟩
 have hkp:Kp (fr ft w) w w':=by obtain⟨H,_,hw⟩:=hw;exact hw.kp
 have hsy:τ1.s=G.s:=by obtain⟨H,_,hw⟩:=hw;exact hw.sy
 refine⟨τ1,v',rfl,hle,hsy,hv,⟨?_,?_⟩,hkp⟩
 ·refine(WT.conv hn hs (fillT_rep hl') hk.2 hw).reframe fun r hr hlt=>?_
  by_cases h1:r<w.heap.size
  ·exact .inl (fr_none hr h1)
  ·exact .inr ⟨by omega,hlt⟩
 ·rintro r hr (h1|h1)
  ·exact h.gl r (hn ▸ hr) h1
  ·have:G.n≤w.heap.size:=by
    have:=hn ▸ hr;exact WT.size (by omega) h.wt
   have:=hn ▸ hr;omega
def sy (k:IntKind) (i:Nat):Value:=.func (.yield 0) ⟨[]⟩ ⟨[.int .u64 (.ofNat i),.int k 0]⟩
def bn (b:Nat) (t:Value) (x y:Value):Value:=.func (.yield 1) ⟨[x,y]⟩ ⟨[.int .u64 (.ofNat b),t]⟩
def cv (k:IntKind) (x:Value):Value:=.func (.yield 2) ⟨[x]⟩ ⟨[.int .u64 (.ofNat 0),.int k 0]⟩
def nt (x:Value):Value:=.func (.yield 3) ⟨[x]⟩ ⟨[.int .u64 (.ofNat 0),.bool false]⟩
def an (x y:Value):Value:=.func (.yield 4) ⟨[x,y]⟩ ⟨[.int .u64 (.ofNat 0),.bool false]⟩
def eb (x y:Value):Value:=.func (.yield 5) ⟨[x,y]⟩ ⟨[.int .u64 (.ofNat 0),.bool false]⟩
def ad (x y:Value):Value:=.func (.yield 6) ⟨[x,y]⟩ ⟨[.int .u64 (.ofNat 0),.int .u64 (.ofNat 0)]⟩
def Da (ρ:Nat→Option Value) (x v:Value):Prop:=symArg (symS ρ) x v
section
variable {ρ:Nat→Option Value}
theorem Da.nat (k:IntKind) (n:Nat):Da ρ (.int k (.ofNat n)) (.int k (n:Int)):=.inl ⟨rfl,rfl⟩
theorem Da.giv {k:IntKind} {i:Nat} {n:Int} (h:ρ i=some (.int k n)):Da ρ (sy k i) (.int k n):=.inr ⟨1,by
 unfold Ev.sy den;dsimp only;rw[h]
 exact typed_eq.2 ⟨rfl,by simp[sameTy]⟩⟩
theorem Da.two {l:Nat} {c t x y a b v:Value} (hx:Da ρ x a) (hy:Da ρ y b) (hv:symApp (l+1) [a,b] c t=some v) (ht:sameTy t v=true):Da ρ (.func (.yield (l+1)) ⟨[x,y]⟩ ⟨[c,t]⟩) v:=
 .inr ((mkG 0 ρ [] (fun e b h=>by cases h)).cl l [x,y] [a,b] c t v (.cons _ _ _ _ hx (.cons _ _ _ _ hy .nil)) hv ht)
theorem Da.one {l:Nat} {c t x a v:Value} (hx:Da ρ x a) (hv:symApp (l+1) [a] c t=some v) (ht:sameTy t v=true):Da ρ (.func (.yield (l+1)) ⟨[x]⟩ ⟨[c,t]⟩) v:=
 .inr ((mkG 0 ρ [] (fun e b h=>by cases h)).cl l [x] [a] c t v (.cons _ _ _ _ hx .nil) hv ht)
theorem Da.bin {c:Nat} {t x y a b v:Value} (hx:Da ρ x a) (hy:Da ρ y b) (hv:binV (binD c) a b=some v) (ht:sameTy t v=true):Da ρ (bn c t x y) v:=Da.two hx hy hv ht
def lim:IntKind→Nat
 |.u64=>18446744073709551616
 |.u32=>4294967296
 |.u8=>256
 |.i64=>9223372036854775808
 |_=>0
theorem wrap_lim {k:IntKind} {n:Nat} (h:n<lim k):k.wrap (n:Int)=n:=by
 cases k<;>simp only[lim] at h<;>simp[IntKind.wrap,IntKind.bits,IntKind.signed]<;>omega
theorem Da.cvt {k k':IntKind} {x:Value} {a:Nat} (hx:Da ρ x (.int k' a)) (h:a<lim k):Da ρ (cv k x) (.int k a):=
 Da.one hx (by show some (Value.int k (k.wrap a))=_;rw[wrap_lim h]) (by simp[sameTy])
theorem Da.add {k:IntKind} {t x y:Value} {a b:Nat} (ht:t=.int k 0) (hx:Da ρ x (.int k a)) (hy:Da ρ y (.int k b)) (h:a+b<lim k):Da ρ (bn 0 t x y) (.int k (a+b:Nat)):=by
 subst ht;refine Da.bin hx hy ?_ (by simp[sameTy]);show (if k=k∨_ then _ else _)=_;rw[if_pos (.inl rfl)];show some (Value.int k (k.wrap ((a:Int)+b)))=_;rw[←Int.natCast_add,wrap_lim h]
theorem Da.sub {k:IntKind} {t x y:Value} {a b:Nat} (ht:t=.int k 0) (hx:Da ρ x (.int k a)) (hy:Da ρ y (.int k b)) (h:b≤a) (ha:a<lim k):Da ρ (bn 1 t x y) (.int k (a-b:Nat)):=by
 subst ht;refine Da.bin hx hy ?_ (by simp[sameTy]);show (if k=k∨_ then _ else _)=_;rw[if_pos (.inl rfl)];show some (Value.int k (k.wrap ((a:Int)-b)))=_;rw[←Int.natCast_sub h,wrap_lim (by omega)]
theorem Da.quo {k:IntKind} {t x y:Value} {a b:Nat} (ht:t=.int k 0) (hx:Da ρ x (.int k a)) (hy:Da ρ y (.int k b)) (h:0<b) (ha:a<lim k):Da ρ (bn 3 t x y) (.int k (a/b:Nat)):=by
 subst ht;refine Da.bin hx hy ?_ (by simp[sameTy]);show (if k=k∨_ then _ else _)=_;rw[if_pos (.inl rfl)];show (if (b:Int)=0 then none else some (Value.int k (k.wrap ((a:Int).tdiv b))))=_;rw[if_neg (by omega)]
 have:(a:Int).tdiv b=((a/b:Nat):Int):=by rw[Int.tdiv_eq_ediv_of_nonneg (by omega)];rfl
 rw[this,wrap_lim (Nat.lt_of_le_of_lt (Nat.div_le_self _ _) ha)]
theorem Da.rem {k:IntKind} {t x y:Value} {a b:Nat} (ht:t=.int k 0) (hx:Da ρ x (.int k a)) (hy:Da ρ y (.int k b)) (h:0<b):Da ρ (bn 4 t x y) (.int k (a%b:Nat)):=by
 subst ht;refine Da.bin hx hy ?_ (by simp[sameTy]);show (if k=k∨_ then _ else _)=_;rw[if_pos (.inl rfl)];show (if (b:Int)=0 then none else some (Value.int k ((a:Int).tmod b)))=_;rw[if_neg (by omega)]
 have:(a:Int).tmod b=((a%b:Nat):Int):=by rw[Int.tmod_eq_emod_of_nonneg (by omega)];rfl
 rw[this]
theorem Da.cmp {k:IntKind} {c:Nat} {x y:Value} {a b:Nat} {q:Bool} (hx:Da ρ x (.int k a)) (hy:Da ρ y (.int k b)) (hq:binI (binD c) k a b=some (.bool q)):Da ρ (bn c (.bool false) x y) (.bool q):=by
 refine Da.bin hx hy ?_ (by simp[sameTy]);show (if k=k∨_ then _ else _)=_;rw[if_pos (.inl rfl)];exact hq
theorem Da.eql {k:IntKind} {x y:Value} {a b:Nat} {q:Bool} (hx:Da ρ x (.int k a)) (hy:Da ρ y (.int k b)) (hq:(a=b)↔q=true):Da ρ (bn 11 (.bool false) x y) (.bool q):=
 Da.cmp hx hy (by
  show some (Value.bool ((a:Int)==b))=_;congr 2
  rw[Bool.eq_iff_iff];simp only[beq_iff_eq];rw[←hq];omega)
theorem Da.neq {k:IntKind} {x y:Value} {a b:Nat} {q:Bool} (hx:Da ρ x (.int k a)) (hy:Da ρ y (.int k b)) (hq:(a≠b)↔q=true):Da ρ (bn 12 (.bool false) x y) (.bool q):=
 Da.cmp hx hy (by
  show some (Value.bool ((a:Int) != b))=_;congr 2
  rw[Bool.eq_iff_iff];simp only[bne_iff_ne];rw[←hq];omega)
theorem Da.lss {k:IntKind} {x y:Value} {a b:Nat} {q:Bool} (hx:Da ρ x (.int k a)) (hy:Da ρ y (.int k b)) (hq:(a<b)↔q=true):Da ρ (bn 13 (.bool false) x y) (.bool q):=
 Da.cmp hx hy (by
  show some (Value.bool (decide ((a:Int)<b)))=_;congr 2
  rw[Bool.eq_iff_iff];simp only[decide_eq_true_eq];rw[←hq];omega)
theorem Da.leq {k:IntKind} {x y:Value} {a b:Nat} {q:Bool} (hx:Da ρ x (.int k a)) (hy:Da ρ y (.int k b)) (hq:(a≤b)↔q=true):Da ρ (bn 14 (.bool false) x y) (.bool q):=
 Da.cmp hx hy (by
  show some (Value.bool (decide ((a:Int)≤b)))=_;congr 2
  rw[Bool.eq_iff_iff];simp only[decide_eq_true_eq];rw[←hq];omega)
theorem Da.gtr {k:IntKind} {x y:Value} {a b:Nat} {q:Bool} (hx:Da ρ x (.int k a)) (hy:Da ρ y (.int k b)) (hq:(b<a)↔q=true):Da ρ (bn 15 (.bool false) x y) (.bool q):=
 Da.cmp hx hy (by
  show some (Value.bool (decide ((a:Int) > b)))=_;congr 2
  rw[Bool.eq_iff_iff];simp only[decide_eq_true_eq];rw[←hq];omega)
theorem Da.geq {k:IntKind} {x y:Value} {a b:Nat} {q:Bool} (hx:Da ρ x (.int k a)) (hy:Da ρ y (.int k b)) (hq:(b≤a)↔q=true):Da ρ (bn 16 (.bool false) x y) (.bool q):=
 Da.cmp hx hy (by
  show some (Value.bool (decide ((a:Int)≥b)))=_;congr 2
  rw[Bool.eq_iff_iff];simp only[decide_eq_true_eq];rw[←hq];omega)
theorem bv_nat (a:Nat) (h:a<18446744073709551616):(BitVec.ofInt 64 (a:Int)).toNat=a:=by
 rw[BitVec.toNat_ofInt];omega
theorem Da.bor {t x y:Value} {a b:Nat} (ht:t=.int .u64 0) (hx:Da ρ x (.int .u64 a)) (hy:Da ρ y (.int .u64 b)) (ha:a<18446744073709551616) (hb:b<18446744073709551616):Da ρ (bn 6 t x y) (.int .u64 (a ||| b:Nat)):=by
 subst ht;refine Da.bin hx hy ?_ (by simp[sameTy]);show some (Value.int .u64 (IntKind.u64.wrap (BitVec.ofInt 64 (a:Int) ||| BitVec.ofInt 64 (b:Int)).toNat))=_;rw[BitVec.toNat_or,bv_nat a ha,bv_nat b hb,wrap_lim (Nat.or_lt_two_pow (n:=64) (by omega) (by omega))]
theorem Da.shr {k:IntKind} {t x y:Value} {a b:Nat} (ht:t=.int .u64 0) (hx:Da ρ x (.int .u64 a)) (hy:Da ρ y (.int k b)) (hb:b≤64):Da ρ (bn 9 t x y) (.int .u64 (a/2^b:Nat)):=by
 subst ht;refine Da.bin hx hy ?_ (by simp[sameTy]);show (if IntKind.u64=k∨_ then _ else _)=_;rw[if_pos (.inr rfl)];show (if (b:Int)<0 then none else some (Value.int .u64 ((a:Int).fdiv (2^min (b:Int).toNat 64))))=_;rw[if_neg (by omega),Int.toNat_natCast,Nat.min_eq_left hb]
 have:(a:Int).fdiv (2^b)=((a/2^b:Nat):Int):=by
  rw[Int.fdiv_eq_ediv_of_nonneg _ (Int.le_of_lt (Int.pow_pos (by omega)))];rw[Int.natCast_ediv,Int.natCast_pow];rfl
 rw[this]
theorem Da.not {x:Value} {b:Bool} (hx:Da ρ x (.bool b)):Da ρ (nt x) (.bool (!b)):=Da.one hx rfl rfl
theorem Da.and {x y:Value} {a b:Bool} (hx:Da ρ x (.bool a)) (hy:Da ρ y (.bool b)):Da ρ (an x y) (.bool (a&&b)):=Da.two hx hy rfl rfl
theorem Da.add64 {x y:Value} {a b:Nat} (hx:Da ρ x (.int .u64 a)) (hy:Da ρ y (.int .u64 b)) (h:a+b<18446744073709551616):Da ρ (ad x y) (.int .u64 (a+b:Nat)):=
 Da.two hx hy (by
  show some (Value.int .u64 (addN a b))=_
  have:addN a b=((a+b:Nat):Int):=by
   unfold addN;rw[Int.toNat_natCast,Int.toNat_natCast,if_pos (Nat.div_eq_of_lt h),Nat.mod_eq_of_lt h]
  rw[this]) (by simp[sameTy])
theorem Da.to {x v v':Value} (h:Da ρ x v) (e:v=v'):Da ρ x v':=e ▸ h
theorem Da.sym {x v:Value} (h:Da ρ x v) (hx:sb x=false):symS ρ x v:=by
 rcases h with⟨rfl,h⟩|h
 ·rw[hx] at h;cases h
 ·exact h
end
def DL (ρ:Nat→Option Value) (dl:List (Value×Bool)):Prop:=∀e b,(e,b)∈dl→∃m,den ρ m e=some (.bool b)
theorem DL.nil (ρ:Nat→Option Value):DL ρ []:=fun e b h=>by cases h
theorem DL.cons {ρ:Nat→Option Value} {dl:List (Value×Bool)} {e:Value} {b:Bool} (h:Da ρ e (.bool b)) (hs:sb e=false) (ht:DL ρ dl):DL ρ ((e,b)::dl):=by
 intro e' b' hm;rw[List.mem_cons] at hm;rcases hm with hm|hm
 ·cases hm;exact h.sym hs
 ·exact ht _ _ hm
def EX (ρ ρ':Nat→Option Value) (i:Nat) (exps:List Value):Prop:=∀(j:Nat) (e:Value),exps[j]?=some e→(sb e=true∨isSy e=true)→∃u,symArg (symS ρ) e u∧ρ' (i+j)=some u
theorem EX.nil (ρ ρ':Nat→Option Value) (i:Nat):EX ρ ρ' i []:=fun j e h=>by simp at h
theorem EX.cons {ρ ρ':Nat→Option Value} {i:Nat} {exps:List Value} {e v:Value} (h:Da ρ e v) (hr:ρ' i=some v) (ht:EX ρ ρ' (i+1) exps):EX ρ ρ' i (e::exps):=by
 intro j x hx hs
 cases j with
 |zero=>
   have:e=x:=by simpa using hx
   subst this;exact⟨v,h,hr⟩
 |succ j=>
   obtain⟨u,a,b⟩:=ht j x (by simpa using hx) hs;exact⟨u,a,by rw[show i+(j+1)=i+1+j by omega];exact b⟩
theorem EX.skip {ρ ρ':Nat→Option Value} {i:Nat} {exps:List Value} (ht:EX ρ ρ' (i+1) exps):EX ρ ρ' i (.nilFunc::exps):=by
 intro j x hx hs
 cases j with
 |zero=>
   have:Value.nilFunc=x:=by simpa using hx
   subst this
   rcases hs with hs|hs<;>cases hs
 |succ j=>
   obtain⟨u,a,b⟩:=ht j x (by simpa using hx) hs;exact⟨u,a,by rw[show i+(j+1)=i+1+j by omega];exact b⟩
theorem EX.ok {n:Nat} {ρ ρ':Nat→Option Value} {dl dl':List (Value×Bool)} {h h'} {exps:List Value} (hx:EX ρ ρ' 0 exps):SubOk (mkG n ρ dl h) (mkG n ρ' dl' h') (subE exps):=subE_ok fun i e he hs=>by
 obtain⟨u,a,b⟩:=hx i e he hs;exact⟨u,a,by rw[←b,Nat.zero_add]⟩
end Go.Ev
