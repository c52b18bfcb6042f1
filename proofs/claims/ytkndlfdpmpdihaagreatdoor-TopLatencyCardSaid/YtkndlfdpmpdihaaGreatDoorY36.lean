/- lives() in whatever world in which the two tables lie. No conditions beyond those that the statement shows. -/
import Derived.Test.YtkndlfdpmpdihaaGreatDoorY35
set_option linter.unusedVariables false
set_option linter.unusedSimpArgs false
namespace Go.Ev
open Go.Proofs Go.Proofs.YtkndlfdpmpdihaaGreatDoor Go.RowKit
def Tabs (w:World):Prop:=8≤w.heap.size∧(∃e f,w.heap[0]?=some (.cells ⟨pow10⟩ e f))∧∃e f,w.heap[2]?=some (.cells ⟨tab64⟩ e f)
theorem Tabs.below {w w':World} {n:Nat} (h:Tabs w) (hn:8≤n) (hb:Below n w w'):Tabs w':=by
 obtain⟨h1,⟨e,f,h2⟩,e2,f2,h3⟩:=h;have hs:=hb.size;refine⟨by omega,⟨e,f,?_⟩,e2,f2,?_⟩
 ·rw[hb.block 0 (by omega)];exact h2
 ·rw[hb.block 2 (by omega)];exact h3
theorem g8_at (g:Nat) (o:Obj) (h:(⟨g8⟩:Array Obj)[g]?=some o):(o=dead∧g<8)∨(g=0∧o=oldB ⟨pow10⟩ 0)∨(g=2∧o=oldB ⟨tab64⟩ 0):=by
 have h:g8[g]?=some o:=by simpa using h
 match g,h with
 | 0,h=>exact .inr (.inl ⟨rfl,(Option.some.inj h).symm⟩)
 | 1,h=>exact .inl ⟨(Option.some.inj h).symm,by omega⟩
 | 2,h=>exact .inr (.inr ⟨rfl,(Option.some.inj h).symm⟩)
 | 3,h=>exact .inl ⟨(Option.some.inj h).symm,by omega⟩
 | 4,h=>exact .inl ⟨(Option.some.inj h).symm,by omega⟩
 | 5,h=>exact .inl ⟨(Option.some.inj h).symm,by omega⟩
 | 6,h=>exact .inl ⟨(Option.some.inj h).symm,by omega⟩
 | 7,h=>exact .inl ⟨(Option.some.inj h).symm,by omega⟩
 |n+8,h=>cases h
theorem Tabs.start {w:World} {G:Gl} (hG:G.n=8) (h:Tabs w):WR G (fun r=>w.heap[r]?) w ⟨fun k r i=>k=r∧k<8∧i=none,G.s⟩ ⟨g8⟩ w:=by
 obtain⟨h1,⟨e0,f0,h0⟩,e2,f2,h2⟩:=h
 have hnl:∀(g:Nat) (o:Obj),(⟨g8⟩:Array Obj)[g]?=some o→live o=false:=by
  intro g o ho;rcases g8_at g o ho with⟨rfl,_⟩|⟨_,rfl⟩|⟨_,rfl⟩
  ·rfl
  ·exact not_live_old _ _
  ·exact not_live_old _ _
 have hold:∀(k:Nat) (cs:Array Value) (f:Nat×Nat) (e':TypeId),k<8→w.heap[k]?=some (.cells cs e' f)→cs.toList.all (AFb 10)=true→∃(r2:Nat) (j:Option (Nat×Nat)) (cs':Array Value) (e'':TypeId) (f':Nat×Nat),(k=r2∧k<8∧j=none)∧w.heap[r2]?=some (.cells cs' e'' f')∧LR (⟨fun k r i=>k=r∧k<8∧i=none,G.s⟩:Rel) cs cs' ∧
  (∀(k':Nat) (i':Option (Nat×Nat)),(k'=r2∧k'<8∧i'=none)→¬alive (⟨g8⟩:Array Obj) k')∧(r2<w.heap.size∨(fun r=>w.heap[r]?) r2=none):=by
  intro k cs f e' hk hw ha;refine⟨k,none,cs,e',f,⟨rfl,hk,rfl⟩,hw,(AR.refl_of (fun i v hv=>?_)).lr,?_,.inl (by omega)⟩
  ·refine AFb.vr 10 v (List.all_eq_true.1 ha v ?_)
   rw[←Array.getElem?_toList] at hv;exact List.mem_of_getElem? hv
  ·rintro k' i' ⟨rfl,_,rfl⟩ ⟨u,hu,hl⟩
   rw[hnl _ _ hu] at hl;cases hl
 refine⟨fun k o hk hl=>?_,?_,?_,?_,fun k o hk=>?_,fun k cs e hk=>?_,fun g hg=>⟨rfl,hG ▸ hg,rfl⟩,Kp.start w,rfl⟩
 ·rw[hnl k o hk] at hl;cases hl
 ·rintro k r i r' i' ⟨rfl,_,rfl⟩ ⟨rfl,_,rfl⟩;exact⟨rfl,rfl⟩
 ·rintro k k' r i i' ⟨rfl,_,rfl⟩ ⟨rfl,_,rfl⟩ _ _;rfl
 ·rintro k r i ⟨rfl,hk,rfl⟩
  refine⟨hk,by omega,?_⟩;rintro ⟨o,ho,hl⟩;rw[hnl k o ho] at hl;cases hl
 ·rcases g8_at k o hk with⟨rfl,_⟩|⟨_,rfl⟩|⟨_,rfl⟩
  ·exact .inr (.inl rfl)
  ·exact .inr (.inr ⟨_,_,rfl⟩)
  ·exact .inr (.inr ⟨_,_,rfl⟩)
 ·rcases g8_at k _ hk with⟨hd,_⟩|⟨rfl,he⟩|⟨rfl,he⟩
  ·simp only[dead,oldB,Obj.cells.injEq,Prod.mk.injEq] at hd
   omega
  ·simp only[oldB,Obj.cells.injEq] at he
   obtain⟨rfl,rfl,_⟩:=he;exact hold 0 _ f0 e0 (by omega) h0 (by decide)
  ·simp only[oldB,Obj.cells.injEq] at he
   obtain⟨rfl,rfl,_⟩:=he;exact hold 2 _ f2 e2 (by omega) h2 (by decide)
theorem fill_rep:∀(l:List Obj) (w:TW) (H:Array Obj),Rep w H→H.size+l.length≤65536→Rep (fillR l (fun w=>w) w) (H++⟨l⟩)
 | [],w,H,h,_=>by
   have e:H++(⟨[]⟩:Array Obj)=H:=by simp
   rw[e];exact h
 |o::l,w,H,h,hs=>by
   show Rep (w.pushK o fun w=>fillR l (fun w=>w) w) _
   have e1:(H++(⟨o::l⟩:Array Obj))=H.push o++⟨l⟩:=by
    apply Array.toList_inj.1;simp
   have hn:=h.size;simp only[List.length_cons] at hs;have:=h.push (by omega) o;rw[e1];simp only[TW.pushK,forceObj_eq,T.setK_eq,forceNat_eq];exact fill_rep l _ _ this (by simp;omega)
theorem g8_rep:Rep (fillT g8) ⟨g8⟩:=by
 have:=fill_rep g8 ⟨.nil,0⟩ #[] ⟨T.ok_nil 16,rfl,fun k hk=>rfl,by decide⟩ (by decide)
 have e:(#[]:Array Obj)++(⟨g8⟩:Array Obj)=⟨g8⟩:=by simp
 rw[e] at this;exact this
theorem lives_any (w:World) (h:Tabs w):Calls Tryz.prog 21 #[] w fun e w'=>e=.returned (.bool true)∧Below w.heap.size w w':=by
 have hr:=lives_run;rw[fillR_fillT] at hr;obtain⟨w1,hr⟩:=ansIs_spec hr;refine(evL_ok 21 #[] (fillT g8) _ w1 hr _ w _ #[] w (AR.nil _) ⟨_,g8_rep,h.start (G:=G8) rfl⟩).mono ?_;rintro e w' ⟨τ',v',rfl,_,hv,H,_,hw⟩;cases hv;exact⟨rfl,hw.kp.below⟩
end Go.Ev
