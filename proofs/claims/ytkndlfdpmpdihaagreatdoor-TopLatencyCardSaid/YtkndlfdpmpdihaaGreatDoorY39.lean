/- States of the board in whatever world, told az small worlds with symbols; calls between them. No conditions beyond those that each statement shows. -/
import Derived.Test.YtkndlfdpmpdihaaGreatDoorY37
import Derived.Test.YtkndlfdpmpdihaaGreatDoorY29
import Derived.Test.YtkndlfdpmpdihaaGreatDoorY38
import Derived.KernelRfl
namespace Go.Proofs.YtkndlfdpmpdihaaGreatDoor
open Go.RowKit Go.Ev
set_option linter.unusedVariables false
set_option linter.unusedSimpArgs false
set_option maxRecDepth 1000000
theorem drawsD {G:Gl} (ev:EvF) (h:EvOkT Tryz.prog G ev):DrOkW Tryz.prog G (evalDrawnP Tryz.prog G ev):=evalDrawnP_okW (by kernel_rfl) ev h
noncomputable def evD (G:Gl):EvF:=evY Tryz.prog G (evalDrawnP Tryz.prog G) (orB addB regionsT) 3000 100
theorem evD_ok (G:Gl):EvOkT Tryz.prog G (evD G):=evY_ok drawsD (orB_ok addB_ok regionsT_ok) 3000 100
def grow (ft:Nat→Prop) (w w':World):Nat→Prop:=fun r=>ft r∨(w.heap.size≤r∧r<w'.heap.size)
def pl (ρ:Nat→Option Value):Gl:=mkG 8 ρ [] (DL.nil ρ)
def Sx (l:List Obj) (ks:List (Nat×Nat)) (ρ:Nat→Option Value) (ft:Nat→Prop) (w:World):Prop:=∃ τ:Rel,St (pl ρ) l τ ft w∧∀p∈ks,∃i,τ.r p.1 p.2 i
section
variable {l l':List Obj} {ks:List (Nat×Nat)} {ρ ρ1 ρ':Nat→Option Value} {ft:Nat→Prop} {w:World}
theorem Sx.go {dl:List (Value×Bool)} {exps ag:List Value} {pi:List Nat} {f:Nat} {v:Value} {args:Array Value} (h:Sx l ks ρ ft w) (hw:∀i v,ρ i=some v→ρ1 i=some v) (hdl:DL ρ1 dl) (hex:EX ρ1 ρ' 0 exps)
 (ha:∀ τ:Rel,τ.s=symS ρ1→(∀p∈ks,∃i,τ.r p.1 p.2 i)→AR τ ⟨ag⟩ args) (hl:l'.length≤65536) (hk:askW (evD (mkG 8 ρ1 dl hdl)) f ag l v 8 pi exps l'=true) :
 Calls Tryz.prog f args w fun e w'=>∃(τ1:Rel) (v':Value),e=.returned v'∧VR τ1 v v'∧τ1.s=symS ρ1∧Kp (fr ft w) w w'∧(∀p∈ks,∃i,τ1.r p.1 p.2 i) ∧
  ∀ks',(∀p∈ks',∃x,pi[p.1]?=some x∧∃i,τ1.r x p.2 i)→Sx l' ks' ρ' (grow ft w w') w':=by
 obtain⟨τ,hst,hks⟩:=h;have h1:St (mkG 8 ρ1 dl hdl) l ⟨τ.r,symS ρ1⟩ ft w:=hst.wider (G:=pl ρ) (G':=mkG 8 ρ1 dl hdl) rfl (fun e v x=>symS_wider hw x);refine(h1.call (G':=pl ρ') (evD_ok _) hl rfl hex.ok (ha _ rfl hks) hk).mono ?_;rintro e w' ⟨τ1,v',rfl,hle,hs,hv,hst',hkp⟩
 have hks1:∀p∈ks,∃i,τ1.r p.1 p.2 i:=fun p hp=>let ⟨i,hi⟩:=hks p hp;⟨i,hle.r _ _ _ hi⟩
 refine⟨τ1,v',rfl,hv,hs,hkp,hks1,fun ks' hk'=>⟨_,hst',fun p hp=>?_⟩⟩;obtain⟨x,hx,i,hi⟩:=hk' p hp;exact⟨i,x,hx,hi⟩
theorem Sx.keep (hl:l.length≤65536) (ho:noOld 8 l=true) (h:Sx l ks ρ ft w) {w':World} (hsz:w.heap.size≤w'.heap.size) (hk:∀r,r<w.heap.size→(ft r∨r<8)→w'.heap[r]?=w.heap[r]?):Sx l ks ρ ft w':=by
 obtain⟨τ,hst,hks⟩:=h;exact⟨τ,hst.keep hl ho hsz hk,hks⟩
theorem Sx.sub {ks':List (Nat×Nat)} (h:Sx l ks ρ ft w) (hs:∀p∈ks',p∈ks):Sx l ks' ρ ft w:=by
 obtain⟨τ,hst,hks⟩:=h;exact⟨τ,hst,fun p hp=>hks p (hs p hp)⟩
theorem Sx.gl (h:Sx l ks ρ ft w) (r:Nat) (hr:r<8):¬ft r:=by
 obtain⟨τ,hst,_⟩:=h;exact hst.gl r hr
theorem Sx.name (h:Sx l ks ρ ft w) (hw:∀i v,ρ i=some v→ρ' i=some v):Sx l ks ρ' ft w:=by
 obtain⟨τ,hst,hks⟩:=h;exact⟨⟨τ.r,symS ρ'⟩,hst.wider (G:=pl ρ) (G':=pl ρ') rfl (fun e v x=>symS_wider hw x),hks⟩
theorem vr_val {τ:Rel} {x u v:Value} (hv:VR τ x v) (hs:τ.s=symS ρ) (hx:Da ρ x u) (hsb:sb x=false):v=u:=by
 have h1:=hx.sym hsb
 cases x with
 |func fn xs ys=>
   cases fn with
   |yield l=>
     cases hv with
     |func fn xs ys us vs hf=>exact absurd rfl (hf _)
     |sym l xs ys v' hsy hb=>rw[hs] at hsy;exact symS_fn hsy h1
   |_=>obtain⟨n,hn⟩:=h1;cases n<;>(unfold den at hn;cases hn)
 |_=>obtain⟨n,hn⟩:=h1;cases n<;>(unfold den at hn;cases hn)
theorem Sx.cells (hl:l.length≤65536) (h:Sx l ks ρ ft w) {k r:Nat} (hk:(k,r)∈ks) {cs:Array Value} {t:TypeId} (hc:l[k]?=some (.cells cs t (0,0))) :
 ∃(τ:Rel) (cs':Array Value),τ.s=symS ρ∧w.heap[r]?=some (.cells cs' t (0,0))∧AR τ cs cs'∧(∀p∈ks,∃i,τ.r p.1 p.2 i)∧ft r:=by
 obtain⟨τ,hst,hks⟩:=h;obtain⟨H,hR,hw⟩:=hst.wt;obtain⟨i,hi⟩:=hks _ hk;have hlt:=hw.dom _ _ _ hi
 have hH:H[k]?=some (.cells cs t (0,0)):=by
  have h1:=hR.get k (by have:=hR.lt;have:=hR.size;have:=hlt.1;omega);have h2:=(fillT_rep hl).get k (by have:=hR.lt;have:=hR.size;have:=hlt.1;omega);rw[←h1,h2];simpa using hc
 obtain⟨r',i',o',a,b,c⟩:=hw.blk k _ hH rfl;obtain⟨rfl,rfl⟩:=hw.fn _ _ _ _ _ hi a
 cases c with
 |cells cs cs' e hc'=>exact⟨τ,cs',hw.sy,b,hc',hks,fr_none (hlt.2.2 ⟨_,hH,rfl⟩) hlt.2.1⟩
end
theorem kp_keep {ft:Nat→Prop} {w w':World} (h:Kp (fr ft w) w w') {r:Nat} (hr:r<w.heap.size) (hf:¬ft r):w'.heap[r]?=w.heap[r]?:=by
 have:=h.block r w.heap[r] (by rw[fr_of hf];exact Array.getElem?_eq_getElem hr);rw[this];exact(Array.getElem?_eq_getElem hr).symm
end Go.Proofs.YtkndlfdpmpdihaaGreatDoor
