/- bits.Add: the sum, or all ones. bits.Add of symbols: an entry of the book. Conditions: those that each statement shows. -/
import Derived.Test.YtkndlfdpmpdihaaGreatDoorProg
import Derived.WalkKit
import Derived.WalkLawsBesides
import Derived.WalkSpells
import Derived.RegionTactic
import Derived.StillTailTactics
import Derived.Laws.Externs
import Derived.KernelRfl
import Derived.Test.YtkndlfdpmpdihaaGreatDoorY28
import Derived.Test.YtkndlfdpmpdihaaGreatDoorY37
namespace Go.Proofs.YtkndlfdpmpdihaaGreatDoor
open Go.RowKit
set_option linter.unusedVariables false
set_option linter.unusedSimpArgs false
theorem run_add64 (a b:Int) (w:World):(callFunc 149 #[.int .u64 a,.int .u64 b,.int .u64 0]).run Tryz.prog w=.ok (.value (.tuple #[.int .u64 (((a.toNat+b.toNat)%18446744073709551616:Nat):Int),.int .u64 (((a.toNat+b.toNat)/18446744073709551616:Nat):Int)])) w:=by
 kernel_rfl
theorem add_any (a b:Int) (w:World):Calls Tryz.prog 91 #[.int .u64 a,.int .u64 b] w fun e w'=>e=.returned (.int .u64 (if (a.toNat+b.toNat)/18446744073709551616=0 then(((a.toNat+b.toNat)%18446744073709551616:Nat):Int) else 18446744073709551615))∧w'=w:=by
 have hr:=fun w=>run_add64 a b w
 have hc:(a.toNat+b.toNat)/18446744073709551616=0↔(((a.toNat+b.toNat)/18446744073709551616:Nat):Int)=0:=by omega
 simp only[hc];generalize (((a.toNat+b.toNat)%18446744073709551616:Nat):Int)=q at hr ⊢;generalize (((a.toNat+b.toNat)/18446744073709551616:Nat):Int)=c at hr ⊢
 by_cases h:c=0
 ·rw[if_pos h]
  subst h;go_enter Tryz.func91,Tryz.ntmps91;go_wp2
  go_ret
  exact⟨rfl,rfl⟩
 ·rw[if_neg h]
  have hq:(c==0)=false:=by rw[beq_eq_false_iff_ne];exact h
  go_enter Tryz.func91,Tryz.ntmps91;go_wp2
  go_ret
  exact⟨rfl,rfl⟩
end Go.Proofs.YtkndlfdpmpdihaaGreatDoor
namespace Go.Proofs.YtkndlfdpmpdihaaGreatDoor
open Go.RowKit Go.Ev
set_option linter.unusedVariables false
set_option linter.unusedSimpArgs false
def uT (x:Value):Bool:=match x with
 |.int .u64 _=>true
 |.func (.yield _) _ ⟨[_,.int .u64 _]⟩=>true
 |_=>false
noncomputable def addB:EvF:=fun f args w=>match Nat.beq f 91 with
 |true=>match args with
   |⟨[x,y]⟩=>match uT x&&(uT y&&(isSy x || isSy y)) with
     |true=>some (ad x y,w)
     |false=>none
   |_=>none
 |false=>none
theorem uT_arg {G:Gl} {τ:Rel} {x x':Value} (h:uT x=true) (hs:τ.s=G.s) (hv:VR τ x x'):∃a,x'=.int .u64 a∧symArg G.s x x':=by
 cases x with
 |int k n=>
   cases k<;>first|(cases h;done)|skip
   cases hv;exact⟨n,rfl,.inl ⟨rfl,rfl⟩⟩
 |func fn xs ys=>
   cases fn with
   |yield l=>
     obtain⟨ys⟩:=ys
     match ys,h with
     | [c,.int .u64 n],h=>
       cases hv with
       |func fn xs ys us vs hf=>exact absurd rfl (hf _)
       |sym l xs ys v' hsy hb=>
         rw[hs] at hsy;have ht:=G.ty _ _ _ hsy (show symTy (.func (.yield l) xs ⟨[c,.int .u64 n]⟩)=some (.int .u64 n) from rfl)
         cases x'<;>first|(cases ht;done)|skip
         rename_i k m
         have:IntKind.u64=k:=by simpa[sameTy] using ht
         subst this;exact⟨m,rfl,.inr hsy⟩
   |_=>cases h
 |_=>cases h
theorem addB_ok {G:Gl}:EvOkT Tryz.prog G addB:=by
 intro f args wa v wa2 h B w0 τ args' wr hA hw;unfold addB at h
 split at h<;>first|(cases h;done)|skip
 rename_i hf
 split at h<;>first|(cases h;done)|skip
 rename_i x y
 split at h<;>first|(cases h;done)|skip
 rename_i hc;cases h;simp only[Bool.and_eq_true] at hc;have hf:=Nat.eq_of_beq_eq_true hf;subst hf
 have hsy:τ.s=G.s:=by obtain⟨H,_,hw⟩:=hw;exact hw.sy
 obtain⟨args'⟩:=args';have hsz:=hA.1;simp only[List.size_toArray,List.length_cons,List.length_nil] at hsz
 match args',hsz,hA with
 | [x',y'],_,hA=>
   obtain⟨a,rfl,ha⟩:=uT_arg hc.1 hsy (hA.2 0 x x' rfl rfl);obtain⟨b,rfl,hb⟩:=uT_arg hc.2.1 hsy (hA.2 1 y y' rfl rfl);refine(add_any a b wr).mono ?_;rintro e w' ⟨rfl,rfl⟩;refine⟨τ,_,rfl,Rel.le.refl _,.sym _ _ _ _ ?_ rfl,hw⟩;rw[hsy];exact G.cl 5 [x,y] _ _ _ _ (.cons _ _ _ _ ha (.cons _ _ _ _ hb .nil)) rfl (by simp[sameTy])
end Go.Proofs.YtkndlfdpmpdihaaGreatDoor
