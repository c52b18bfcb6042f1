/- Told states whose blocks are all named: no more blocks than those. Small worlds, told: printed by wip/tools. The board of one hart: its state in plain numbers, told az a small world with symbols. The board's calls, reckoned on the told world. The table of trailing zeros, out of the tables; condition Conditions: those that each statement shows. -/
import Derived.Test.YtkndlfdpmpdihaaGreatDoorY39
import Derived.Test.YtkndlfdpmpdihaaGreatDoorY06
import Derived.Test.YtkndlfdpmpdihaaGreatDoorY29
import Derived.Test.YtkndlfdpmpdihaaGreatDoorY37
import Derived.Test.YtkndlfdpmpdihaaGreatDoorY10
import Derived.Test.YtkndlfdpmpdihaaGreatDoorY36
namespace Go.Proofs.YtkndlfdpmpdihaaGreatDoor
open Go.RowKit Go.Ev Go.Mv
set_option linter.unusedVariables false
set_option linter.unusedSimpArgs false
set_option maxRecDepth 1000000
theorem Sx.shrink {l:List Obj} {ks:List (Nat×Nat)} {ρ:Nat→Option Value} {ft ft2:Nat→Prop} {w:World} (hl:l.length≤65536) (h:Sx l ks ρ ft w) (hc:∀k o,l[k]?=some o→live o=true→∃r,(k,r)∈ks) (h2:∀p∈ks,ft2 p.2) (h3:∀r,ft2 r→ft r):Sx l ks ρ ft2 w:=by
 obtain⟨τ,⟨⟨H,hR,hw⟩,hgl⟩,hks⟩:=h;refine⟨τ,⟨⟨H,hR,⟨hw.blk,hw.fn,hw.inj,?_,hw.ok,?_,hw.glob,fr_kp _ _,hw.sy⟩⟩,fun r hr e=>hgl r hr (h3 r e)⟩,hks⟩
 ·intro k r i hk
  have h1:=hw.dom k r i hk;refine⟨h1.1,h1.2.1,fun ha=>?_⟩;obtain⟨o,ho,hlv⟩:=ha
  have hlt:k<65536:=by have:=hR.lt;have:=hR.size;have:=h1.1;omega
  have e1:=hR.get k hlt;have e2:=(fillT_rep hl).get k hlt
  have hlk:l[k]?=some o:=by
   have e3:(⟨l⟩:Array Obj)[k]?=some o:=(e2.symm.trans e1).trans ho;simpa using e3
  obtain⟨r',hr'⟩:=hc k o hlk hlv;obtain⟨i',hi'⟩:=hks _ hr';obtain⟨rfl,_⟩:=hw.fn _ _ _ _ _ hk hi';exact fr_at (h2 _ hr')
 ·intro k cs e hk
  obtain⟨r,i,cs',e',f,a1,a2,a3,a4,a5⟩:=hw.old k cs e hk;refine⟨r,i,cs',e',f,a1,a2,a3,a4,.inl (hw.dom k r i a1).2.1⟩
def FT (ks:List (Nat×Nat)):Nat→Prop:=fun r=>∃k,(k,r)∈ks
theorem Sx.same {l l':List Obj} {ks:List (Nat×Nat)} {ρ ρ1 ρ':Nat→Option Value} {w:World} {dl:List (Value×Bool)} {exps ag:List Value} {pi:List Nat} {f:Nat} {v:Value} {args:Array Value} (h:Sx l ks ρ (FT ks) w)
 (hw:∀i v,ρ i=some v→ρ1 i=some v) (hdl:DL ρ1 dl) (hex:EX ρ1 ρ' 0 exps) (ha:∀ τ:Rel,τ.s=symS ρ1→(∀p∈ks,∃i,τ.r p.1 p.2 i)→AR τ ⟨ag⟩ args) (hl:l'.length≤65536) (hpi:∀p∈ks,pi[p.1]?=some p.1)
 (hc:∀k o,l'[k]?=some o→live o=true→∃r,(k,r)∈ks) (hk:askW (evD (mkG 8 ρ1 dl hdl)) f ag l v 8 pi exps l'=true) :
 Calls Tryz.prog f args w fun e w'=>∃(τ1:Rel) (v':Value),e=.returned v'∧VR τ1 v v'∧τ1.s=symS ρ1∧(∀p∈ks,∃i,τ1.r p.1 p.2 i)∧Tch (FT ks) w w'∧Sx l' ks ρ' (FT ks) w':=by
 refine(h.go hw hdl hex ha hl hk).mono ?_;rintro e w' ⟨τ1,v',he,hv,hs,hkp,hks1,hst⟩;refine⟨τ1,v',he,hv,hs,hks1,⟨hkp.os,hkp.tape,hkp.output,hkp.size,fun j hj hn=>kp_keep hkp hj hn⟩,?_⟩;exact(hst ks (fun p hp=>⟨p.1,hpi p hp,hks1 p hp⟩)).shrink hl hc (fun p hp=>⟨p.1,hp⟩) (fun r hr=>.inl hr)
theorem Sx.tch {l:List Obj} {ks:List (Nat×Nat)} {ρ:Nat→Option Value} {w w':World} {X:Nat→Prop} (hl:l.length≤65536) (ho:noOld 8 l=true) (h:Sx l ks ρ (FT ks) w) (ht:Tch X w w') (hx:∀k,X k→¬FT ks k) (hg:∀k,X k→8≤k):Sx l ks ρ (FT ks) w':=
 h.keep hl ho ht.size fun r hr hf=>ht.block r hr fun e=>hf.elim (hx r e) (fun h8=>by have:=hg r e;omega)
end Go.Proofs.YtkndlfdpmpdihaaGreatDoor
namespace Go.Ev.Lit
open Go
set_option maxRecDepth 100000
def lB:List Obj:=[(.cells #[(Lit.u64 1),(Lit.u64 10),(Lit.u64 100),(Lit.u64 1000),(Lit.u64 10000),(Lit.u64 100000),(Lit.u64 1000000),(Lit.u64 10000000),(Lit.u64 100000000),(Lit.u64 1000000000),(Lit.u64 10000000000),(Lit.u64 100000000000),(Lit.u64 1000000000000),(Lit.u64 10000000000000),(Lit.u64 100000000000000),(Lit.u64 1000000000000000),(Lit.u64 10000000000000000),(Lit.u64 100000000000000000),(Lit.u64 1000000000000000000),(Lit.u64 10000000000000000000)] 0 (0,21)),
 (.cells #[] 0 (1,1)),
 (.cells #[(Lit.u8 0),(Lit.u8 1),(Lit.u8 56),(Lit.u8 2),(Lit.u8 57),(Lit.u8 49),(Lit.u8 28),(Lit.u8 3),(Lit.u8 61),(Lit.u8 58),(Lit.u8 42),(Lit.u8 50),(Lit.u8 38),(Lit.u8 29),(Lit.u8 17),(Lit.u8 4),(Lit.u8 62),(Lit.u8 47),(Lit.u8 59),(Lit.u8 36),(Lit.u8 45),(Lit.u8 43),(Lit.u8 51),(Lit.u8 22),(Lit.u8 53),(Lit.u8 39),(Lit.u8 33),(Lit.u8 30),(Lit.u8 24),(Lit.u8 18),(Lit.u8 12),(Lit.u8 5),(Lit.u8 63),(Lit.u8 55),(Lit.u8 48),(Lit.u8 27),(Lit.u8 60),(Lit.u8 41),(Lit.u8 37),(Lit.u8 16),(Lit.u8 46),(Lit.u8 35),(Lit.u8 44),(Lit.u8 21),(Lit.u8 52),(Lit.u8 32),(Lit.u8 23),(Lit.u8 11),(Lit.u8 54),(Lit.u8 26),(Lit.u8 40),(Lit.u8 15),(Lit.u8 34),(Lit.u8 20),(Lit.u8 31),(Lit.u8 10),(Lit.u8 25),(Lit.u8 14),(Lit.u8 19),(Lit.u8 9),(Lit.u8 13),(Lit.u8 8),(Lit.u8 7),(Lit.u8 6)] 0 (0,65)),
 (.cells #[] 0 (1,1)),
 (.cells #[] 0 (1,1)),
 (.cells #[] 0 (1,1)),
 (.cells #[] 0 (1,1)),
 (.cells #[] 0 (1,1)),
 (.cells #[(sy .u64 0),(sy .u64 1),(Lit.u32 0),(Lit.u64 18446744073709551615),(Lit.u32 0),(Lit.u64 18446744073709551615),(Lit.u32 0),(Lit.u64 18446744073709551615),(Lit.u32 0),(Lit.u64 18446744073709551615),(Lit.u32 0),(Lit.u64 18446744073709551615),(Lit.u32 0),(Lit.u64 18446744073709551615),(Lit.u32 0),(Lit.u64 18446744073709551615),(Lit.u32 0),(Lit.i64 1)] 148 (0,0)),
 (.cells #[(Lit.u32 0),(Lit.u32 0),(Lit.u32 0),(Lit.u32 0),(Lit.u32 0)] 254 (0,0)),
 (.cells #[(.pointer (some ⟨9,0,none⟩))] 150 (3,1)),
 (.cells #[(.slice (some ⟨10,0,none⟩) 1 1)] 153 (0,0)),
 (.cells #[(sy .u64 2),(Lit.u64 0),(sy .u32 3),(Lit.u32 0),(.bool false),(.bool false),(Lit.u32 10)] 157 (0,0)),
 (.cells #[(.bool false),(.bool false),(.bool false),(Lit.u32 0),(Lit.u32 0),(Lit.u64 0),(Lit.i64 0)] 159 (0,0)),
 (.cells #[(Lit.u32 1),(Lit.u32 0),(Lit.u32 0),(Lit.u32 1),(.bool false)] 165 (0,0)),
 (.cells #[(sy .u32 4),(Lit.u32 0)] 169 (0,0)),
 (.cells #[(.pointer (some ⟨8,0,none⟩)),(.pointer (some ⟨11,0,none⟩)),(.pointer (some ⟨13,0,none⟩)),(.pointer (some ⟨12,0,none⟩)),(.pointer (some ⟨14,0,none⟩)),(.pointer (some ⟨15,0,none⟩)),(.pointer (some ⟨18,0,none⟩)),(Lit.i64 1),(Lit.i64 1),(Lit.u32 10),(.slice none 0 0)] 100 (0,0)),
 (.map #[⟨(.agg #[(Lit.u32 33554432),(Lit.u32 49152)]),(.iface 77 (.pointer (some ⟨8,0,none⟩))),0⟩,⟨(.agg #[(Lit.u32 268500992),(Lit.u32 256)]),(.iface 80 (.pointer (some ⟨11,0,none⟩))),1⟩,⟨(.agg #[(Lit.u32 268566528),(Lit.u32 20)]),(.iface 48 (.pointer (some ⟨13,0,none⟩))),2⟩,⟨(.agg #[(Lit.u32 268632064),(Lit.u32 16)]),(.iface 94 (.pointer (some ⟨14,0,none⟩))),3⟩,⟨(.agg #[(Lit.u32 268697600),(Lit.u32 36)]),(.iface 83 (.pointer (some ⟨12,0,none⟩))),4⟩,⟨(.agg #[(Lit.u32 268763136),(Lit.u32 12)]),(.iface 96 (.pointer (some ⟨15,0,none⟩))),5⟩] 6),
 (.cells #[(.map (some 17))] 182 (0,0))]
end Go.Ev.Lit
namespace Go.Ev
set_option linter.unusedVariables false
set_option linter.unusedSimpArgs false
theorem Da.cv32 {ρ:Nat→Option Value} {x:Value} {a:Nat} (hx:Da ρ x (.int .u64 a)):Da ρ (cv .u32 x) (.int .u32 (a%4294967296:Nat)):=
 Da.one hx (by
  show some (Value.int .u32 (IntKind.u32.wrap a))=_
  congr 2) (by simp[sameTy])
theorem Da.shl32 {ρ:Nat→Option Value} {k:IntKind} {t x y:Value} {a:Nat} (ht:t=.int .u64 0) (hx:Da ρ x (.int .u64 a)) (hy:Da ρ y (.int k (32:Nat))) (ha:a<4294967296):Da ρ (bn 8 t x y) (.int .u64 (a*4294967296:Nat)):=by
 subst ht;refine Da.bin hx hy ?_ (by simp[sameTy]);show (if IntKind.u64=k∨_ then _ else _)=_;rw[if_pos (.inr rfl)];show (if ((32:Nat):Int)<0 then none else some (Value.int .u64 _))=_;rw[if_neg (by omega)];congr 2;show IntKind.u64.wrap ((a:Int)*2^((32:Nat):Int).toNat)=_;rw[show ((32:Nat):Int).toNat=32 from rfl,show ((2:Int)^32)=((4294967296:Nat):Int) from rfl,←Int.natCast_mul];exact wrap_lim (k:=.u64) (by simp only[lim];omega)
theorem Da.join {ρ:Nat→Option Value} {t x y:Value} {a b:Nat} (ht:t=.int .u64 0) (hx:Da ρ x (.int .u64 (a*4294967296:Nat))) (hy:Da ρ y (.int .u64 b)) (ha:a<4294967296) (hb:b<4294967296):Da ρ (bn 6 t x y) (.int .u64 (a*4294967296+b:Nat)):=by
 have h:=Da.bor ht hx hy (by omega) (by omega)
 have e:a*4294967296 ||| b=a*4294967296+b:=by
  have:=Nat.two_pow_add_eq_or_of_lt (i:=32) hb a;rw[Nat.mul_comm a];exact this.symm
 rw[e] at h;exact h
end Go.Ev
namespace Go.Proofs.YtkndlfdpmpdihaaGreatDoor
open Go.RowKit Go.Ev Go.Mv
set_option linter.unusedVariables false
set_option linter.unusedSimpArgs false
set_option maxRecDepth 1000000
structure BT where
 time:Nat
 cmp:Nat
 sec:Nat
 rest:Nat
 high:Nat
def ρB (s:BT):Nat→Option Value
 | 0=>some (.int .u64 s.time)
 | 1=>some (.int .u64 s.cmp)
 | 2=>some (.int .u64 s.sec)
 | 3=>some (.int .u32 s.rest)
 | 4=>some (.int .u32 s.high)
 |_=>none
def ρBn (s:BT) (k:IntKind) (n:Nat):Nat→Option Value
 | 9=>some (.int k n)
 |i=>ρB s i
theorem ρBn_B (s:BT) (k:IntKind) (n:Nat):∀i v,ρB s i=some v→ρBn s k n i=some v:=by
 intro i v h;unfold ρBn;split
 ·cases h
 ·exact h
structure BT.ok (s:BT):Prop where
 time:s.time<9223372036854775808
 cmp:s.cmp<18446744073709551616
 rest:s.rest<10
 clock:s.time=10*s.sec+s.rest
def ksB (b:Nat→Nat):List (Nat×Nat):=[(8,b 8),(9,b 9),(10,b 10),(11,b 11),(12,b 12),(13,b 13),(14,b 14),(15,b 15),(16,b 16),(17,b 17),(18,b 18)]
def piB:List Nat:=[0,1,2,3,4,5,6,7,8,9,10,11,12,13,14,15,16,17,18]
def BoardAt (b:Nat→Nat) (s:BT) (w:World):Prop:=s.ok∧Sx Lit.lB (ksB b) (ρB s) (FT (ksB b)) w
theorem lB_named (b:Nat→Nat):∀k o,Lit.lB[k]?=some o→live o=true→∃r,(k,r)∈ksB b:=by
 intro k o h hl
 match k,h with
 | 0,h=>cases h;cases hl
 | 1,h=>cases h;cases hl
 | 2,h=>cases h;cases hl
 | 3,h=>cases h;cases hl
 | 4,h=>cases h;cases hl
 | 5,h=>cases h;cases hl
 | 6,h=>cases h;cases hl
 | 7,h=>cases h;cases hl
 | 8,_=>exact⟨b 8,by simp[ksB]⟩
 | 9,_=>exact⟨b 9,by simp[ksB]⟩
 | 10,_=>exact⟨b 10,by simp[ksB]⟩
 | 11,_=>exact⟨b 11,by simp[ksB]⟩
 | 12,_=>exact⟨b 12,by simp[ksB]⟩
 | 13,_=>exact⟨b 13,by simp[ksB]⟩
 | 14,_=>exact⟨b 14,by simp[ksB]⟩
 | 15,_=>exact⟨b 15,by simp[ksB]⟩
 | 16,_=>exact⟨b 16,by simp[ksB]⟩
 | 17,_=>exact⟨b 17,by simp[ksB]⟩
 | 18,_=>exact⟨b 18,by simp[ksB]⟩
 |n+19,h=>cases h
theorem piB_id (b:Nat→Nat):∀p∈ksB b,piB[p.1]?=some p.1:=by
 intro p hp;simp only[ksB,List.mem_cons,List.not_mem_nil,or_false] at hp
 rcases hp with rfl|rfl|rfl|rfl|rfl|rfl|rfl|rfl|rfl|rfl|rfl<;>rfl
section
variable {b:Nat→Nat} {s s':BT} {w w':World}
theorem BoardAt.lt (h:BoardAt b s w):∀r,FT (ksB b) r→r<w.heap.size:=by
 rintro r ⟨k,hk⟩;obtain⟨_,τ,hst,hks⟩:=h;obtain⟨i,hi⟩:=hks _ hk;obtain⟨H,hR,hw⟩:=hst.wt;exact(hw.dom _ _ _ hi).2.1
theorem BoardAt.tch (h:BoardAt b s w) {X:Nat→Prop} (ht:Tch X w w') (hx:∀k,X k→¬FT (ksB b) k∧8≤k):BoardAt b s w':=
 ⟨h.1,Sx.tch (by decide) (by kernel_rfl) h.2 ht (fun k e=>(hx k e).1) (fun k e=>(hx k e).2)⟩
theorem BoardAt.hi (h:BoardAt b s w):∀r,FT (ksB b) r→8≤r:=by
 intro r hr;exact Nat.le_of_not_lt fun hl=>h.2.gl r hl hr
theorem BoardAt.go {ρ1:Nat→Option Value} {dl:List (Value×Bool)} {exps ag:List Value} {f:Nat} {v:Value} {args:Array Value} (h:BoardAt b s w)
 (hw:∀i v,ρB s i=some v→ρ1 i=some v) (hdl:DL ρ1 dl) (hex:EX ρ1 (ρB s') 0 exps) (ha:∀ τ:Rel,τ.s=symS ρ1→(∀p∈ksB b,∃i,τ.r p.1 p.2 i)→AR τ ⟨ag⟩ args)
 (hs:s'.ok) (hk:askW (evD (mkG 8 ρ1 dl hdl)) f ag Lit.lB v 8 piB exps Lit.lB=true) :
 Calls Tryz.prog f args w fun e w'=>∃(τ1:Rel) (v':Value),e=.returned v'∧VR τ1 v v'∧τ1.s=symS ρ1∧(∀p∈ksB b,∃i,τ1.r p.1 p.2 i)∧Tch (FT (ksB b)) w w'∧BoardAt b s' w':=by
 refine(h.2.same hw hdl hex ha (by decide) (piB_id b) (lB_named b) hk).mono ?_;rintro e w' ⟨τ1,v',h1,h2,h3,h4,h5,h6⟩;exact⟨τ1,v',h1,h2,h3,h4,h5,hs,h6⟩
end
theorem bP {τ:Rel} {k r:Nat} (h:∃i,τ.r k r i):VR τ (.pointer (some ⟨k,0,none⟩)) (.pointer (some ⟨r,0,none⟩)):=by
 obtain⟨i,h⟩:=h;exact .ptr _ _ _ i h
theorem bS {τ:Rel} {ρ:Nat→Option Value} (h:τ.s=symS ρ) {k:IntKind} {i:Nat} {n:Int} (hr:ρ i=some (.int k n)):VR τ (sy k i) (.int k n):=
 .sym _ _ _ _ (by rw[h];exact(Da.giv hr).sym rfl) rfl
theorem bA1 {τ:Rel} {x x':Value} (h:VR τ x x'):AR τ ⟨[x]⟩ #[x']:=AR.one h
theorem bA2 {τ:Rel} {x x' y y':Value} (h:VR τ x x') (h2:VR τ y y'):AR τ ⟨[x,y]⟩ #[x',y']:=(AR.one h).push h2
theorem bA3 {τ:Rel} {x x' y y' z z':Value} (h:VR τ x x') (h2:VR τ y y') (h3:VR τ z z'):AR τ ⟨[x,y,z]⟩ #[x',y',z']:=((AR.one h).push h2).push h3
theorem vr_t0 {τ:Rel} {v:Value} (h:VR τ (.tuple ⟨[]⟩) v):v=.tuple #[]:=by
 cases h with
 |tuple xs ys hs hv=>
   have:ys=#[]:=by
    apply Array.eq_empty_of_size_eq_zero;simpa using hs.symm
   rw[this]
theorem vr_int {τ:Rel} {k:IntKind} {n:Int} {v:Value} (h:VR τ (.int k n) v):v=.int k n:=by
 cases h;rfl
theorem vr_sl0 {τ:Rel} {n c:Nat} {v:Value} (h:VR τ (.slice none n c) v):v=.slice none n c:=by
 cases h;rfl
theorem vr_t2 {τ:Rel} {x y v:Value} (h:VR τ (.tuple ⟨[x,y]⟩) v):∃x' y',v=.tuple #[x',y']∧VR τ x x'∧VR τ y y':=by
 cases h with
 |tuple xs ys hs hv=>
   obtain⟨ys⟩:=ys
   match ys,hs with
   | [x',y'],_=>exact⟨x',y',rfl,hv 0 _ _ rfl rfl,hv 1 _ _ rfl rfl⟩
theorem vr_a3 {τ:Rel} {x y z v:Value} (h:VR τ (.agg ⟨[x,y,z]⟩) v):∃x' y' z',v=.agg #[x',y',z']∧VR τ x x'∧VR τ y y'∧VR τ z z':=by
 cases h with
 |agg xs ys hs hv=>
   obtain⟨ys⟩:=ys
   match ys,hs with
   | [x',y',z'],_=>exact⟨x',y',z',rfl,hv 0 _ _ rfl rfl,hv 1 _ _ rfl rfl,hv 2 _ _ rfl rfl⟩
theorem vr_ptr {τ:Rel} {k:Nat} {v:Value} (h:VR τ (.pointer (some ⟨k,0,none⟩)) v):∃r i,v=.pointer (some ⟨r,0,none⟩)∧τ.r k r i:=by
 cases h with
 |ptr k r o i h=>exact⟨r,i,rfl,h⟩
end Go.Proofs.YtkndlfdpmpdihaaGreatDoor
namespace Go.Proofs.YtkndlfdpmpdihaaGreatDoor
open Go.RowKit Go.Ev Go.Mv
set_option linter.unusedVariables false
set_option linter.unusedSimpArgs false
set_option maxRecDepth 1000000
def exB:List Value:=[(sy .u64 0),(sy .u64 1),(sy .u64 2),(sy .u32 3),(sy .u32 4)]
theorem exB_ok (s:BT):EX (ρB s) (ρB s) 0 exB:=(EX.cons (Da.giv (k:=.u64) (n:=((s.time:Nat):Int)) rfl) rfl (EX.cons (Da.giv (k:=.u64) (n:=((s.cmp:Nat):Int)) rfl) rfl (EX.cons (Da.giv (k:=.u64) (n:=((s.sec:Nat):Int)) rfl) rfl (EX.cons (Da.giv (k:=.u32) (n:=((s.rest:Nat):Int)) rfl) rfl (EX.cons (Da.giv (k:=.u32) (n:=((s.high:Nat):Int)) rfl) rfl (EX.nil _ _ _))))))
section
variable {b:Nat→Nat} {s:BT} {w:World}
theorem ks16:(16,b 16)∈ksB b:=by simp[ksB]
def btick0_dl:List (Value×Bool):=[((bn 16 (.bool false) (ad (sy .u64 0) (sy .u64 9)) (sy .u64 1)),false)]
def btick0_ex:List Value:=[(ad (sy .u64 0) (sy .u64 9)),(sy .u64 1),(ad (sy .u64 2) (bn 0 (Lit.u64 0) (bn 3 (Lit.u64 0) (sy .u64 9) (Lit.u64 10)) (bn 3 (Lit.u64 0) (bn 0 (Lit.u64 0) (cv .u64 (sy .u32 3)) (bn 4 (Lit.u64 0) (sy .u64 9) (Lit.u64 10))) (Lit.u64 10)))),(cv .u32 (bn 4 (Lit.u64 0) (bn 0 (Lit.u64 0) (cv .u64 (sy .u32 3)) (bn 4 (Lit.u64 0) (sy .u64 9) (Lit.u64 10))) (Lit.u64 10))),(Lit.u32 0)]
theorem btick0_run (ρ:Nat→Option Value) (h:DL ρ btick0_dl):askW (evD (mkG 8 ρ btick0_dl h)) 15 [(.pointer (some ⟨16,0,none⟩)),sy .u64 9] Lit.lB (.tuple ⟨[]⟩) 8 piB btick0_ex Lit.lB=true:=by kernel_rfl
def btick1_dl:List (Value×Bool):=[((bn 16 (.bool false) (ad (sy .u64 0) (sy .u64 9)) (sy .u64 1)),true)]
def btick1_ex:List Value:=[(ad (sy .u64 0) (sy .u64 9)),(sy .u64 1),(ad (sy .u64 2) (bn 0 (Lit.u64 0) (bn 3 (Lit.u64 0) (sy .u64 9) (Lit.u64 10)) (bn 3 (Lit.u64 0) (bn 0 (Lit.u64 0) (cv .u64 (sy .u32 3)) (bn 4 (Lit.u64 0) (sy .u64 9) (Lit.u64 10))) (Lit.u64 10)))),(cv .u32 (bn 4 (Lit.u64 0) (bn 0 (Lit.u64 0) (cv .u64 (sy .u32 3)) (bn 4 (Lit.u64 0) (sy .u64 9) (Lit.u64 10))) (Lit.u64 10))),(Lit.u32 1)]
theorem btick1_run (ρ:Nat→Option Value) (h:DL ρ btick1_dl):askW (evD (mkG 8 ρ btick1_dl h)) 15 [(.pointer (some ⟨16,0,none⟩)),sy .u64 9] Lit.lB (.tuple ⟨[]⟩) 8 piB btick1_ex Lit.lB=true:=by kernel_rfl
theorem btick (h:BoardAt b s w) {n:Nat} (hn:s.time+n<9223372036854775808):Calls Tryz.prog 15 #[.pointer (some ⟨b 16,0,none⟩),.int .u64 n] w fun e w'=>e=.returned (.tuple #[])∧Tch (FT (ksB b)) w w'∧∃s',s'.time=s.time+n∧s'.cmp=s.cmp∧BoardAt b s' w':=by
 have h0:=h.1;obtain⟨k1,k2,k3,k4⟩:=h0
 by_cases hc:s.cmp≤s.time+n
 ·have hd:DL (ρBn s .u64 n) btick1_dl:=DL.cons (Da.geq (a:=s.time+n) (b:=s.cmp) (q:=true) (Da.add64 (a:=s.time) (b:=n) (Da.giv (k:=.u64) (n:=((s.time:Nat):Int)) rfl) (Da.giv (k:=.u64) (n:=((n:Nat):Int)) rfl) (by omega)) (Da.giv (k:=.u64) (n:=((s.cmp:Nat):Int)) rfl) ⟨fun _=>rfl,fun _=>by omega⟩) rfl (DL.nil _)
  have hx:EX (ρBn s .u64 n) (ρB ⟨s.time+n,s.cmp,s.sec+(n/10+(s.rest+n%10)/10),(s.rest+n%10)%10,1⟩) 0 btick1_ex:=(EX.cons (Da.add64 (a:=s.time) (b:=n) (Da.giv (k:=.u64) (n:=((s.time:Nat):Int)) rfl) (Da.giv (k:=.u64) (n:=((n:Nat):Int)) rfl) (by omega)) rfl (EX.cons (Da.giv (k:=.u64) (n:=((s.cmp:Nat):Int)) rfl) rfl (EX.cons (Da.add64 (a:=s.sec) (b:=n/10+(s.rest+n%10)/10) (Da.giv (k:=.u64) (n:=((s.sec:Nat):Int)) rfl) (Da.add (a:=n/10) (b:=(s.rest+n%10)/10) rfl (Da.quo (a:=n) (b:=10) rfl (Da.giv (k:=.u64) (n:=((n:Nat):Int)) rfl) (Da.nat .u64 10) (by omega) (by simp only[lim];omega)) (Da.quo (a:=s.rest+n%10) (b:=10) rfl (Da.add (a:=s.rest) (b:=n%10) rfl (Da.cvt (k:=.u64) (a:=s.rest) (Da.giv (k:=.u32) (n:=((s.rest:Nat):Int)) rfl) (by simp only[lim];omega)) (Da.rem (a:=n) (b:=10) rfl (Da.giv (k:=.u64) (n:=((n:Nat):Int)) rfl) (Da.nat .u64 10) (by omega)) (by simp only[lim];omega)) (Da.nat .u64 10) (by omega) (by simp only[lim];omega)) (by simp only[lim];omega)) (by omega)) rfl (EX.cons (Da.cvt (k:=.u32) (a:=(s.rest+n%10)%10) (Da.rem (a:=s.rest+n%10) (b:=10) rfl (Da.add (a:=s.rest) (b:=n%10) rfl (Da.cvt (k:=.u64) (a:=s.rest) (Da.giv (k:=.u32) (n:=((s.rest:Nat):Int)) rfl) (by simp only[lim];omega)) (Da.rem (a:=n) (b:=10) rfl (Da.giv (k:=.u64) (n:=((n:Nat):Int)) rfl) (Da.nat .u64 10) (by omega)) (by simp only[lim];omega)) (Da.nat .u64 10) (by omega)) (by simp only[lim];omega)) rfl (EX.cons (Da.nat .u32 1) rfl (EX.nil _ _ _))))));refine(h.go (ρBn_B s _ n) hd hx (fun τ hτ hk=>bA2 (bP (hk _ ks16)) (bS hτ rfl)) ⟨by show s.time+n<_;omega,k2,by show (s.rest+n%10)%10<10;omega,by show s.time+n=10*(s.sec+(n/10+(s.rest+n%10)/10))+(s.rest+n%10)%10;omega⟩ (btick1_run _ hd)).mono ?_;rintro e w' ⟨τ,v,rfl,hv,_,_,ht,hb⟩;exact⟨congrArg _ (vr_t0 hv),ht,⟨s.time+n,s.cmp,s.sec+(n/10+(s.rest+n%10)/10),(s.rest+n%10)%10,1⟩,rfl,rfl,hb⟩
 ·have hd:DL (ρBn s .u64 n) btick0_dl:=DL.cons (Da.geq (a:=s.time+n) (b:=s.cmp) (q:=false) (Da.add64 (a:=s.time) (b:=n) (Da.giv (k:=.u64) (n:=((s.time:Nat):Int)) rfl) (Da.giv (k:=.u64) (n:=((n:Nat):Int)) rfl) (by omega)) (Da.giv (k:=.u64) (n:=((s.cmp:Nat):Int)) rfl) ⟨fun h=>absurd h (by omega),fun h=>by cases h⟩) rfl (DL.nil _)
  have hx:EX (ρBn s .u64 n) (ρB ⟨s.time+n,s.cmp,s.sec+(n/10+(s.rest+n%10)/10),(s.rest+n%10)%10,0⟩) 0 btick0_ex:=(EX.cons (Da.add64 (a:=s.time) (b:=n) (Da.giv (k:=.u64) (n:=((s.time:Nat):Int)) rfl) (Da.giv (k:=.u64) (n:=((n:Nat):Int)) rfl) (by omega)) rfl (EX.cons (Da.giv (k:=.u64) (n:=((s.cmp:Nat):Int)) rfl) rfl (EX.cons (Da.add64 (a:=s.sec) (b:=n/10+(s.rest+n%10)/10) (Da.giv (k:=.u64) (n:=((s.sec:Nat):Int)) rfl) (Da.add (a:=n/10) (b:=(s.rest+n%10)/10) rfl (Da.quo (a:=n) (b:=10) rfl (Da.giv (k:=.u64) (n:=((n:Nat):Int)) rfl) (Da.nat .u64 10) (by omega) (by simp only[lim];omega)) (Da.quo (a:=s.rest+n%10) (b:=10) rfl (Da.add (a:=s.rest) (b:=n%10) rfl (Da.cvt (k:=.u64) (a:=s.rest) (Da.giv (k:=.u32) (n:=((s.rest:Nat):Int)) rfl) (by simp only[lim];omega)) (Da.rem (a:=n) (b:=10) rfl (Da.giv (k:=.u64) (n:=((n:Nat):Int)) rfl) (Da.nat .u64 10) (by omega)) (by simp only[lim];omega)) (Da.nat .u64 10) (by omega) (by simp only[lim];omega)) (by simp only[lim];omega)) (by omega)) rfl (EX.cons (Da.cvt (k:=.u32) (a:=(s.rest+n%10)%10) (Da.rem (a:=s.rest+n%10) (b:=10) rfl (Da.add (a:=s.rest) (b:=n%10) rfl (Da.cvt (k:=.u64) (a:=s.rest) (Da.giv (k:=.u32) (n:=((s.rest:Nat):Int)) rfl) (by simp only[lim];omega)) (Da.rem (a:=n) (b:=10) rfl (Da.giv (k:=.u64) (n:=((n:Nat):Int)) rfl) (Da.nat .u64 10) (by omega)) (by simp only[lim];omega)) (Da.nat .u64 10) (by omega)) (by simp only[lim];omega)) rfl (EX.cons (Da.nat .u32 0) rfl (EX.nil _ _ _))))));refine(h.go (ρBn_B s _ n) hd hx (fun τ hτ hk=>bA2 (bP (hk _ ks16)) (bS hτ rfl)) ⟨by show s.time+n<_;omega,k2,by show (s.rest+n%10)%10<10;omega,by show s.time+n=10*(s.sec+(n/10+(s.rest+n%10)/10))+(s.rest+n%10)%10;omega⟩ (btick0_run _ hd)).mono ?_;rintro e w' ⟨τ,v,rfl,hv,_,_,ht,hb⟩;exact⟨congrArg _ (vr_t0 hv),ht,⟨s.time+n,s.cmp,s.sec+(n/10+(s.rest+n%10)/10),(s.rest+n%10)%10,0⟩,rfl,rfl,hb⟩
def bslo0_dl:List (Value×Bool):=[((bn 16 (.bool false) (sy .u64 0) (bn 6 (Lit.u64 0) (bn 8 (Lit.u64 0) (cv .u64 (cv .u32 (bn 9 (Lit.u64 0) (sy .u64 1) (Lit.u64 32)))) (Lit.u64 32)) (cv .u64 (sy .u32 9)))),false)]
def bslo0_ex:List Value:=[(sy .u64 0),(bn 6 (Lit.u64 0) (bn 8 (Lit.u64 0) (cv .u64 (cv .u32 (bn 9 (Lit.u64 0) (sy .u64 1) (Lit.u64 32)))) (Lit.u64 32)) (cv .u64 (sy .u32 9))),(sy .u64 2),(sy .u32 3),(Lit.u32 0)]
theorem bslo0_run (ρ:Nat→Option Value) (h:DL ρ bslo0_dl):askW (evD (mkG 8 ρ bslo0_dl h)) 14 [(.pointer (some ⟨16,0,none⟩)),.int .u32 33570816,sy .u32 9] Lit.lB (.int .i64 0) 8 piB bslo0_ex Lit.lB=true:=by kernel_rfl
def bslo1_dl:List (Value×Bool):=[((bn 16 (.bool false) (sy .u64 0) (bn 6 (Lit.u64 0) (bn 8 (Lit.u64 0) (cv .u64 (cv .u32 (bn 9 (Lit.u64 0) (sy .u64 1) (Lit.u64 32)))) (Lit.u64 32)) (cv .u64 (sy .u32 9)))),true)]
def bslo1_ex:List Value:=[(sy .u64 0),(bn 6 (Lit.u64 0) (bn 8 (Lit.u64 0) (cv .u64 (cv .u32 (bn 9 (Lit.u64 0) (sy .u64 1) (Lit.u64 32)))) (Lit.u64 32)) (cv .u64 (sy .u32 9))),(sy .u64 2),(sy .u32 3),(Lit.u32 1)]
theorem bslo1_run (ρ:Nat→Option Value) (h:DL ρ bslo1_dl):askW (evD (mkG 8 ρ bslo1_dl h)) 14 [(.pointer (some ⟨16,0,none⟩)),.int .u32 33570816,sy .u32 9] Lit.lB (.int .i64 0) 8 piB bslo1_ex Lit.lB=true:=by kernel_rfl
theorem bslo (h:BoardAt b s w) {n:Nat} (hn:n<4294967296):Calls Tryz.prog 14 #[.pointer (some ⟨b 16,0,none⟩),.int .u32 33570816,.int .u32 n] w fun e w'=>e=.returned (.int .i64 0)∧Tch (FT (ksB b)) w w'∧∃s',s'.time=s.time∧s'.cmp=s.cmp/4294967296*4294967296+n∧BoardAt b s' w':=by
 have h0:=h.1;obtain⟨k1,k2,k3,k4⟩:=h0
 by_cases hc:s.cmp/4294967296*4294967296+n≤s.time
 ·have hd:DL (ρBn s .u32 n) bslo1_dl:=DL.cons (Da.geq (a:=s.time) (b:=s.cmp/4294967296*4294967296+n) (q:=true) (Da.giv (k:=.u64) (n:=((s.time:Nat):Int)) rfl) (Da.join (a:=s.cmp/4294967296) (b:=n) rfl (Da.shl32 rfl (Da.cvt (k:=.u64) (a:=s.cmp/4294967296) (Da.cvt (k:=.u32) (a:=s.cmp/4294967296) (Da.shr (a:=s.cmp) (b:=32) rfl (Da.giv (k:=.u64) (n:=((s.cmp:Nat):Int)) rfl) (Da.nat .u64 32) (by omega)) (by simp only[lim];omega)) (by simp only[lim];omega)) (Da.nat .u64 32) (by omega)) (Da.cvt (k:=.u64) (a:=n) (Da.giv (k:=.u32) (n:=((n:Nat):Int)) rfl) (by simp only[lim];omega)) (by omega) (by omega)) ⟨fun _=>rfl,fun _=>by omega⟩) rfl (DL.nil _)
  have hx:EX (ρBn s .u32 n) (ρB ⟨s.time,s.cmp/4294967296*4294967296+n,s.sec,s.rest,1⟩) 0 bslo1_ex:=(EX.cons (Da.giv (k:=.u64) (n:=((s.time:Nat):Int)) rfl) rfl (EX.cons (Da.join (a:=s.cmp/4294967296) (b:=n) rfl (Da.shl32 rfl (Da.cvt (k:=.u64) (a:=s.cmp/4294967296) (Da.cvt (k:=.u32) (a:=s.cmp/4294967296) (Da.shr (a:=s.cmp) (b:=32) rfl (Da.giv (k:=.u64) (n:=((s.cmp:Nat):Int)) rfl) (Da.nat .u64 32) (by omega)) (by simp only[lim];omega)) (by simp only[lim];omega)) (Da.nat .u64 32) (by omega)) (Da.cvt (k:=.u64) (a:=n) (Da.giv (k:=.u32) (n:=((n:Nat):Int)) rfl) (by simp only[lim];omega)) (by omega) (by omega)) rfl (EX.cons (Da.giv (k:=.u64) (n:=((s.sec:Nat):Int)) rfl) rfl (EX.cons (Da.giv (k:=.u32) (n:=((s.rest:Nat):Int)) rfl) rfl (EX.cons (Da.nat .u32 1) rfl (EX.nil _ _ _))))));refine(h.go (ρBn_B s _ n) hd hx (fun τ hτ hk=>bA3 (bP (hk _ ks16)) (.int _ _) (bS hτ rfl)) ⟨k1,by show s.cmp/4294967296*4294967296+n<_;omega,k3,k4⟩ (bslo1_run _ hd)).mono ?_;rintro e w' ⟨τ,v,rfl,hv,_,_,ht,hb⟩;exact⟨congrArg _ (vr_int hv),ht,⟨s.time,s.cmp/4294967296*4294967296+n,s.sec,s.rest,1⟩,rfl,rfl,hb⟩
 ·have hd:DL (ρBn s .u32 n) bslo0_dl:=DL.cons (Da.geq (a:=s.time) (b:=s.cmp/4294967296*4294967296+n) (q:=false) (Da.giv (k:=.u64) (n:=((s.time:Nat):Int)) rfl) (Da.join (a:=s.cmp/4294967296) (b:=n) rfl (Da.shl32 rfl (Da.cvt (k:=.u64) (a:=s.cmp/4294967296) (Da.cvt (k:=.u32) (a:=s.cmp/4294967296) (Da.shr (a:=s.cmp) (b:=32) rfl (Da.giv (k:=.u64) (n:=((s.cmp:Nat):Int)) rfl) (Da.nat .u64 32) (by omega)) (by simp only[lim];omega)) (by simp only[lim];omega)) (Da.nat .u64 32) (by omega)) (Da.cvt (k:=.u64) (a:=n) (Da.giv (k:=.u32) (n:=((n:Nat):Int)) rfl) (by simp only[lim];omega)) (by omega) (by omega)) ⟨fun h=>absurd h (by omega),fun h=>by cases h⟩) rfl (DL.nil _)
  have hx:EX (ρBn s .u32 n) (ρB ⟨s.time,s.cmp/4294967296*4294967296+n,s.sec,s.rest,0⟩) 0 bslo0_ex:=(EX.cons (Da.giv (k:=.u64) (n:=((s.time:Nat):Int)) rfl) rfl (EX.cons (Da.join (a:=s.cmp/4294967296) (b:=n) rfl (Da.shl32 rfl (Da.cvt (k:=.u64) (a:=s.cmp/4294967296) (Da.cvt (k:=.u32) (a:=s.cmp/4294967296) (Da.shr (a:=s.cmp) (b:=32) rfl (Da.giv (k:=.u64) (n:=((s.cmp:Nat):Int)) rfl) (Da.nat .u64 32) (by omega)) (by simp only[lim];omega)) (by simp only[lim];omega)) (Da.nat .u64 32) (by omega)) (Da.cvt (k:=.u64) (a:=n) (Da.giv (k:=.u32) (n:=((n:Nat):Int)) rfl) (by simp only[lim];omega)) (by omega) (by omega)) rfl (EX.cons (Da.giv (k:=.u64) (n:=((s.sec:Nat):Int)) rfl) rfl (EX.cons (Da.giv (k:=.u32) (n:=((s.rest:Nat):Int)) rfl) rfl (EX.cons (Da.nat .u32 0) rfl (EX.nil _ _ _))))));refine(h.go (ρBn_B s _ n) hd hx (fun τ hτ hk=>bA3 (bP (hk _ ks16)) (.int _ _) (bS hτ rfl)) ⟨k1,by show s.cmp/4294967296*4294967296+n<_;omega,k3,k4⟩ (bslo0_run _ hd)).mono ?_;rintro e w' ⟨τ,v,rfl,hv,_,_,ht,hb⟩;exact⟨congrArg _ (vr_int hv),ht,⟨s.time,s.cmp/4294967296*4294967296+n,s.sec,s.rest,0⟩,rfl,rfl,hb⟩
def bshi0_dl:List (Value×Bool):=[((bn 16 (.bool false) (sy .u64 0) (bn 6 (Lit.u64 0) (bn 8 (Lit.u64 0) (cv .u64 (sy .u32 9)) (Lit.u64 32)) (cv .u64 (cv .u32 (sy .u64 1))))),false)]
def bshi0_ex:List Value:=[(sy .u64 0),(bn 6 (Lit.u64 0) (bn 8 (Lit.u64 0) (cv .u64 (sy .u32 9)) (Lit.u64 32)) (cv .u64 (cv .u32 (sy .u64 1)))),(sy .u64 2),(sy .u32 3),(Lit.u32 0)]
theorem bshi0_run (ρ:Nat→Option Value) (h:DL ρ bshi0_dl):askW (evD (mkG 8 ρ bshi0_dl h)) 14 [(.pointer (some ⟨16,0,none⟩)),.int .u32 33570820,sy .u32 9] Lit.lB (.int .i64 0) 8 piB bshi0_ex Lit.lB=true:=by kernel_rfl
def bshi1_dl:List (Value×Bool):=[((bn 16 (.bool false) (sy .u64 0) (bn 6 (Lit.u64 0) (bn 8 (Lit.u64 0) (cv .u64 (sy .u32 9)) (Lit.u64 32)) (cv .u64 (cv .u32 (sy .u64 1))))),true)]
def bshi1_ex:List Value:=[(sy .u64 0),(bn 6 (Lit.u64 0) (bn 8 (Lit.u64 0) (cv .u64 (sy .u32 9)) (Lit.u64 32)) (cv .u64 (cv .u32 (sy .u64 1)))),(sy .u64 2),(sy .u32 3),(Lit.u32 1)]
theorem bshi1_run (ρ:Nat→Option Value) (h:DL ρ bshi1_dl):askW (evD (mkG 8 ρ bshi1_dl h)) 14 [(.pointer (some ⟨16,0,none⟩)),.int .u32 33570820,sy .u32 9] Lit.lB (.int .i64 0) 8 piB bshi1_ex Lit.lB=true:=by kernel_rfl
theorem bshi (h:BoardAt b s w) {n:Nat} (hn:n<4294967296):Calls Tryz.prog 14 #[.pointer (some ⟨b 16,0,none⟩),.int .u32 33570820,.int .u32 n] w fun e w'=>e=.returned (.int .i64 0)∧Tch (FT (ksB b)) w w'∧∃s',s'.time=s.time∧s'.cmp=n*4294967296+s.cmp%4294967296∧BoardAt b s' w':=by
 have h0:=h.1;obtain⟨k1,k2,k3,k4⟩:=h0
 by_cases hc:n*4294967296+s.cmp%4294967296≤s.time
 ·have hd:DL (ρBn s .u32 n) bshi1_dl:=DL.cons (Da.geq (a:=s.time) (b:=n*4294967296+s.cmp%4294967296) (q:=true) (Da.giv (k:=.u64) (n:=((s.time:Nat):Int)) rfl) (Da.join (a:=n) (b:=s.cmp%4294967296) rfl (Da.shl32 rfl (Da.cvt (k:=.u64) (a:=n) (Da.giv (k:=.u32) (n:=((n:Nat):Int)) rfl) (by simp only[lim];omega)) (Da.nat .u64 32) (by omega)) (Da.cvt (k:=.u64) (a:=s.cmp%4294967296) (Da.cv32 (Da.giv (k:=.u64) (n:=((s.cmp:Nat):Int)) rfl)) (by simp only[lim];omega)) (by omega) (by omega)) ⟨fun _=>rfl,fun _=>by omega⟩) rfl (DL.nil _)
  have hx:EX (ρBn s .u32 n) (ρB ⟨s.time,n*4294967296+s.cmp%4294967296,s.sec,s.rest,1⟩) 0 bshi1_ex:=(EX.cons (Da.giv (k:=.u64) (n:=((s.time:Nat):Int)) rfl) rfl (EX.cons (Da.join (a:=n) (b:=s.cmp%4294967296) rfl (Da.shl32 rfl (Da.cvt (k:=.u64) (a:=n) (Da.giv (k:=.u32) (n:=((n:Nat):Int)) rfl) (by simp only[lim];omega)) (Da.nat .u64 32) (by omega)) (Da.cvt (k:=.u64) (a:=s.cmp%4294967296) (Da.cv32 (Da.giv (k:=.u64) (n:=((s.cmp:Nat):Int)) rfl)) (by simp only[lim];omega)) (by omega) (by omega)) rfl (EX.cons (Da.giv (k:=.u64) (n:=((s.sec:Nat):Int)) rfl) rfl (EX.cons (Da.giv (k:=.u32) (n:=((s.rest:Nat):Int)) rfl) rfl (EX.cons (Da.nat .u32 1) rfl (EX.nil _ _ _))))));refine(h.go (ρBn_B s _ n) hd hx (fun τ hτ hk=>bA3 (bP (hk _ ks16)) (.int _ _) (bS hτ rfl)) ⟨k1,by show n*4294967296+s.cmp%4294967296<_;omega,k3,k4⟩ (bshi1_run _ hd)).mono ?_;rintro e w' ⟨τ,v,rfl,hv,_,_,ht,hb⟩;exact⟨congrArg _ (vr_int hv),ht,⟨s.time,n*4294967296+s.cmp%4294967296,s.sec,s.rest,1⟩,rfl,rfl,hb⟩
 ·have hd:DL (ρBn s .u32 n) bshi0_dl:=DL.cons (Da.geq (a:=s.time) (b:=n*4294967296+s.cmp%4294967296) (q:=false) (Da.giv (k:=.u64) (n:=((s.time:Nat):Int)) rfl) (Da.join (a:=n) (b:=s.cmp%4294967296) rfl (Da.shl32 rfl (Da.cvt (k:=.u64) (a:=n) (Da.giv (k:=.u32) (n:=((n:Nat):Int)) rfl) (by simp only[lim];omega)) (Da.nat .u64 32) (by omega)) (Da.cvt (k:=.u64) (a:=s.cmp%4294967296) (Da.cv32 (Da.giv (k:=.u64) (n:=((s.cmp:Nat):Int)) rfl)) (by simp only[lim];omega)) (by omega) (by omega)) ⟨fun h=>absurd h (by omega),fun h=>by cases h⟩) rfl (DL.nil _)
  have hx:EX (ρBn s .u32 n) (ρB ⟨s.time,n*4294967296+s.cmp%4294967296,s.sec,s.rest,0⟩) 0 bshi0_ex:=(EX.cons (Da.giv (k:=.u64) (n:=((s.time:Nat):Int)) rfl) rfl (EX.cons (Da.join (a:=n) (b:=s.cmp%4294967296) rfl (Da.shl32 rfl (Da.cvt (k:=.u64) (a:=n) (Da.giv (k:=.u32) (n:=((n:Nat):Int)) rfl) (by simp only[lim];omega)) (Da.nat .u64 32) (by omega)) (Da.cvt (k:=.u64) (a:=s.cmp%4294967296) (Da.cv32 (Da.giv (k:=.u64) (n:=((s.cmp:Nat):Int)) rfl)) (by simp only[lim];omega)) (by omega) (by omega)) rfl (EX.cons (Da.giv (k:=.u64) (n:=((s.sec:Nat):Int)) rfl) rfl (EX.cons (Da.giv (k:=.u32) (n:=((s.rest:Nat):Int)) rfl) rfl (EX.cons (Da.nat .u32 0) rfl (EX.nil _ _ _))))));refine(h.go (ρBn_B s _ n) hd hx (fun τ hτ hk=>bA3 (bP (hk _ ks16)) (.int _ _) (bS hτ rfl)) ⟨k1,by show n*4294967296+s.cmp%4294967296<_;omega,k3,k4⟩ (bshi0_run _ hd)).mono ?_;rintro e w' ⟨τ,v,rfl,hv,_,_,ht,hb⟩;exact⟨congrArg _ (vr_int hv),ht,⟨s.time,n*4294967296+s.cmp%4294967296,s.sec,s.rest,0⟩,rfl,rfl,hb⟩
theorem bllo_run (ρ:Nat→Option Value) (h:DL ρ []):askW (evD (mkG 8 ρ [] h)) 20 [(.pointer (some ⟨16,0,none⟩)),.int .u32 33603576] Lit.lB (.tuple ⟨[(cv .u32 (sy .u64 0)),(.int .i64 0)]⟩) 8 piB exB Lit.lB=true:=by kernel_rfl
theorem bllo (h:BoardAt b s w):Calls Tryz.prog 20 #[.pointer (some ⟨b 16,0,none⟩),.int .u32 33603576] w fun e w'=>e=.returned (.tuple #[.int .u32 (s.time%4294967296:Nat),.int .i64 0])∧Tch (FT (ksB b)) w w'∧BoardAt b s w':=by
 obtain⟨k1,k2,k3,k4⟩:=h.1;refine(h.go (fun _ _ h=>h) (DL.nil _) (exB_ok s) (fun τ hτ hk=>bA2 (bP (hk _ ks16)) (.int _ _)) h.1 (bllo_run _ (DL.nil _))).mono ?_;rintro e w' ⟨τ,v,rfl,hv,hs,_,ht,hb⟩;refine⟨?_,ht,hb⟩;obtain⟨x,y,rfl,hx,hy⟩:=vr_t2 hv;rw[vr_int hy,vr_val hx hs (Da.cv32 (Da.giv (k:=.u64) (n:=((s.time:Nat):Int)) rfl)) rfl]
theorem blhi_run (ρ:Nat→Option Value) (h:DL ρ []):askW (evD (mkG 8 ρ [] h)) 20 [(.pointer (some ⟨16,0,none⟩)),.int .u32 33603580] Lit.lB (.tuple ⟨[(cv .u32 (bn 9 (Lit.u64 0) (sy .u64 0) (Lit.u64 32))),(.int .i64 0)]⟩) 8 piB exB Lit.lB=true:=by kernel_rfl
theorem blhi (h:BoardAt b s w):Calls Tryz.prog 20 #[.pointer (some ⟨b 16,0,none⟩),.int .u32 33603580] w fun e w'=>e=.returned (.tuple #[.int .u32 (s.time/4294967296:Nat),.int .i64 0])∧Tch (FT (ksB b)) w w'∧BoardAt b s w':=by
 obtain⟨k1,k2,k3,k4⟩:=h.1;refine(h.go (fun _ _ h=>h) (DL.nil _) (exB_ok s) (fun τ hτ hk=>bA2 (bP (hk _ ks16)) (.int _ _)) h.1 (blhi_run _ (DL.nil _))).mono ?_;rintro e w' ⟨τ,v,rfl,hv,hs,_,ht,hb⟩;refine⟨?_,ht,hb⟩;obtain⟨x,y,rfl,hx,hy⟩:=vr_t2 hv;rw[vr_int hy,vr_val hx hs (Da.cvt (k:=.u32) (a:=s.time/4294967296) (Da.shr (a:=s.time) (b:=32) rfl (Da.giv (k:=.u64) (n:=((s.time:Nat):Int)) rfl) (Da.nat .u64 32) (by omega)) (by simp only[lim];omega)) rfl]
theorem btime_run (ρ:Nat→Option Value) (h:DL ρ []):askW (evD (mkG 8 ρ [] h)) 17 [(.pointer (some ⟨16,0,none⟩))] Lit.lB (sy .u64 0) 8 piB exB Lit.lB=true:=by kernel_rfl
theorem btime (h:BoardAt b s w):Calls Tryz.prog 17 #[.pointer (some ⟨b 16,0,none⟩)] w fun e w'=>e=.returned (.int .u64 s.time)∧Tch (FT (ksB b)) w w'∧BoardAt b s w':=by
 obtain⟨k1,k2,k3,k4⟩:=h.1;refine(h.go (fun _ _ h=>h) (DL.nil _) (exB_ok s) (fun τ hτ hk=>bA1 (bP (hk _ ks16))) h.1 (btime_run _ (DL.nil _))).mono ?_;rintro e w' ⟨τ,v,rfl,hv,hs,_,ht,hb⟩;refine⟨?_,ht,hb⟩;rw[vr_val hv hs (Da.giv (k:=.u64) (n:=((s.time:Nat):Int)) rfl) rfl]
theorem bcmp_run (ρ:Nat→Option Value) (h:DL ρ []):askW (evD (mkG 8 ρ [] h)) 28 [(.pointer (some ⟨16,0,none⟩)),.int .i64 0] Lit.lB (sy .u64 1) 8 piB exB Lit.lB=true:=by kernel_rfl
theorem bcmp (h:BoardAt b s w):Calls Tryz.prog 28 #[.pointer (some ⟨b 16,0,none⟩),.int .i64 0] w fun e w'=>e=.returned (.int .u64 s.cmp)∧Tch (FT (ksB b)) w w'∧BoardAt b s w':=by
 obtain⟨k1,k2,k3,k4⟩:=h.1;refine(h.go (fun _ _ h=>h) (DL.nil _) (exB_ok s) (fun τ hτ hk=>bA2 (bP (hk _ ks16)) (.int _ _)) h.1 (bcmp_run _ (DL.nil _))).mono ?_;rintro e w' ⟨τ,v,rfl,hv,hs,_,ht,hb⟩;refine⟨?_,ht,hb⟩;rw[vr_val hv hs (Da.giv (k:=.u64) (n:=((s.cmp:Nat):Int)) rfl) rfl]
theorem bline_run (ρ:Nat→Option Value) (h:DL ρ []):askW (evD (mkG 8 ρ [] h)) 104 [(.pointer (some ⟨16,0,none⟩)),.int .i64 0] Lit.lB (bn 16 (.bool false) (sy .u64 0) (sy .u64 1)) 8 piB exB Lit.lB=true:=by kernel_rfl
theorem bline (h:BoardAt b s w):Calls Tryz.prog 104 #[.pointer (some ⟨b 16,0,none⟩),.int .i64 0] w fun e w'=>e=.returned (.bool (decide (s.cmp≤s.time)))∧Tch (FT (ksB b)) w w'∧BoardAt b s w':=by
 obtain⟨k1,k2,k3,k4⟩:=h.1;refine(h.go (fun _ _ h=>h) (DL.nil _) (exB_ok s) (fun τ hτ hk=>bA2 (bP (hk _ ks16)) (.int _ _)) h.1 (bline_run _ (DL.nil _))).mono ?_;rintro e w' ⟨τ,v,rfl,hv,hs,_,ht,hb⟩;refine⟨?_,ht,hb⟩;rw[vr_val hv hs (Da.geq (a:=s.time) (b:=s.cmp) (q:=decide (s.cmp≤s.time)) (Da.giv (k:=.u64) (n:=((s.time:Nat):Int)) rfl) (Da.giv (k:=.u64) (n:=((s.cmp:Nat):Int)) rfl) (by rw[decide_eq_true_eq])) rfl]
theorem bcfg_run (ρ:Nat→Option Value) (h:DL ρ []):askW (evD (mkG 8 ρ [] h)) 234 [(.pointer (some ⟨16,0,none⟩))] Lit.lB (.agg ⟨[.int .i64 1,.int .i64 1,.int .u32 10]⟩) 8 piB exB Lit.lB=true:=by kernel_rfl
theorem bcfg (h:BoardAt b s w):Calls Tryz.prog 234 #[.pointer (some ⟨b 16,0,none⟩)] w fun e w'=>e=.returned (.agg #[.int .i64 1,.int .i64 1,.int .u32 10])∧Tch (FT (ksB b)) w w'∧BoardAt b s w':=by
 obtain⟨k1,k2,k3,k4⟩:=h.1;refine(h.go (fun _ _ h=>h) (DL.nil _) (exB_ok s) (fun τ hτ hk=>bA1 (bP (hk _ ks16))) h.1 (bcfg_run _ (DL.nil _))).mono ?_;rintro e w' ⟨τ,v,rfl,hv,hs,_,ht,hb⟩;refine⟨?_,ht,hb⟩;obtain⟨x,y,z,rfl,hx,hy,hz⟩:=vr_a3 hv;rw[vr_int hx,vr_int hy,vr_int hz]
end
end Go.Proofs.YtkndlfdpmpdihaaGreatDoor
namespace Go.Proofs.YtkndlfdpmpdihaaGreatDoor
open Go.RowKit Go.Ev Go.Mv
set_option linter.unusedVariables false
set_option linter.unusedSimpArgs false
set_option maxRecDepth 100000
theorem tabW_of {w:World} (h:Tabs w):TabW w:=by
 obtain⟨_,_,e,f,h2⟩:=h;refine⟨_,h2,fun w' hw'=>?_⟩;intro j hj
 have ht:tab64=Lib.deBruijn64tab.map fun n:Nat=>Value.int .u8 (n:Int):=by kernel_rfl
 have hc:(⟨tab64⟩:Array Value)[j]?=some (.int .u8 (Lib.deBruijn64tab.getD j 0)):=by
  rw[ht];simp[hj]
 simp only[World.cell?,hw',hc];rfl
end Go.Proofs.YtkndlfdpmpdihaaGreatDoor
