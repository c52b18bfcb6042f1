/- A new port: its gaps are copied. A new service and all that it stands on. A new service: New, Made, made. The tables, read out of what is listed for TopFull. A new service, as the laws make it. A service whole: its board, its wheel, its clock, its log. Conditions: those that each statement shows. -/
import Derived.Test.YtkndlfdpmpdihaaGreatDoorX42
import Derived.Test.YtkndlfdpmpdihaaGreatDoorX16
import Derived.ArgAppend
import Derived.Test.YtkndlfdpmpdihaaGreatDoorX17
import Derived.Test.YtkndlfdpmpdihaaGreatDoorRows
import Derived.Test.YtkndlfdpmpdihaaGreatDoorX36
import Derived.Deep.Slices
import Derived.ChangeArms
import Derived.ProofKit
import Derived.LaidMore
import Derived.Lib.LaidTab
import Derived.Test.YtkndlfdpmpdihaaGreatDoorX43
namespace Go.Proofs.YtkndlfdpmpdihaaGreatDoor
open Go.RowKit Go.Ev Go.Mv
set_option linter.unusedVariables false
set_option linter.unusedSimpArgs false
set_option maxRecDepth 100000
theorem info22:(Tryz.prog.info? 22).map (fun i=>(i.zero,i.size,i.bytes))=some (some (.int .u32 0),1,4):=by kernel_rfl
theorem under40:Tryz.prog.underlying 40=some (.slice 22):=by kernel_rfl
def GapsIn (p:Option Addr) (gl:List Nat) (w:World):Prop:=gl≠[]→∃ b off,p=some ⟨b,off,none⟩∧b<w.heap.size∧∀ (j v:Nat),gl[j]?=some v→w.cell? ⟨b,off+j,none⟩=some (.int .u32 v)
section
variable {w:World}
set_option maxHeartbeats 1000000 in
theorem gaps11 {pb:Nat} {c3:Value} (hb:Blk w pb #[.int .i64 0,.int .u64 0,.int .i64 0,c3,.slice none 0 0] 104) {p:Option Addr} {cap:Nat} {gl:List Nat} (hl:gl.length≤64) (hp:p=none∨∃ b off,p=some ⟨b,off,none⟩) (hin:GapsIn p gl w) :
 Calls Tryz.prog 11 #[.pointer (some ⟨pb,0,none⟩),.slice p gl.length cap] w fun e w'=>e=.returned (.int .i64 0)∧Tch (fun r=>r=pb) w w'∧∃ ga gc gb,Blk w' pb #[.int .i64 0,.int .u64 0,.int .i64 0,c3,.slice ga gl.length gc] 104 ∧
  (gl≠[]→ga=some ⟨gb,0,none⟩∧w.heap.size≤gb∧gb<w'.heap.size∧∀ (j v:Nat),gl[j]?=some v→w'.cell? ⟨gb,j,none⟩=some (.int .u32 v)):=by
 obtain ⟨i0,hi,hz0,hz1,hz2⟩:=info_parts info22
 have f4:=hb.free 4
 have d4:w.cell? ⟨pb,4,none⟩=some (.slice none 0 0):=hb.cell 4 rfl
 obtain ⟨n,hn⟩:∃ n,n=gl.length:=⟨_,rfl⟩
 rw [←hn] at hl ⊢
 have hd64:decide ((n:Int) > 64)=false:=by simp;omega
 by_cases h0:gl=[]
 ·have:n=0:=by rw [hn,h0];rfl
  subst this
  have HG:=Lib.hid h0
  clear hn h0
  rcases hp with rfl | ⟨b,off,rfl⟩
  ·have z4:=hb.set 4 (.slice none 0 0)
   have ht:=(Tch.refl (fun r=>r=pb) w).setCell (a:=⟨pb,4,none⟩) (.slice none 0 0) (.inl rfl)
   go_enter Tryz.func11,Tryz.ntmps11
   go_wp2_with (at_builtin;fail)
   refine bodyPost_ret (v:=.int .i64 0) ?_ rfl ⟨rfl,ht,none,0,0,z4,fun h=>absurd HG.out h⟩
   simp [results,Tryz.results11,go_sem]
  ·have z4:=hb.set 4 (.slice (some ⟨b,off,none⟩) 0 0)
   have ht:=(Tch.refl (fun r=>r=pb) w).setCell (a:=⟨pb,4,none⟩) (.slice (some ⟨b,off,none⟩) 0 0) (.inl rfl)
   go_enter Tryz.func11,Tryz.ntmps11
   go_wp2_with (at_builtin;fail)
   refine bodyPost_ret (v:=.int .i64 0) ?_ rfl ⟨rfl,ht,(some ⟨b,off,none⟩),0,0,z4,fun h=>absurd HG.out h⟩
   simp [results,Tryz.results11,go_sem]
 ·have hn0:0<n:=by
   rw [hn]
   exact List.length_pos_iff.2 h0
  obtain ⟨b,off,rfl,hbw,hcs⟩:=hin h0
  have hlen:(gl.map fun v:Nat=>Value.int .u32 (v:Int)).length=n*1:=by simp [hn]
  obtain ⟨vs,hvs⟩:∃ vs,vs=gl.map fun v:Nat=>Value.int .u32 (v:Int):=⟨_,rfl⟩
  have hcs':∀ j u,vs[j]?=some u→w.cell? ((⟨b,off,none⟩:Addr).add j)=some u:=by
   intro j u hj
   rw [hvs,List.getElem?_map] at hj
   cases hg:gl[j]? with
   | none=>rw [hg] at hj;cases hj
   | some v=>
     rw [hg] at hj
     cases hj
     rw [Addr.add_lit]
     exact hcs j v hg
  have h1c:∀ u∈vs,u.oneCell'=true:=by
   intro u hu
   rw [hvs] at hu
   obtain ⟨v,_,rfl⟩:=List.mem_map.1 hu
   rfl
  have hvj:∀ (j v:Nat),gl[j]?=some v→vs[j]?=some (.int .u32 v):=fun j v hj=>by rw [hvs,List.getElem?_map,hj];rfl
  rw [←hvs] at hlen
  clear hn h0 hvs
  go_enter Tryz.func11,Tryz.ntmps11
  go_wp2_with (at_builtin;refine wpList_append_grows _ rfl (.tmp 14) (.tmp 15) 40 rfl 22 i0 (.int .u32 0) 1 4 under40 hi hz0 hz1 hz2 rfl (by decide) (some ⟨b,off,none⟩) 0 0 [] rfl (by simp) rfl (by intro _ _ j u hj;simp at hj) ⟨b,off,none⟩ n cap vs rfl hlen hcs' h1c (by omega) (by unfold maxLen;omega) (by omega) ?_)
  intro v1 w1 hown hgrow
  have hb1:Below w.heap.size w w1:=(Below.refl _ w).grown hgrow (Nat.le_refl _) (fun k e=>by cases e)
  have z1:=hb.below hb1 hb.lt
  obtain ⟨hl1,⟨_,hz⟩ | ⟨g,cap1,cur,rfl,hbg,hg1,hnc,hcm,hcsz,htk⟩⟩:=hown
  ·omega
  have f5:=z1.free 4
  have d5:w1.cell? ⟨pb,4,none⟩=some (.slice none 0 0):=z1.cell 4 rfl
  have z4:=z1.set 4 (.slice (some ⟨g,0,none⟩) n cap1)
  have ht:Tch (fun r=>r=pb) w (w1.setCell ⟨pb,4,none⟩ (.slice (some ⟨g,0,none⟩) n cap1)):=(Tch.of_below hb1).trans ((Tch.refl (fun r=>r=pb) w1).setCell (a:=⟨pb,4,none⟩) (.slice (some ⟨g,0,none⟩) n cap1) (.inl rfl))
  have hgs:g<w1.heap.size:=(Array.getElem?_eq_some_iff.1 hg1).1
  have hgp:g≠pb:=fun e=>by have:=hb.lt;omega
  have hgc:∀ (j v:Nat),gl[j]?=some v→(w1.setCell ⟨pb,4,none⟩ (.slice (some ⟨g,0,none⟩) n cap1)).cell? ⟨g,j,none⟩=some (.int .u32 v):=by
   intro j v hj
   have hu:=hvj j v hj
   unfold World.cell?
   rw [((Tch.refl (fun r=>r=pb) w1).setCell (a:=⟨pb,4,none⟩) (.slice (some ⟨g,0,none⟩) n cap1) (.inl rfl)).block g hgs hgp,hg1]
   show cur[j]?=_
   have hlt:j<n*1:=by
    have:=(List.getElem?_eq_some_iff.1 hu).1
    omega
   rw [←htk,List.getElem?_take_of_lt hlt] at hu
   simpa using hu
  go_wp2
  refine bodyPost_ret (v:=.int .i64 0) ?_ rfl ⟨rfl,ht,some ⟨g,0,none⟩,cap1,g,z4,fun _=>⟨rfl,hbg,?_,hgc⟩⟩
  ·simp [results,Tryz.results11,go_sem]
  ·exact Nat.lt_of_lt_of_le hgs (Tch.refl (fun r=>r=pb) w1 |>.setCell (a:=⟨pb,4,none⟩) (.slice (some ⟨g,0,none⟩) n cap1) (.inl rfl)).size
theorem boot42 {Q:QB} {S:QS} (h:PortAt Q S w):Calls Tryz.prog 42 #[.pointer (some ⟨Q.pb,0,none⟩)] w fun e w'=>e=.returned (.int .i64 0)∧Tch (fun r=>r=Q.pb) w w'∧PortAt Q S w':=by
 have c2:∀ x:WX w,x.w.cell? ⟨Q.pb,2,none⟩=some (.int .i64 0):=h.blk.wx 2 rfl
 go_enter Tryz.func42,Tryz.ntmps42
 go_wp2
 refine wp_region_grown (by kernel_rfl) (by kernel_rfl) ?_
 repeat (go_big_quiet_step (first | (go_at_call 59;exact WX.of_same ((resets59 (h.below (by first | assumption | exact WX.h _))).mono fun e w' h=>⟨h.1,h.2.symm⟩))))
 refine wpQuiet_nil ?_
 intro w2 hb2
 have h2:=h.below hb2
 have q2:w2.cell? ⟨Q.pb,2,none⟩=some (.int .i64 0):=h2.blk.cell 2 rfl
 have f2:=h2.blk.free 2
 have z2:=h2.blk.set 2 (.int .i64 0)
 have ht:=(Tch.refl (fun r=>r=Q.pb) w2).setCell (a:=⟨Q.pb,2,none⟩) (.int .i64 0) (.inl rfl)
 have h3:=h2.selfT (m:=S.made) (sp:=S.sp) ht z2
 clear c2
 go_wp2
 refine bodyPost_ret (v:=.int .i64 0) ?_ rfl ⟨rfl,(Tch.of_below hb2).trans ht,h3⟩
 simp [results,Tryz.results42,go_sem]
theorem pnew8 {b:Nat→Nat} {s:BT} (h:BoardAt b s w) {p:Option Addr} {cap:Nat} {gl:List Nat} (hl:gl.length≤64) (hv:∀ v∈gl,v<4294967296) (hp:p=none∨∃ b off,p=some ⟨b,off,none⟩) (hin:GapsIn p gl w) :
 Calls Tryz.prog 8 #[.pointer (some ⟨b 16,0,none⟩),.slice p gl.length cap] w fun e w'=>∃ Q:QB,e=.returned (.tuple #[.pointer (some ⟨Q.pb,0,none⟩),.int .i64 0])∧Below w.heap.size w w'∧PortAt Q ⟨s,0,0⟩ w'∧Q.b=b∧Q.gl=gl∧w.heap.size≤Q.pb∧(gl≠[]→w.heap.size≤Q.gb):=by
 have hB:=(Below.refl w.heap.size w).alloc (Nat.le_refl _) (.cells #[.int .i64 0,.int .u64 0,.int .i64 0,.pointer (some ⟨b 16,0,none⟩),.slice none 0 0] 104)
 have hX:=Blk.new w #[.int .i64 0,.int .u64 0,.int .i64 0,.pointer (some ⟨b 16,0,none⟩),.slice none 0 0] 104
 have hin1:GapsIn p gl (w.alloc (.cells #[.int .i64 0,.int .u64 0,.int .i64 0,.pointer (some ⟨b 16,0,none⟩),.slice none 0 0] 104)):=fun hn=>by
  obtain ⟨b,off,h1,h2,h3⟩:=hin hn
  exact ⟨b,off,h1,Nat.lt_of_lt_of_le h2 hB.size,fun j v hj=>(hB.cell (p:=⟨b,off+j,none⟩) h2).trans (h3 j v hj)⟩
 have h1:=h.tch (X:=fun _=>False) (Tch.of_below hB) (fun k e=>e.elim)
 have hG:=gaps11 hX hl (cap:=cap) hp hin1
 obtain ⟨n,hn⟩:∃ n,n=gl.length:=⟨_,rfl⟩
 obtain ⟨x,hx⟩:∃ x,x=w.heap.size:=⟨_,rfl⟩
 rw [←hn,←hx] at hG
 have hxb:∀ r,FT (ksB b) r→r<x:=by rw [hx];exact h.lt
 have hx8:8≤x:=by
  have h1:=hxb (b 16) ⟨16,ks16⟩
  have h2:=h.hi (b 16) ⟨16,ks16⟩
  omega
 rw [←hn,←hx]
 have HN:=Lib.hid hn
 rw [←hx] at hB hX
 clear hn hin hin1
 go_enter Tryz.func8,Tryz.ntmps8
 go_wp2_with (go_at_call 11;fail)
 rw [←hx]
 clear hx
 refine hG.mono ?_
 rintro e w2 ⟨rfl,ht2,ga,gc,gb,hb2,hga⟩
 have hxl:=hX.lt
 have hq:PortAt ⟨b,x,ga,gc,gb,gl⟩ ⟨s,0,0⟩ w2:=by
  have e:=HN.out
  subst e
  exact ⟨h1.tch ht2 (fun k e=>e ▸ ⟨fun e'=>by have:=hxb x e';omega,hx8⟩),hb2,fun hn=>⟨(hga hn).1,(hga hn).2.2.1⟩,fun j v hj=>⟨hv v (List.mem_of_getElem? hj),(hga (by rintro e;rw [e] at hj;simp at hj)).2.2.2 j v hj⟩,
   fun e'=>by have:=hxb x e';omega,fun hn=>⟨fun e'=>by have h2:=hxb gb e';have h3:=(hga hn).2.1;omega,by have h3:=(hga hn).2.1;show gb≠x;omega,by have h3:=(hga hn).2.1;show 8≤gb;omega⟩,hx8⟩
 have hgx:gl≠[]→x≤gb:=fun hn=>by have:=(hga hn).2.1;omega
 have hB2:Below x w w2:=hB.trans ⟨ht2.os,ht2.tape,ht2.output,ht2.size,fun k hk=>ht2.block k (by omega) (by omega)⟩
 clear hb2 hga ht2 hG hX hB h1
 go_wp2_with (go_at_call 42;fail)
 refine (boot42 hq).mono ?_
 rintro e w3 ⟨rfl,ht3,hq3⟩
 go_wp2
 refine bodyPost_ret (v:=.tuple #[.pointer (some ⟨x,0,none⟩),.int .i64 0]) ?_ rfl ⟨⟨b,x,ga,gc,gb,gl⟩,rfl,hB2.trans ⟨ht3.os,ht3.tape,ht3.output,ht3.size,fun k hk=>ht3.block k (by have:=hq.blk.lt;show k<_;exact Nat.lt_trans hk this) (fun e=>by have e:k=x:=e;omega)⟩,hq3,rfl,rfl,Nat.le_refl _,hgx⟩
 simp [results,Tryz.results8,go_sem]
end
section
variable {w:World}
theorem tch_new {X:Nat→Prop} {n:Nat} {w w':World} (h:Tch X w w') (hX:∀ k,X k→n≤k) (hn:n≤w.heap.size):Below n w w':=⟨h.os,h.tape,h.output,h.size,fun k hk=>h.block k (by omega) (fun e=>by have:=hX k e;omega)⟩
theorem snew165 {Q:QB} {S:QS} (h:PortAt Q S w):Calls Tryz.prog 165 #[.pointer (some ⟨Q.pb,0,none⟩),.int .i64 0] w fun e w'=>∃ hb,e=.returned (.tuple #[.pointer (some ⟨hb,0,none⟩),.int .i64 0])∧Tch (FT (ksB Q.b)) w w'∧w.heap.size≤hb∧ShotAt Q hb S 18446744073709551615 w':=by
 have hf:∀ w,(Instr.field 29 (.agg #[.int .i64 1,.int .i64 1,.int .u32 10]) 0).run Tryz.prog w=.ok (.int .i64 1) w:=fun _=>by kernel_rfl
 go_enter Tryz.func165,Tryz.ntmps165
 go_wp2_with (first | (go_at_call 25;refine (pboard25 h).mono ?_;rintro e w1 ⟨rfl,rfl⟩) | (go_at_call 234;fail))
 refine (bcfg h.board).mono ?_
 rintro e w2 ⟨rfl,ht2,hb2⟩
 have h2:=h.boardT ht2 hb2
 have hX:=Blk.new w2 #[.pointer (some ⟨Q.pb,0,none⟩),.int .i64 0,.int .u64 18446744073709551615] 203
 have hB:Below w2.heap.size w2 (w2.alloc (.cells #[.pointer (some ⟨Q.pb,0,none⟩),.int .i64 0,.int .u64 18446744073709551615] 203)):=(Below.refl _ w2).alloc (Nat.le_refl _) _
 have h3:=h2.below hB
 have ho:=h2.away (Nat.le_refl _)
 have h8:8≤w2.heap.size:=by have:=h2.hi;have:=h2.blk.lt;omega
 go_wp2
 refine bodyPost_ret (v:=.tuple #[.pointer (some ⟨w2.heap.size,0,none⟩),.int .i64 0]) ?_ rfl ⟨w2.heap.size,rfl,ht2.trans (Tch.of_below hB),ht2.size,h3,hX,ho,h8⟩
 simp [results,Tryz.results165,go_sem]
theorem cnew167 (pb:Nat):Calls Tryz.prog 167 #[.pointer (some ⟨pb,0,none⟩)] w fun e w'=>e=.returned (.pointer (some ⟨w.heap.size,0,none⟩))∧w'=w.alloc (.cells #[.pointer (some ⟨pb,0,none⟩),.int .u64 0] 207):=by
 go_enter Tryz.func167,Tryz.ntmps167
 go_wp2
 refine bodyPost_ret (v:=.pointer (some ⟨w.heap.size,0,none⟩)) ?_ rfl ⟨rfl,rfl⟩
 simp [results,Tryz.results167,go_sem]
theorem fnew168:Calls Tryz.prog 168 #[] w fun e w'=>e=.returned (.pointer (some ⟨w.heap.size+1,0,none⟩))∧w'=(w.alloc (.map #[] 0)).alloc (.cells #[.slice none 0 0,.map (some w.heap.size)] 242):=by
 have hmm:=@run_makeMap Tryz.prog
 go_enter Tryz.func168,Tryz.ntmps168
 go_wp2
 refine bodyPost_ret (v:=.pointer (some ⟨w.heap.size+1,0,none⟩)) ?_ rfl ⟨rfl,rfl⟩
 simp [results,Tryz.results168,go_sem]
theorem dnew9 (pb:Nat):Calls Tryz.prog 9 #[.pointer (some ⟨pb,0,none⟩)] w fun e w'=>∃ x:Nat,e=.returned (.pointer (some ⟨x,0,none⟩))∧Below w.heap.size w w':=by
 go_enter Tryz.func9,Tryz.ntmps9
 go_wp2
 refine bodyPost_ret (v:=.pointer (some ⟨w.heap.size,0,none⟩)) ?_ rfl ⟨_,rfl,(Below.refl _ _).alloc (Nat.le_refl _) _⟩
 simp [results,Tryz.results9,go_sem]
end
structure Extra (Q:QB) (hb:Nat) (B:WB) (Z:SB) (kb lb mb:Nat):Prop where
 v1:Z.v1=.pointer (some ⟨kb,0,none⟩)
 v4:Z.v4=.pointer (some ⟨lb,0,none⟩)
 k:¬DF Q hb kb∧¬B.all kb∧kb≠Z.b∧8≤kb
 l:¬DF Q hb lb∧¬B.all lb∧lb≠Z.b∧8≤lb
 m:¬DF Q hb mb∧¬B.all mb∧mb≠Z.b∧8≤mb
 kl:kb≠lb
 km:kb≠mb
 lm:lb≠mb
section
variable {w:World}
theorem vnew101 {Q:QB} {S:QS} {n0:Nat} (h:PortAt Q S w) (hT:Tabs w) (h8:8≤n0) (h0:∀ k,Q.ft k→n0≤k) (hn:n0≤w.heap.size) {r left:Nat} (h1:1≤r) (h2:r≤31) (hm:S.made+left<4611686018427387904) (ht:S.s.time+left*4294967296<4611686018427387904) :
 Calls Tryz.prog 101 #[.pointer (some ⟨Q.pb,0,none⟩),.int .i64 0,.int .i64 r] w fun e w'=>∃ (hb:Nat) (B:WB) (Z:SB) (kb lb mb:Nat),e=.returned (.tuple #[.pointer (some ⟨Z.b,0,none⟩),.int .i64 0])∧Below n0 w w' ∧
  SvcAt (deskBI Q hb) B Z ⟨S.s,S.made,S.sp,18446744073709551615,left,by omega⟩ ws0 w'∧Z.room=r∧B.p.room=r∧B.c.room=r∧(∀ k,DF Q hb k∨B.all k→n0≤k)∧n0≤Z.b ∧
  Extra Q hb B Z kb lb mb∧Blk w' kb #[.pointer (some ⟨Q.pb,0,none⟩),.int .u64 0] 207∧Blk w' lb #[.slice none 0 0,.map (some mb)] 242∧w'.heap[mb]?=some (.map #[] 0)∧n0≤kb∧n0≤lb∧n0≤mb:=by
 have hmm:=@run_makeMap Tryz.prog
 go_enter Tryz.func101,Tryz.ntmps101
 go_wp2_with (go_at_call 165;fail)
 refine (snew165 h).mono ?_
 rintro e w1 ⟨hb,rfl,ht1,hb1,hs1⟩
 have hB1:Below n0 w w1:=tch_new ht1 (fun k hk=>h0 k (.inl hk)) hn
 go_wp2_with (go_at_call 166;fail)
 refine (wheel_new h1 (by omega) w1).mono ?_
 rintro e w2 ⟨B,rfl,hb2,hw2,hr1,hr2,hall⟩
 have hs2:=hs1.tch (X:=fun _=>False) (Tch.of_below hb2) (fun k e=>e.elim)
 go_wp2_with (first | (go_at_call 167;refine (cnew167 Q.pb).mono ?_;rintro e w3 ⟨rfl,rfl⟩) | (go_at_call 168;refine fnew168.mono ?_;rintro e w3 ⟨rfl,rfl⟩))
 have hB5:Below w2.heap.size w2 ((((w2.alloc (Obj.cells #[.pointer (some ⟨Q.pb,0,none⟩),.int .u64 0] 207)).alloc (Obj.map #[] 0)).alloc (Obj.cells #[.slice none 0 0,.map (some (w2.heap.size+1))] 242)).alloc (Obj.cells #[.pointer (some ⟨B.b,0,none⟩),.pointer (some ⟨w2.heap.size,0,none⟩),.pointer (some ⟨hb,0,none⟩),.pointer (some ⟨Q.pb,0,none⟩),.pointer (some ⟨w2.heap.size+1+1,0,none⟩),.int .i64 r] 133)):=((((Below.refl _ w2).alloc (Nat.le_refl _) _).alloc (by simp) _).alloc (by simp;omega) _).alloc (by simp;omega) _
 have z0:Blk ((((w2.alloc (Obj.cells #[.pointer (some ⟨Q.pb,0,none⟩),.int .u64 0] 207)).alloc (Obj.map #[] 0)).alloc (Obj.cells #[.slice none 0 0,.map (some (w2.heap.size+1))] 242)).alloc (Obj.cells #[.pointer (some ⟨B.b,0,none⟩),.pointer (some ⟨w2.heap.size,0,none⟩),.pointer (some ⟨hb,0,none⟩),.pointer (some ⟨Q.pb,0,none⟩),.pointer (some ⟨w2.heap.size+1+1,0,none⟩),.int .i64 r] 133)) w2.heap.size #[.pointer (some ⟨Q.pb,0,none⟩),.int .u64 0] 207:=(((Blk.new w2 _ _).alloc _).alloc _).alloc _
 have z1:((((w2.alloc (Obj.cells #[.pointer (some ⟨Q.pb,0,none⟩),.int .u64 0] 207)).alloc (Obj.map #[] 0)).alloc (Obj.cells #[.slice none 0 0,.map (some (w2.heap.size+1))] 242)).alloc (Obj.cells #[.pointer (some ⟨B.b,0,none⟩),.pointer (some ⟨w2.heap.size,0,none⟩),.pointer (some ⟨hb,0,none⟩),.pointer (some ⟨Q.pb,0,none⟩),.pointer (some ⟨w2.heap.size+1+1,0,none⟩),.int .i64 r] 133)).heap[w2.heap.size+1]?=some (.map #[] 0):=by
  have e:(w2.alloc (Obj.cells #[.pointer (some ⟨Q.pb,0,none⟩),.int .u64 0] 207)).heap.size=w2.heap.size+1:=by simp
  have h1:((w2.alloc (Obj.cells #[.pointer (some ⟨Q.pb,0,none⟩),.int .u64 0] 207)).alloc (Obj.map #[] 0)).heap[w2.heap.size+1]?=some (.map #[] 0):=by rw [←e];exact heap_alloc_new _ _
  exact (heap_alloc_old _ _ (by simp)).trans ((heap_alloc_old _ _ (by simp)).trans h1)
 have z2:Blk ((((w2.alloc (Obj.cells #[.pointer (some ⟨Q.pb,0,none⟩),.int .u64 0] 207)).alloc (Obj.map #[] 0)).alloc (Obj.cells #[.slice none 0 0,.map (some (w2.heap.size+1))] 242)).alloc (Obj.cells #[.pointer (some ⟨B.b,0,none⟩),.pointer (some ⟨w2.heap.size,0,none⟩),.pointer (some ⟨hb,0,none⟩),.pointer (some ⟨Q.pb,0,none⟩),.pointer (some ⟨w2.heap.size+1+1,0,none⟩),.int .i64 r] 133)) (w2.heap.size+1+1) #[.slice none 0 0,.map (some (w2.heap.size+1))] 242:=by
  have:=(Blk.new ((w2.alloc (Obj.cells #[.pointer (some ⟨Q.pb,0,none⟩),.int .u64 0] 207)).alloc (Obj.map #[] 0)) #[.slice none 0 0,.map (some (w2.heap.size+1))] 242).alloc (Obj.cells #[.pointer (some ⟨B.b,0,none⟩),.pointer (some ⟨w2.heap.size,0,none⟩),.pointer (some ⟨hb,0,none⟩),.pointer (some ⟨Q.pb,0,none⟩),.pointer (some ⟨w2.heap.size+1+1,0,none⟩),.int .i64 r] 133)
  simpa using this
 have z3:Blk ((((w2.alloc (Obj.cells #[.pointer (some ⟨Q.pb,0,none⟩),.int .u64 0] 207)).alloc (Obj.map #[] 0)).alloc (Obj.cells #[.slice none 0 0,.map (some (w2.heap.size+1))] 242)).alloc (Obj.cells #[.pointer (some ⟨B.b,0,none⟩),.pointer (some ⟨w2.heap.size,0,none⟩),.pointer (some ⟨hb,0,none⟩),.pointer (some ⟨Q.pb,0,none⟩),.pointer (some ⟨w2.heap.size+1+1,0,none⟩),.int .i64 r] 133)) (w2.heap.size+1+1+1) #[.pointer (some ⟨B.b,0,none⟩),.pointer (some ⟨w2.heap.size,0,none⟩),.pointer (some ⟨hb,0,none⟩),.pointer (some ⟨Q.pb,0,none⟩),.pointer (some ⟨w2.heap.size+1+1,0,none⟩),.int .i64 r] 133:=by
  have:=Blk.new (((w2.alloc (Obj.cells #[.pointer (some ⟨Q.pb,0,none⟩),.int .u64 0] 207)).alloc (Obj.map #[] 0)).alloc (Obj.cells #[.slice none 0 0,.map (some (w2.heap.size+1))] 242)) #[.pointer (some ⟨B.b,0,none⟩),.pointer (some ⟨w2.heap.size,0,none⟩),.pointer (some ⟨hb,0,none⟩),.pointer (some ⟨Q.pb,0,none⟩),.pointer (some ⟨w2.heap.size+1+1,0,none⟩),.int .i64 r] 133
  simpa using this
 generalize ((((w2.alloc (Obj.cells #[.pointer (some ⟨Q.pb,0,none⟩),.int .u64 0] 207)).alloc (Obj.map #[] 0)).alloc (Obj.cells #[.slice none 0 0,.map (some (w2.heap.size+1))] 242)).alloc (Obj.cells #[.pointer (some ⟨B.b,0,none⟩),.pointer (some ⟨w2.heap.size,0,none⟩),.pointer (some ⟨hb,0,none⟩),.pointer (some ⟨Q.pb,0,none⟩),.pointer (some ⟨w2.heap.size+1+1,0,none⟩),.int .i64 r] 133))=w5 at *
 have hdf1:∀ k,DF Q hb k→k<w1.heap.size:=by
  rintro k (hk | rfl)
  ·exact hs1.port.lt k hk
  ·exact hs1.blk.lt
 have hsz:=hb2.size
 have hn1:=hB1.size
 have hn01:n0≤w1.heap.size:=by have:=ht1.size;omega
 have hbl:∀ k,B.all k→k<w2.heap.size:=by
  have hl:=hw2.lt
  rintro k ((e | (e | e | e) | (e | e)) | e | e)<;>omega
 have hdn:∀ k,DF Q hb k→n0≤k:=by
  rintro k (hk | rfl)
  ·exact h0 k hk
  ·omega
 have away:∀ x,w2.heap.size≤x→¬DF Q hb x∧¬B.all x:=fun x hx=>⟨fun e=>by have:=hdf1 x e;omega,fun e=>by have:=hbl x e;omega⟩
 have hBn:Below n0 w w5:=(hB1.trans (hb2.mono hn01)).trans (hB5.mono (by omega))
 have hs5:=hs2.tch (X:=fun _=>False) (Tch.of_below hB5) (fun k e=>e.elim)
 have a0:=away w2.heap.size (Nat.le_refl _)
 have a1:=away (w2.heap.size+1) (by omega)
 have a2:=away (w2.heap.size+1+1) (by omega)
 have a3:=away (w2.heap.size+1+1+1) (by omega)
 refine bodyPost_ret (v:=.tuple #[.pointer (some ⟨w2.heap.size+1+1+1,0,none⟩),.int .i64 0]) ?_ rfl ⟨hb,B,⟨w2.heap.size+1+1+1,.pointer (some ⟨w2.heap.size,0,none⟩),.pointer (some ⟨w2.heap.size+1+1,0,none⟩),r⟩,w2.heap.size,w2.heap.size+1+1,w2.heap.size+1,rfl,hBn,
  ⟨z3,hw2.below hB5 hw2.lt,⟨hs5,hm,ht,hT.below h8 hBn⟩,a3.1,fun k hk e=>?_,a3.2,fun k hk=>?_⟩,rfl,hr1,hr2,fun k hk=>?_,?_,⟨rfl,rfl,⟨a0.1,a0.2,?_,?_⟩,⟨a2.1,a2.2,?_,?_⟩,⟨a1.1,a1.2,?_,?_⟩,?_,?_,?_⟩,z0,z2,z1,?_,?_,?_⟩
 ·simp [results,Tryz.results101,go_sem]
 ·have:=hall k hk
  have:=hdf1 k e
  omega
 ·have:=hall k hk
  omega
 ·rcases hk with hk | hk
  ·exact hdn k hk
  ·have:=hall k hk
   omega
 all_goals first
  | omega
  | (show _≠w2.heap.size+1+1+1;omega)
  | (show n0≤w2.heap.size+1+1+1;omega)
end
end Go.Proofs.YtkndlfdpmpdihaaGreatDoor
namespace Go.Proofs.YtkndlfdpmpdihaaGreatDoor
open Go.ChangeShapes Go.WideShapes Go.Deep Go.RowKit Go.Ev
set_option linter.unusedVariables false
set_option maxRecDepth 100000
theorem var_at {W:World} {n:String} {g:Nat} {cs:Array Value} (hg:Tryz.prog.globalNamed n=some g) (h:W.var? Tryz.prog n=some cs):∃ e f,W.heap[g]?=some (.cells cs e f):=by
 unfold World.var? at h
 rw [hg] at h
 simp only [Option.bind_some] at h
 split at h
 ·rename_i cs' e f hh
  cases h
  exact ⟨_,_,hh⟩
 ·cases h
def numsOf (l:List Value):List Int:=l.map fun v=>match v with
 | .int _ n=>n
 | _=>0
theorem tabs_full {W:World} (h:laidMetH Tryz.prog Rows.topFullRow.laid W):Tabs W:=by
 rw [MakeChecks.laidMetH_plain _ _ _ (by kernel_rfl)] at h
 obtain ⟨ps,⟨g0,t0,cs0,f0,p0,q0,hg0,ht0,hv0,hd0,⟨g1,t1,cs1,f1,p1,q1,hg1,ht1,hv1,hd1,⟨g2,t2,cs2,f2,p2,q2,hg2,ht2,hv2,hd2,_⟩,_⟩,_⟩,_,_⟩:=h
 have n0:Tryz.prog.globalNamed "math/bits.deBruijn32tab" = some 7:=by kernel_rfl
 have n1:Tryz.prog.globalNamed "math/bits.deBruijn64tab" = some 2:=by kernel_rfl
 have n2:Tryz.prog.globalNamed "internal/strconv.uint64pow10" = some 0:=by kernel_rfl
 obtain rfl:=Option.some.inj (n1.symm.trans hg1)
 obtain rfl:=Option.some.inj (n2.symm.trans hg2)
 obtain ⟨e0,w0,h7⟩:=var_at n0 hv0
 obtain ⟨e1,w1,h2⟩:=var_at n1 hv1
 obtain ⟨e2,w2,h0⟩:=var_at n2 hv2
 have T1:(Tryz.prog.globals[2]?).map (·.type)=some 496:=by kernel_rfl
 have T2:(Tryz.prog.globals[0]?).map (·.type)=some 460:=by kernel_rfl
 obtain rfl:=Option.some.inj (T1.symm.trans ht1)
 obtain rfl:=Option.some.inj (T2.symm.trans ht2)
 have x1:=Lib.cells_of_tab (k:=.u8) (zs:=numsOf tab64) Tryz.underlying496 Tryz.underlying5 (by kernel_rfl) (by kernel_rfl) hd1
 have x2:=Lib.cells_of_tab (k:=.u64) (zs:=numsOf pow10) Tryz.underlying460 Tryz.underlying37 (by kernel_rfl) (by kernel_rfl) hd2
 have y1:cs1=⟨tab64⟩:=Array.toList_inj.1 (x1.trans rfl)
 have y2:cs2=⟨pow10⟩:=Array.toList_inj.1 (x2.trans rfl)
 exact ⟨(Array.getElem?_eq_some_iff.1 h7).1,⟨e2,w2,by rw [h0,y2]⟩,e1,w1,by rw [h2,y1]⟩
end Go.Proofs.YtkndlfdpmpdihaaGreatDoor
namespace Go.Proofs.YtkndlfdpmpdihaaGreatDoor
open Go.RowKit Go.Ev Go.Mv
set_option linter.unusedVariables false
set_option linter.unusedSimpArgs false
set_option maxRecDepth 100000
def MadeW (n0 r left:Nat) (gl:List Nat) (v:Value) (w':World):Prop:=∃ (Q:QB) (hb:Nat) (B:WB) (Z:SB) (kb lb mb:Nat) (a:AS),v=.pointer (some ⟨Z.b,0,none⟩) ∧
 SvcAt (deskBI Q hb) B Z a ws0 w'∧a.s=bt0∧a.am=18446744073709551615∧a.left=left∧Q.gl=gl∧Z.room=r∧B.p.room=r∧B.c.room=r∧(∀ k,DF Q hb k∨B.all k→n0≤k)∧n0≤Z.b ∧
 Extra Q hb B Z kb lb mb∧Blk w' kb #[.pointer (some ⟨Q.pb,0,none⟩),.int .u64 0] 207∧Blk w' lb #[.slice none 0 0,.map (some mb)] 242∧w'.heap[mb]?=some (.map #[] 0)∧n0≤kb∧n0≤lb∧n0≤mb
section
variable {w:World}
theorem made60 (hT:Tabs w) {r left:Nat} (h1:1≤r) (h2:r≤31) (hleft:left≤536870912) {p:Option Addr} {cap:Nat} {gl:List Nat} (hl:gl.length≤64) (hv:∀ v∈gl,v<4294967296) (hp:p=none∨∃ b off,p=some ⟨b,off,none⟩) (hin:GapsIn p gl w) :
 Calls Tryz.prog 60 #[.int .i64 1,.int .i64 0,.int .i64 r,.slice p gl.length cap] w fun e w'=>∃ v,e=.returned v∧Below w.heap.size w w'∧MadeW w.heap.size r left gl v w':=by
 have h8:=hT.1
 have hpn:∀ {w b s},BoardAt b s w→GapsIn p gl w→_:=fun {w b s} h hi=>pnew8 (w:=w) (b:=b) (s:=s) h (cap:=cap) hl hv hp hi
 obtain ⟨n,hn⟩:∃ n,n=gl.length:=⟨_,rfl⟩
 rw [←hn] at hpn ⊢
 have HN:=Lib.hid hn
 clear hn
 go_enter Tryz.func60,Tryz.ntmps60
 go_wp2_with (go_at_call 7;fail)
 refine (bnew hT).mono ?_
 rintro e w1 ⟨b,rfl,hb1,hB1,hft⟩
 have hin1:GapsIn p gl w1:=fun hn=>by
  obtain ⟨b,off,h1,h2,h3⟩:=hin hn
  exact ⟨b,off,h1,Nat.lt_of_lt_of_le h2 hb1.size,fun j v hj=>(hb1.cell (p:=⟨b,off+j,none⟩) h2).trans (h3 j v hj)⟩
 go_wp2_with (go_at_call 8;fail)
 refine (hpn hB1 hin1).mono ?_
 rintro e w2 ⟨Q,rfl,hb2,hP2,hQb,hQl,hQp,hQg⟩
 subst hQb
 have hB2:=hb1.trans (hb2.mono hb1.size)
 have hsz1:=hb1.size
 have hsz2:=hb2.size
 have h0:∀ k,Q.ft k→w.heap.size≤k:=by
  rintro k (hk | rfl | ⟨hn,rfl⟩)
  ·exact hft k hk
  ·omega
  ·have:=hQg (by rw [←hQl];exact hn)
   omega
 have hv1:=vnew101 hP2 (hT.below h8 hB2) h8 h0 (by omega) h1 h2 (left:=left) (by show 0+left<_;omega) (by show 0+left*4294967296<_;omega)
 clear hpn hin1 hB1 hft hQp hQg hb1 hb2
 go_wp2_with (go_at_call 101;fail)
 refine hv1.mono ?_
 rintro e w3 ⟨hb,B,Z,kb,lb,mb,rfl,hb3,hs3,x1,x2,x3,x4,x5,x6,x7,x8,x9,x10,x11,x12⟩
 go_wp2
 refine bodyPost_ret (v:=.pointer (some ⟨Z.b,0,none⟩)) ?_ rfl ⟨_,rfl,hB2.trans hb3,Q,hb,B,Z,kb,lb,mb,_,rfl,hs3,rfl,rfl,rfl,hQl,x1,x2,x3,x4,x5,x6,x7,x8,x9,x10,x11,x12⟩
 simp [results,Tryz.results60,go_sem]
end
structure Side where
 Q:QB
 hb:Nat
 B:WB
 Z:SB
 kb:Nat
 lb:Nat
 mb:Nat
def Side.all (X:Side):Nat→Prop:=fun r=>DF X.Q X.hb r∨X.B.all r∨r=X.Z.b∨r=X.kb∨r=X.lb∨r=X.mb
structure SideAt (X:Side) (nL:Nat) (fs:List (Nat×Nat×Nat×Int)) (a:AS) (S:WS) (w:World):Prop where
 svc:SvcAt (deskBI X.Q X.hb) X.B X.Z a S w
 ext:Extra X.Q X.hb X.B X.Z X.kb X.lb X.mb
 clk:∃ last,Blk w X.kb #[.pointer (some ⟨X.Q.pb,0,none⟩),last] 207
 wl:∃ ls,WL X.B X.Z.room S ls
 lst:Least S.p a.s.cmp
 am:a.am=a.s.cmp
 log:LogAt X.lb X.mb nL fs w
 base:S.base<9223372036854775808
 hi:∀ k,X.all k→8≤k
 lo:∀ k,X.all k→k<nL
section
variable {X:Side} {nL:Nat} {fs:List (Nat×Nat×Nat×Int)} {a a':AS} {S S':WS} {w w':World}
theorem SideAt.desk (h:SideAt X nL fs a S w):DeskAt X.Q X.hb a w:=h.svc.board
theorem SideAt.lt (h:SideAt X nL fs a S w):∀ k,X.all k→k<w.heap.size:=by
 obtain ⟨v,f,n,q1,q2,_⟩:=h.log
 obtain ⟨l,hk⟩:=h.clk
 have hl:=h.svc.wheel.lt
 rintro k (e | e | rfl | rfl | rfl | rfl)
 ·exact h.desk.lt k e
 ·rcases e with (e | (e | e | e) | (e | e)) | e | e<;>omega
 ·exact h.svc.lt
 ·exact hk.lt
 ·exact q1.lt
 ·exact q2.lt
theorem SideAt.tch (h:SideAt X nL fs a S w) {Y:Nat→Prop} (ht:Tch Y w w') (hy:∀ k,Y k→¬X.all k∧8≤k) (hr:∀ k,Y k→nL≤k→w.heap.size≤k):SideAt X nL fs a S w':=by
 obtain ⟨l,hk⟩:=h.clk
 refine ⟨h.svc.tch ht (fun e=>(hy _ e).1 (.inr (.inr (.inl rfl)))) (fun k hk e=>(hy k e).1 (.inr (.inl hk))) (fun k e=>⟨fun e2=>(hy k e).1 (.inl e2),(hy k e).2⟩),h.ext,
  ⟨l,(ht.block _ hk.lt (fun e=>(hy _ e).1 (.inr (.inr (.inr (.inl rfl)))))).trans hk⟩,h.wl,h.lst,h.am,h.log.tch ht (fun e=>(hy _ e).1 (.inr (.inr (.inr (.inr (.inl rfl)))))) (fun e=>(hy _ e).1 (.inr (.inr (.inr (.inr (.inr rfl)))))) hr,h.base,h.hi,h.lo⟩
theorem SideAt.below (h:SideAt X nL fs a S w) (hb:Below w.heap.size w w'):SideAt X nL fs a S w':=h.tch (Y:=fun _=>False) (Tch.of_below hb) (fun _ e=>e.elim) (fun _ e=>e.elim)
theorem SideAt.upd (h:SideAt X nL fs a S w) {Y:Nat→Prop} (ht:Tch Y w w') (hy:∀ k,Y k→DF X.Q X.hb k∨X.B.own k) (hs:SvcAt (deskBI X.Q X.hb) X.B X.Z a' S' w') (hw:∃ ls,WL X.B X.Z.room S' ls) (hl:Least S'.p a'.s.cmp) (hm:a'.am=a'.s.cmp) (hb:S'.base<9223372036854775808):SideAt X nL fs a' S' w':=by
 obtain ⟨l,hk⟩:=h.clk
 have he:=h.ext
 have hno:∀ x,¬DF X.Q X.hb x→¬X.B.all x→¬Y x:=fun x h1 h2 e=>(hy x e).elim h1 (fun e2=>h2 (.inl e2))
 exact ⟨hs,he,⟨l,(ht.block _ hk.lt (hno _ he.k.1 he.k.2.1)).trans hk⟩,hw,hl,hm,h.log.tch ht (hno _ he.l.1 he.l.2.1) (hno _ he.m.1 he.m.2.1) (fun k e hk=>by
  have:=h.lo k ((hy k e).elim .inl (fun e2=>.inr (.inl (.inl e2))))
  omega),hb,h.hi,h.lo⟩
theorem SideAt.own (h:SideAt X nL fs a S w) {Y:Nat→Prop} (ht:Tch Y w w') (hy:∀ k,Y k→DF X.Q X.hb k∨X.B.own k):Tch X.all w w':=ht.mono fun k e=>(hy k e).elim .inl (fun e2=>.inr (.inl (.inl e2)))
theorem least_of {v:Nat} {b:Bool} (hl:Least S'.p (if b then v else 18446744073709551615)) (hm:a.am=a.s.cmp) {Q:QB} (hr:(a'=a∧a.am=if b then v else 18446744073709551615)∨ArmR Q a (if b then v else 18446744073709551615) a') :
 Least S'.p a'.s.cmp∧a'.am=a'.s.cmp∧(a.left≤a'.left+3∧a'.left≤a.left)∧a.s.time≤a'.s.time∧∀ g,(∀ n,Q.gap n≤g)→a'.s.time≤a.s.time+3*g:=by
 rcases hr with ⟨rfl,h⟩ | ⟨h1,h2,h3,h4,h5⟩
 ·refine ⟨?_,hm,⟨by omega,Nat.le_refl _⟩,Nat.le_refl _,fun g _=>by omega⟩
  rw [←hm,h]
  exact hl
 ·exact ⟨by rw [h2];exact hl,by rw [h1,h2],⟨by omega,by omega⟩,h3,h4⟩
theorem side_at (h:SideAt X nL fs a S w) {d hv:Nat} (hn:S.p.n<X.Z.room) (hA:Ad X.B S d 0 hv S') (hw:∃ ls,WL X.B X.Z.room S' ls) (hb:S'.base<9223372036854775808) (hl:3≤a.left) :
 Calls Tryz.prog 26 #[.pointer (some ⟨X.Z.b,0,none⟩),.int .u64 d,.int .u64 0] w fun e w'=>e=.returned (.tuple #[.int .u64 hv,.int .i64 0])∧Tch X.all w w' ∧
  ∃ a',SideAt X nL fs a' S' w'∧(a.left≤a'.left+3∧a'.left≤a.left)∧a.s.time≤a'.s.time∧∀ g,(∀ n,X.Q.gap n≤g)→a'.s.time≤a.s.time+3*g:=by
 obtain ⟨ls,hW⟩:=hw
 obtain ⟨v,b,hx,hL⟩:=hW.nxt
 refine (sat_ok (p:=0) h.svc hn hA hx hl).mono ?_
 rintro e w' ⟨rfl,ht,a',hs,hr⟩
 obtain ⟨r1,r2,r3,r4,r5⟩:=least_of hL h.am hr
 exact ⟨rfl,h.own ht (fun k e=>e),a',h.upd ht (fun k e=>e) hs ⟨ls,hW⟩ r1 r2 hb,r3,r4,r5⟩
theorem side_board (h:SideAt X nL fs a S w) {Y:Nat→Prop} (ht:Tch Y w w') (hy:∀ k,Y k→DF X.Q X.hb k) (hd:DeskAt X.Q X.hb a' w') (hc:a'.s.cmp=a.s.cmp) (hm:a'.am=a.am):Tch X.all w w'∧SideAt X nL fs a' S w':=by
 have ht2:Tch (DF X.Q X.hb) w w':=ht.mono hy
 exact ⟨ht2.mono fun k e=>.inl e,h.upd ht2 (fun k e=>.inl e) (h.svc.boardT ht2 hd) h.wl (by rw [hc];exact h.lst) (by rw [hc,hm];exact h.am) h.base⟩
theorem side_live (h:SideAt X nL fs a S w):Calls Tryz.prog 30 #[.pointer (some ⟨X.Z.b,0,none⟩)] w fun e w'=>e=.returned (.int .i64 (S.p.n:Int))∧Tch X.all w w'∧SideAt X nL fs a S w':=by
 refine (slive_at h.svc).mono ?_
 rintro e w' ⟨rfl,ht,hs⟩
 exact ⟨rfl,side_board h ht (fun k e=>e) hs.board rfl rfl⟩
theorem side_cmp (h:SideAt X nL fs a S w):Calls Tryz.prog 28 #[.pointer (some ⟨X.Q.b 16,0,none⟩),.int .i64 0] w fun e w'=>e=.returned (.int .u64 a.s.cmp)∧Tch X.all w w'∧SideAt X nL fs a S w':=by
 refine ((deskBI X.Q X.hb).cp h.svc.board).mono ?_
 rintro e w' ⟨rfl,ht,hs⟩
 exact ⟨rfl,side_board h ht (fun k e=>e) hs rfl rfl⟩
theorem side_tick (h:SideAt X nL fs a S w) {n:Nat} (hn:a.s.time+n+a.left*4294967296<4611686018427387904):Calls Tryz.prog 15 #[.pointer (some ⟨X.Q.b 16,0,none⟩),.int .u64 n] w fun e w'=>e=.returned (.tuple #[])∧Tch X.all w w' ∧
 ∃ a',SideAt X nL fs a' S w'∧a'.s.time=a.s.time+n∧a'.s.cmp=a.s.cmp∧a'.left=a.left:=by
 have hd:=h.desk
 refine (btick hd.shot.port.board (n:=n) (by show a.s.time+n<_;omega)).mono ?_
 rintro e w' ⟨rfl,ht,s',e1,e2,hB⟩
 have e1':s'.time=a.s.time+n:=e1
 have hd':DeskAt X.Q X.hb { a with s:=s' } w':=⟨hd.shot.portT (ht.mono fun r hr=>.inl hr) (hd.shot.port.boardT ht hB),hd.made,by show s'.time+a.left*4294967296<_;omega,tabs_tch hd.tabs ht (fun k e=>hd.shot.port.board.hi k e)⟩
 obtain ⟨q1,q2⟩:=side_board (a':={ a with s:=s' }) h ht (fun k e=>.inl (.inl e)) hd' e2 rfl
 exact ⟨rfl,q1,_,q2,e1',e2,rfl⟩
theorem side_port (h:SideAt X nL fs a S w):Calls Tryz.prog 24 #[.pointer (some ⟨X.Z.b,0,none⟩)] w fun e w'=>e=.returned (.pointer (some ⟨X.Q.pb,0,none⟩))∧w'=w:=by
 have c3:w.cell? ⟨X.Z.b,3,none⟩=some (.pointer (some ⟨X.Q.pb,0,none⟩)):=h.svc.blk.cell 3 rfl
 go_enter Tryz.func24,Tryz.ntmps24
 go_wp2
 refine bodyPost_ret (v:=.pointer (some ⟨X.Q.pb,0,none⟩)) ?_ rfl ⟨rfl,rfl⟩
 simp [results,Tryz.results24,go_sem]
theorem side_bd (h:SideAt X nL fs a S w):Calls Tryz.prog 25 #[.pointer (some ⟨X.Q.pb,0,none⟩)] w fun e w'=>e=.returned (.pointer (some ⟨X.Q.b 16,0,none⟩))∧w'=w:=pboard25 h.desk.shot.port
theorem side_lives (h:SideAt X nL fs a S w):Calls Tryz.prog 21 #[] w fun e w'=>e=.returned (.bool true)∧Below w.heap.size w w':=lives_any w h.desk.tabs
theorem SideAt.re (h:SideAt X nL [] a S w) {n:Nat} (hn:∀ k,X.all k→k<n):SideAt X n [] a S w:=by
 obtain ⟨v,f,n',q1,q2,q3,q4,q5,q6⟩:=h.log
 have e:=q4 rfl
 subst e
 exact ⟨h.svc,h.ext,h.clk,h.wl,h.lst,h.am,⟨_,f,n',q1,q2,World.ownsRow_nil _ _ _ _,q4,q5,q6⟩,h.base,h.hi,hn⟩
theorem side_fires (h:SideAt X nL fs a S w) (hm:fs.length<1000000):Calls Tryz.prog 31 #[.pointer (some ⟨X.Z.b,0,none⟩)] w fun e w'=>∃ v,e=.returned v∧w'.ownsRow w.heap.size 71 4 v fs.length (fireCells fs)∧Below w.heap.size w w':=sfires_log h.svc h.ext.v4 h.log hm
end
theorem least0:Least ws0.p 18446744073709551615:=⟨fun a t h=>(by cases h),.inr ⟨fun a=>rfl,rfl⟩⟩
theorem side_made {n0 r left:Nat} {gl:List Nat} {v:Value} {w:World} (h:MadeW n0 r left gl v w) (h8:8≤n0) (hr:r≤31):∃ (X:Side) (a:AS),v=.pointer (some ⟨X.Z.b,0,none⟩)∧SideAt X w.heap.size [] a ws0 w∧a.s=bt0∧a.left=left∧X.Q.gl=gl∧X.Z.room=r∧∀ k,X.all k→n0≤k:=by
 obtain ⟨Q,hb',B,Z,kb,lb,mb,a,x1,hs,x2,x3,x4,x5,x6,x7,x8,x9,x10,x11,z0,z1,z2,x12,x13,x14⟩:=h
 have hall:∀ k,Side.all ⟨Q,hb',B,Z,kb,lb,mb⟩ k→n0≤k:=by
  rintro k (e | e | rfl | rfl | rfl | rfl)
  ·exact x9 k (.inl e)
  ·exact x9 k (.inr e)
  ·exact x10
  ·exact x12
  ·exact x13
  ·exact x14
 have hk:∀ n,(∀ k,Side.all ⟨Q,hb',B,Z,kb,lb,mb⟩ k→k<n)→SideAt ⟨Q,hb',B,Z,kb,lb,mb⟩ n [] a ws0 w:=fun n hn=>
  ⟨hs,x11,⟨_,z0⟩,⟨_,wl0 (x7.trans x6.symm) (x8.trans x6.symm) (by show Z.room≤31;omega) (fun e=>by have:=x9 2 (.inr (.inl e));omega)⟩,by rw [x2];exact least0,by rw [x3,x2];rfl,log0 n z1 z2,by show 0<_;omega,fun k e=>Nat.le_trans h8 (hall k e),hn⟩
 have hd:DeskAt Q hb' a w:=hs.board
 have hl:=hs.wheel.lt
 refine ⟨⟨Q,hb',B,Z,kb,lb,mb⟩,a,x1,hk _ ?_,x2,x4,x5,x6,hall⟩
 rintro k (e | e | rfl | rfl | rfl | rfl)
 ·exact hd.lt k e
 ·rcases (show B.all k from e) with (e | (e | e | e) | (e | e)) | e | e<;>omega
 ·exact hs.lt
 ·exact z0.lt
 ·exact z1.lt
 ·exact (Array.getElem?_eq_some_iff.1 z2).1
end Go.Proofs.YtkndlfdpmpdihaaGreatDoor
