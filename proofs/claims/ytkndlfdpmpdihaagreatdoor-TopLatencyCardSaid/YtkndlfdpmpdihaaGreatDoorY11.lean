/- Which slots are taken: one more, one less. The pool of timers: an entry is another one, comes, or goes. The pool of timers: the least place that is free; an entry comes. Conditions: those that each statement shows. -/
import Derived.Test.YtkndlfdpmpdihaaGreatDoorY10
namespace Go.Proofs.YtkndlfdpmpdihaaGreatDoor
open Go.RowKit Go.Ev Go.Mv
set_option linter.unusedVariables false
set_option linter.unusedSimpArgs false
set_option maxRecDepth 100000
theorem oset_0 {m:Nat→Nat} (hm:m 0<18446744073709551616) {s:Nat} (hs:s<64) (w:World):Calls Tryz.prog 182 #[.agg #[.int .u64 (m 0),.int .u64 (m 1),.int .u64 (m 2),.int .u64 (m 3),.int .u64 (m 4),.int .u64 (m 5),.int .u64 (m 6),.int .u64 (m 7)],.int .i64 0,.int .i64 s] w fun e w'=>e=.returned (.agg #[.int .u64 (m 0 ||| 2^s:Nat),.int .u64 (m 1),.int .u64 (m 2),.int .u64 (m 3),.int .u64 (m 4),.int .u64 (m 5),.int .u64 (m 6),.int .u64 (m 7)])∧Below w.heap.size w w':=by
 have hb:=fun w=>bit_at 0 s (by omega) hs w;obtain⟨bit,hbit⟩:∃bit:Nat,bit=2^s:=⟨_,rfl⟩
 have hb63:bit≤2^63:=by rw[hbit];exact Nat.pow_le_pow_right (by omega) (by omega)
 have hb1:1≤bit:=by rw[hbit];exact Nat.one_le_two_pow
 rw[←hbit] at hb ⊢;clear hbit;have hor:=bits_or_u64_nat (m 0) bit hm (by omega);generalize m 0 ||| bit=r at *
 have hnz:((bit:Int) != 0)=true:=by simp;omega
 have hnz':¬((bit:Int)=0):=by omega
 go_enter Tryz.func182,Tryz.ntmps182
 go_wp2_with (go_at_call 247;refine(hb _).mono ?_;rintro e w1 ⟨rfl,rfl⟩)
 refine bodyPost_ret (v:=.agg #[.int .u64 (r:Nat),.int .u64 (m 1),.int .u64 (m 2),.int .u64 (m 3),.int .u64 (m 4),.int .u64 (m 5),.int .u64 (m 6),.int .u64 (m 7)]) ?_ rfl ⟨rfl,?_⟩
 ·simp[results,Tryz.results182,go_sem]
 ·exact((Below.refl _ w).alloc (Nat.le_refl _) _).alloc (by simp) _
theorem oset_1 {m:Nat→Nat} (hm:m 1<18446744073709551616) {s:Nat} (hs:s<64) (w:World):Calls Tryz.prog 182 #[.agg #[.int .u64 (m 0),.int .u64 (m 1),.int .u64 (m 2),.int .u64 (m 3),.int .u64 (m 4),.int .u64 (m 5),.int .u64 (m 6),.int .u64 (m 7)],.int .i64 1,.int .i64 s] w fun e w'=>e=.returned (.agg #[.int .u64 (m 0),.int .u64 (m 1 ||| 2^s:Nat),.int .u64 (m 2),.int .u64 (m 3),.int .u64 (m 4),.int .u64 (m 5),.int .u64 (m 6),.int .u64 (m 7)])∧Below w.heap.size w w':=by
 have hb:=fun w=>bit_at 1 s (by omega) hs w;obtain⟨bit,hbit⟩:∃bit:Nat,bit=2^s:=⟨_,rfl⟩
 have hb63:bit≤2^63:=by rw[hbit];exact Nat.pow_le_pow_right (by omega) (by omega)
 have hb1:1≤bit:=by rw[hbit];exact Nat.one_le_two_pow
 rw[←hbit] at hb ⊢;clear hbit;have hor:=bits_or_u64_nat (m 1) bit hm (by omega);generalize m 1 ||| bit=r at *
 have hnz:((bit:Int) != 0)=true:=by simp;omega
 have hnz':¬((bit:Int)=0):=by omega
 go_enter Tryz.func182,Tryz.ntmps182
 go_wp2_with (go_at_call 247;refine(hb _).mono ?_;rintro e w1 ⟨rfl,rfl⟩)
 refine bodyPost_ret (v:=.agg #[.int .u64 (m 0),.int .u64 (r:Nat),.int .u64 (m 2),.int .u64 (m 3),.int .u64 (m 4),.int .u64 (m 5),.int .u64 (m 6),.int .u64 (m 7)]) ?_ rfl ⟨rfl,?_⟩
 ·simp[results,Tryz.results182,go_sem]
 ·exact((Below.refl _ w).alloc (Nat.le_refl _) _).alloc (by simp) _
theorem oset_2 {m:Nat→Nat} (hm:m 2<18446744073709551616) {s:Nat} (hs:s<64) (w:World):Calls Tryz.prog 182 #[.agg #[.int .u64 (m 0),.int .u64 (m 1),.int .u64 (m 2),.int .u64 (m 3),.int .u64 (m 4),.int .u64 (m 5),.int .u64 (m 6),.int .u64 (m 7)],.int .i64 2,.int .i64 s] w fun e w'=>e=.returned (.agg #[.int .u64 (m 0),.int .u64 (m 1),.int .u64 (m 2 ||| 2^s:Nat),.int .u64 (m 3),.int .u64 (m 4),.int .u64 (m 5),.int .u64 (m 6),.int .u64 (m 7)])∧Below w.heap.size w w':=by
 have hb:=fun w=>bit_at 2 s (by omega) hs w;obtain⟨bit,hbit⟩:∃bit:Nat,bit=2^s:=⟨_,rfl⟩
 have hb63:bit≤2^63:=by rw[hbit];exact Nat.pow_le_pow_right (by omega) (by omega)
 have hb1:1≤bit:=by rw[hbit];exact Nat.one_le_two_pow
 rw[←hbit] at hb ⊢;clear hbit;have hor:=bits_or_u64_nat (m 2) bit hm (by omega);generalize m 2 ||| bit=r at *
 have hnz:((bit:Int) != 0)=true:=by simp;omega
 have hnz':¬((bit:Int)=0):=by omega
 go_enter Tryz.func182,Tryz.ntmps182
 go_wp2_with (go_at_call 247;refine(hb _).mono ?_;rintro e w1 ⟨rfl,rfl⟩)
 refine bodyPost_ret (v:=.agg #[.int .u64 (m 0),.int .u64 (m 1),.int .u64 (r:Nat),.int .u64 (m 3),.int .u64 (m 4),.int .u64 (m 5),.int .u64 (m 6),.int .u64 (m 7)]) ?_ rfl ⟨rfl,?_⟩
 ·simp[results,Tryz.results182,go_sem]
 ·exact((Below.refl _ w).alloc (Nat.le_refl _) _).alloc (by simp) _
theorem oset_3 {m:Nat→Nat} (hm:m 3<18446744073709551616) {s:Nat} (hs:s<64) (w:World):Calls Tryz.prog 182 #[.agg #[.int .u64 (m 0),.int .u64 (m 1),.int .u64 (m 2),.int .u64 (m 3),.int .u64 (m 4),.int .u64 (m 5),.int .u64 (m 6),.int .u64 (m 7)],.int .i64 3,.int .i64 s] w fun e w'=>e=.returned (.agg #[.int .u64 (m 0),.int .u64 (m 1),.int .u64 (m 2),.int .u64 (m 3 ||| 2^s:Nat),.int .u64 (m 4),.int .u64 (m 5),.int .u64 (m 6),.int .u64 (m 7)])∧Below w.heap.size w w':=by
 have hb:=fun w=>bit_at 3 s (by omega) hs w;obtain⟨bit,hbit⟩:∃bit:Nat,bit=2^s:=⟨_,rfl⟩
 have hb63:bit≤2^63:=by rw[hbit];exact Nat.pow_le_pow_right (by omega) (by omega)
 have hb1:1≤bit:=by rw[hbit];exact Nat.one_le_two_pow
 rw[←hbit] at hb ⊢;clear hbit;have hor:=bits_or_u64_nat (m 3) bit hm (by omega);generalize m 3 ||| bit=r at *
 have hnz:((bit:Int) != 0)=true:=by simp;omega
 have hnz':¬((bit:Int)=0):=by omega
 go_enter Tryz.func182,Tryz.ntmps182
 go_wp2_with (go_at_call 247;refine(hb _).mono ?_;rintro e w1 ⟨rfl,rfl⟩)
 refine bodyPost_ret (v:=.agg #[.int .u64 (m 0),.int .u64 (m 1),.int .u64 (m 2),.int .u64 (r:Nat),.int .u64 (m 4),.int .u64 (m 5),.int .u64 (m 6),.int .u64 (m 7)]) ?_ rfl ⟨rfl,?_⟩
 ·simp[results,Tryz.results182,go_sem]
 ·exact((Below.refl _ w).alloc (Nat.le_refl _) _).alloc (by simp) _
theorem oset_4 {m:Nat→Nat} (hm:m 4<18446744073709551616) {s:Nat} (hs:s<64) (w:World):Calls Tryz.prog 182 #[.agg #[.int .u64 (m 0),.int .u64 (m 1),.int .u64 (m 2),.int .u64 (m 3),.int .u64 (m 4),.int .u64 (m 5),.int .u64 (m 6),.int .u64 (m 7)],.int .i64 4,.int .i64 s] w fun e w'=>e=.returned (.agg #[.int .u64 (m 0),.int .u64 (m 1),.int .u64 (m 2),.int .u64 (m 3),.int .u64 (m 4 ||| 2^s:Nat),.int .u64 (m 5),.int .u64 (m 6),.int .u64 (m 7)])∧Below w.heap.size w w':=by
 have hb:=fun w=>bit_at 4 s (by omega) hs w;obtain⟨bit,hbit⟩:∃bit:Nat,bit=2^s:=⟨_,rfl⟩
 have hb63:bit≤2^63:=by rw[hbit];exact Nat.pow_le_pow_right (by omega) (by omega)
 have hb1:1≤bit:=by rw[hbit];exact Nat.one_le_two_pow
 rw[←hbit] at hb ⊢;clear hbit;have hor:=bits_or_u64_nat (m 4) bit hm (by omega);generalize m 4 ||| bit=r at *
 have hnz:((bit:Int) != 0)=true:=by simp;omega
 have hnz':¬((bit:Int)=0):=by omega
 go_enter Tryz.func182,Tryz.ntmps182
 go_wp2_with (go_at_call 247;refine(hb _).mono ?_;rintro e w1 ⟨rfl,rfl⟩)
 refine bodyPost_ret (v:=.agg #[.int .u64 (m 0),.int .u64 (m 1),.int .u64 (m 2),.int .u64 (m 3),.int .u64 (r:Nat),.int .u64 (m 5),.int .u64 (m 6),.int .u64 (m 7)]) ?_ rfl ⟨rfl,?_⟩
 ·simp[results,Tryz.results182,go_sem]
 ·exact((Below.refl _ w).alloc (Nat.le_refl _) _).alloc (by simp) _
theorem oset_5 {m:Nat→Nat} (hm:m 5<18446744073709551616) {s:Nat} (hs:s<64) (w:World):Calls Tryz.prog 182 #[.agg #[.int .u64 (m 0),.int .u64 (m 1),.int .u64 (m 2),.int .u64 (m 3),.int .u64 (m 4),.int .u64 (m 5),.int .u64 (m 6),.int .u64 (m 7)],.int .i64 5,.int .i64 s] w fun e w'=>e=.returned (.agg #[.int .u64 (m 0),.int .u64 (m 1),.int .u64 (m 2),.int .u64 (m 3),.int .u64 (m 4),.int .u64 (m 5 ||| 2^s:Nat),.int .u64 (m 6),.int .u64 (m 7)])∧Below w.heap.size w w':=by
 have hb:=fun w=>bit_at 5 s (by omega) hs w;obtain⟨bit,hbit⟩:∃bit:Nat,bit=2^s:=⟨_,rfl⟩
 have hb63:bit≤2^63:=by rw[hbit];exact Nat.pow_le_pow_right (by omega) (by omega)
 have hb1:1≤bit:=by rw[hbit];exact Nat.one_le_two_pow
 rw[←hbit] at hb ⊢;clear hbit;have hor:=bits_or_u64_nat (m 5) bit hm (by omega);generalize m 5 ||| bit=r at *
 have hnz:((bit:Int) != 0)=true:=by simp;omega
 have hnz':¬((bit:Int)=0):=by omega
 go_enter Tryz.func182,Tryz.ntmps182
 go_wp2_with (go_at_call 247;refine(hb _).mono ?_;rintro e w1 ⟨rfl,rfl⟩)
 refine bodyPost_ret (v:=.agg #[.int .u64 (m 0),.int .u64 (m 1),.int .u64 (m 2),.int .u64 (m 3),.int .u64 (m 4),.int .u64 (r:Nat),.int .u64 (m 6),.int .u64 (m 7)]) ?_ rfl ⟨rfl,?_⟩
 ·simp[results,Tryz.results182,go_sem]
 ·exact((Below.refl _ w).alloc (Nat.le_refl _) _).alloc (by simp) _
theorem oset_6 {m:Nat→Nat} (hm:m 6<18446744073709551616) {s:Nat} (hs:s<64) (w:World):Calls Tryz.prog 182 #[.agg #[.int .u64 (m 0),.int .u64 (m 1),.int .u64 (m 2),.int .u64 (m 3),.int .u64 (m 4),.int .u64 (m 5),.int .u64 (m 6),.int .u64 (m 7)],.int .i64 6,.int .i64 s] w fun e w'=>e=.returned (.agg #[.int .u64 (m 0),.int .u64 (m 1),.int .u64 (m 2),.int .u64 (m 3),.int .u64 (m 4),.int .u64 (m 5),.int .u64 (m 6 ||| 2^s:Nat),.int .u64 (m 7)])∧Below w.heap.size w w':=by
 have hb:=fun w=>bit_at 6 s (by omega) hs w;obtain⟨bit,hbit⟩:∃bit:Nat,bit=2^s:=⟨_,rfl⟩
 have hb63:bit≤2^63:=by rw[hbit];exact Nat.pow_le_pow_right (by omega) (by omega)
 have hb1:1≤bit:=by rw[hbit];exact Nat.one_le_two_pow
 rw[←hbit] at hb ⊢;clear hbit;have hor:=bits_or_u64_nat (m 6) bit hm (by omega);generalize m 6 ||| bit=r at *
 have hnz:((bit:Int) != 0)=true:=by simp;omega
 have hnz':¬((bit:Int)=0):=by omega
 go_enter Tryz.func182,Tryz.ntmps182
 go_wp2_with (go_at_call 247;refine(hb _).mono ?_;rintro e w1 ⟨rfl,rfl⟩)
 refine bodyPost_ret (v:=.agg #[.int .u64 (m 0),.int .u64 (m 1),.int .u64 (m 2),.int .u64 (m 3),.int .u64 (m 4),.int .u64 (m 5),.int .u64 (r:Nat),.int .u64 (m 7)]) ?_ rfl ⟨rfl,?_⟩
 ·simp[results,Tryz.results182,go_sem]
 ·exact((Below.refl _ w).alloc (Nat.le_refl _) _).alloc (by simp) _
theorem oset_7 {m:Nat→Nat} (hm:m 7<18446744073709551616) {s:Nat} (hs:s<64) (w:World):Calls Tryz.prog 182 #[.agg #[.int .u64 (m 0),.int .u64 (m 1),.int .u64 (m 2),.int .u64 (m 3),.int .u64 (m 4),.int .u64 (m 5),.int .u64 (m 6),.int .u64 (m 7)],.int .i64 7,.int .i64 s] w fun e w'=>e=.returned (.agg #[.int .u64 (m 0),.int .u64 (m 1),.int .u64 (m 2),.int .u64 (m 3),.int .u64 (m 4),.int .u64 (m 5),.int .u64 (m 6),.int .u64 (m 7 ||| 2^s:Nat)])∧Below w.heap.size w w':=by
 have hb:=fun w=>bit_at 7 s (by omega) hs w;obtain⟨bit,hbit⟩:∃bit:Nat,bit=2^s:=⟨_,rfl⟩
 have hb63:bit≤2^63:=by rw[hbit];exact Nat.pow_le_pow_right (by omega) (by omega)
 have hb1:1≤bit:=by rw[hbit];exact Nat.one_le_two_pow
 rw[←hbit] at hb ⊢;clear hbit;have hor:=bits_or_u64_nat (m 7) bit hm (by omega);generalize m 7 ||| bit=r at *
 have hnz:((bit:Int) != 0)=true:=by simp;omega
 have hnz':¬((bit:Int)=0):=by omega
 go_enter Tryz.func182,Tryz.ntmps182
 go_wp2_with (go_at_call 247;refine(hb _).mono ?_;rintro e w1 ⟨rfl,rfl⟩)
 refine bodyPost_ret (v:=.agg #[.int .u64 (m 0),.int .u64 (m 1),.int .u64 (m 2),.int .u64 (m 3),.int .u64 (m 4),.int .u64 (m 5),.int .u64 (m 6),.int .u64 (r:Nat)]) ?_ rfl ⟨rfl,?_⟩
 ·simp[results,Tryz.results182,go_sem]
 ·exact((Below.refl _ w).alloc (Nat.le_refl _) _).alloc (by simp) _
theorem oset_no {m:Nat→Nat} {l s:Int} (hl:l<0∨8≤l) (w:World):Calls Tryz.prog 182 #[.agg #[.int .u64 (m 0),.int .u64 (m 1),.int .u64 (m 2),.int .u64 (m 3),.int .u64 (m 4),.int .u64 (m 5),.int .u64 (m 6),.int .u64 (m 7)],.int .i64 l,.int .i64 s] w fun e w'=>e=.returned (.agg #[.int .u64 (m 0),.int .u64 (m 1),.int .u64 (m 2),.int .u64 (m 3),.int .u64 (m 4),.int .u64 (m 5),.int .u64 (m 6),.int .u64 (m 7)])∧Below w.heap.size w w':=by
 have hb:=fun w=>bitNo_at s hl w;go_enter Tryz.func182,Tryz.ntmps182
 go_wp2_with (go_at_call 247;refine(hb _).mono ?_;rintro e w1 ⟨rfl,rfl⟩)
 refine bodyPost_ret (v:=.agg #[.int .u64 (m 0),.int .u64 (m 1),.int .u64 (m 2),.int .u64 (m 3),.int .u64 (m 4),.int .u64 (m 5),.int .u64 (m 6),.int .u64 (m 7)]) ?_ rfl ⟨rfl,?_⟩
 ·simp[results,Tryz.results182,go_sem]
 ·exact((Below.refl _ w).alloc (Nat.le_refl _) _).alloc (by simp) _
theorem odrop_0 {m:Nat→Nat} (hm:m 0<18446744073709551616) {s:Nat} (hs:s<64) (w:World):Calls Tryz.prog 178 #[.agg #[.int .u64 (m 0),.int .u64 (m 1),.int .u64 (m 2),.int .u64 (m 3),.int .u64 (m 4),.int .u64 (m 5),.int .u64 (m 6),.int .u64 (m 7)],.int .i64 0,.int .i64 s] w fun e w'=>e=.returned (.agg #[.int .u64 (m 0 &&& (2^64-1-2^s):Nat),.int .u64 (m 1),.int .u64 (m 2),.int .u64 (m 3),.int .u64 (m 4),.int .u64 (m 5),.int .u64 (m 6),.int .u64 (m 7)])∧Below w.heap.size w w':=by
 have hb:=fun w=>bit_at 0 s (by omega) hs w;obtain⟨bit,hbit⟩:∃bit:Nat,bit=2^s:=⟨_,rfl⟩
 have hb63:bit≤2^63:=by rw[hbit];exact Nat.pow_le_pow_right (by omega) (by omega)
 have hb1:1≤bit:=by rw[hbit];exact Nat.one_le_two_pow
 rw[←hbit] at hb ⊢;clear hbit;have hor:=bits_andNot_u64 (m 0) bit hm (by omega);generalize m 0 &&& (2^64-1-bit)=r at *
 have hnz:((bit:Int) != 0)=true:=by simp;omega
 have hnz':¬((bit:Int)=0):=by omega
 go_enter Tryz.func178,Tryz.ntmps178
 go_wp2_with (go_at_call 247;refine(hb _).mono ?_;rintro e w1 ⟨rfl,rfl⟩)
 refine bodyPost_ret (v:=.agg #[.int .u64 (r:Nat),.int .u64 (m 1),.int .u64 (m 2),.int .u64 (m 3),.int .u64 (m 4),.int .u64 (m 5),.int .u64 (m 6),.int .u64 (m 7)]) ?_ rfl ⟨rfl,?_⟩
 ·simp[results,Tryz.results178,go_sem]
 ·exact((Below.refl _ w).alloc (Nat.le_refl _) _).alloc (by simp) _
theorem odrop_1 {m:Nat→Nat} (hm:m 1<18446744073709551616) {s:Nat} (hs:s<64) (w:World):Calls Tryz.prog 178 #[.agg #[.int .u64 (m 0),.int .u64 (m 1),.int .u64 (m 2),.int .u64 (m 3),.int .u64 (m 4),.int .u64 (m 5),.int .u64 (m 6),.int .u64 (m 7)],.int .i64 1,.int .i64 s] w fun e w'=>e=.returned (.agg #[.int .u64 (m 0),.int .u64 (m 1 &&& (2^64-1-2^s):Nat),.int .u64 (m 2),.int .u64 (m 3),.int .u64 (m 4),.int .u64 (m 5),.int .u64 (m 6),.int .u64 (m 7)])∧Below w.heap.size w w':=by
 have hb:=fun w=>bit_at 1 s (by omega) hs w;obtain⟨bit,hbit⟩:∃bit:Nat,bit=2^s:=⟨_,rfl⟩
 have hb63:bit≤2^63:=by rw[hbit];exact Nat.pow_le_pow_right (by omega) (by omega)
 have hb1:1≤bit:=by rw[hbit];exact Nat.one_le_two_pow
 rw[←hbit] at hb ⊢;clear hbit;have hor:=bits_andNot_u64 (m 1) bit hm (by omega);generalize m 1 &&& (2^64-1-bit)=r at *
 have hnz:((bit:Int) != 0)=true:=by simp;omega
 have hnz':¬((bit:Int)=0):=by omega
 go_enter Tryz.func178,Tryz.ntmps178
 go_wp2_with (go_at_call 247;refine(hb _).mono ?_;rintro e w1 ⟨rfl,rfl⟩)
 refine bodyPost_ret (v:=.agg #[.int .u64 (m 0),.int .u64 (r:Nat),.int .u64 (m 2),.int .u64 (m 3),.int .u64 (m 4),.int .u64 (m 5),.int .u64 (m 6),.int .u64 (m 7)]) ?_ rfl ⟨rfl,?_⟩
 ·simp[results,Tryz.results178,go_sem]
 ·exact((Below.refl _ w).alloc (Nat.le_refl _) _).alloc (by simp) _
theorem odrop_2 {m:Nat→Nat} (hm:m 2<18446744073709551616) {s:Nat} (hs:s<64) (w:World):Calls Tryz.prog 178 #[.agg #[.int .u64 (m 0),.int .u64 (m 1),.int .u64 (m 2),.int .u64 (m 3),.int .u64 (m 4),.int .u64 (m 5),.int .u64 (m 6),.int .u64 (m 7)],.int .i64 2,.int .i64 s] w fun e w'=>e=.returned (.agg #[.int .u64 (m 0),.int .u64 (m 1),.int .u64 (m 2 &&& (2^64-1-2^s):Nat),.int .u64 (m 3),.int .u64 (m 4),.int .u64 (m 5),.int .u64 (m 6),.int .u64 (m 7)])∧Below w.heap.size w w':=by
 have hb:=fun w=>bit_at 2 s (by omega) hs w;obtain⟨bit,hbit⟩:∃bit:Nat,bit=2^s:=⟨_,rfl⟩
 have hb63:bit≤2^63:=by rw[hbit];exact Nat.pow_le_pow_right (by omega) (by omega)
 have hb1:1≤bit:=by rw[hbit];exact Nat.one_le_two_pow
 rw[←hbit] at hb ⊢;clear hbit;have hor:=bits_andNot_u64 (m 2) bit hm (by omega);generalize m 2 &&& (2^64-1-bit)=r at *
 have hnz:((bit:Int) != 0)=true:=by simp;omega
 have hnz':¬((bit:Int)=0):=by omega
 go_enter Tryz.func178,Tryz.ntmps178
 go_wp2_with (go_at_call 247;refine(hb _).mono ?_;rintro e w1 ⟨rfl,rfl⟩)
 refine bodyPost_ret (v:=.agg #[.int .u64 (m 0),.int .u64 (m 1),.int .u64 (r:Nat),.int .u64 (m 3),.int .u64 (m 4),.int .u64 (m 5),.int .u64 (m 6),.int .u64 (m 7)]) ?_ rfl ⟨rfl,?_⟩
 ·simp[results,Tryz.results178,go_sem]
 ·exact((Below.refl _ w).alloc (Nat.le_refl _) _).alloc (by simp) _
theorem odrop_3 {m:Nat→Nat} (hm:m 3<18446744073709551616) {s:Nat} (hs:s<64) (w:World):Calls Tryz.prog 178 #[.agg #[.int .u64 (m 0),.int .u64 (m 1),.int .u64 (m 2),.int .u64 (m 3),.int .u64 (m 4),.int .u64 (m 5),.int .u64 (m 6),.int .u64 (m 7)],.int .i64 3,.int .i64 s] w fun e w'=>e=.returned (.agg #[.int .u64 (m 0),.int .u64 (m 1),.int .u64 (m 2),.int .u64 (m 3 &&& (2^64-1-2^s):Nat),.int .u64 (m 4),.int .u64 (m 5),.int .u64 (m 6),.int .u64 (m 7)])∧Below w.heap.size w w':=by
 have hb:=fun w=>bit_at 3 s (by omega) hs w;obtain⟨bit,hbit⟩:∃bit:Nat,bit=2^s:=⟨_,rfl⟩
 have hb63:bit≤2^63:=by rw[hbit];exact Nat.pow_le_pow_right (by omega) (by omega)
 have hb1:1≤bit:=by rw[hbit];exact Nat.one_le_two_pow
 rw[←hbit] at hb ⊢;clear hbit;have hor:=bits_andNot_u64 (m 3) bit hm (by omega);generalize m 3 &&& (2^64-1-bit)=r at *
 have hnz:((bit:Int) != 0)=true:=by simp;omega
 have hnz':¬((bit:Int)=0):=by omega
 go_enter Tryz.func178,Tryz.ntmps178
 go_wp2_with (go_at_call 247;refine(hb _).mono ?_;rintro e w1 ⟨rfl,rfl⟩)
 refine bodyPost_ret (v:=.agg #[.int .u64 (m 0),.int .u64 (m 1),.int .u64 (m 2),.int .u64 (r:Nat),.int .u64 (m 4),.int .u64 (m 5),.int .u64 (m 6),.int .u64 (m 7)]) ?_ rfl ⟨rfl,?_⟩
 ·simp[results,Tryz.results178,go_sem]
 ·exact((Below.refl _ w).alloc (Nat.le_refl _) _).alloc (by simp) _
theorem odrop_4 {m:Nat→Nat} (hm:m 4<18446744073709551616) {s:Nat} (hs:s<64) (w:World):Calls Tryz.prog 178 #[.agg #[.int .u64 (m 0),.int .u64 (m 1),.int .u64 (m 2),.int .u64 (m 3),.int .u64 (m 4),.int .u64 (m 5),.int .u64 (m 6),.int .u64 (m 7)],.int .i64 4,.int .i64 s] w fun e w'=>e=.returned (.agg #[.int .u64 (m 0),.int .u64 (m 1),.int .u64 (m 2),.int .u64 (m 3),.int .u64 (m 4 &&& (2^64-1-2^s):Nat),.int .u64 (m 5),.int .u64 (m 6),.int .u64 (m 7)])∧Below w.heap.size w w':=by
 have hb:=fun w=>bit_at 4 s (by omega) hs w;obtain⟨bit,hbit⟩:∃bit:Nat,bit=2^s:=⟨_,rfl⟩
 have hb63:bit≤2^63:=by rw[hbit];exact Nat.pow_le_pow_right (by omega) (by omega)
 have hb1:1≤bit:=by rw[hbit];exact Nat.one_le_two_pow
 rw[←hbit] at hb ⊢;clear hbit;have hor:=bits_andNot_u64 (m 4) bit hm (by omega);generalize m 4 &&& (2^64-1-bit)=r at *
 have hnz:((bit:Int) != 0)=true:=by simp;omega
 have hnz':¬((bit:Int)=0):=by omega
 go_enter Tryz.func178,Tryz.ntmps178
 go_wp2_with (go_at_call 247;refine(hb _).mono ?_;rintro e w1 ⟨rfl,rfl⟩)
 refine bodyPost_ret (v:=.agg #[.int .u64 (m 0),.int .u64 (m 1),.int .u64 (m 2),.int .u64 (m 3),.int .u64 (r:Nat),.int .u64 (m 5),.int .u64 (m 6),.int .u64 (m 7)]) ?_ rfl ⟨rfl,?_⟩
 ·simp[results,Tryz.results178,go_sem]
 ·exact((Below.refl _ w).alloc (Nat.le_refl _) _).alloc (by simp) _
theorem odrop_5 {m:Nat→Nat} (hm:m 5<18446744073709551616) {s:Nat} (hs:s<64) (w:World):Calls Tryz.prog 178 #[.agg #[.int .u64 (m 0),.int .u64 (m 1),.int .u64 (m 2),.int .u64 (m 3),.int .u64 (m 4),.int .u64 (m 5),.int .u64 (m 6),.int .u64 (m 7)],.int .i64 5,.int .i64 s] w fun e w'=>e=.returned (.agg #[.int .u64 (m 0),.int .u64 (m 1),.int .u64 (m 2),.int .u64 (m 3),.int .u64 (m 4),.int .u64 (m 5 &&& (2^64-1-2^s):Nat),.int .u64 (m 6),.int .u64 (m 7)])∧Below w.heap.size w w':=by
 have hb:=fun w=>bit_at 5 s (by omega) hs w;obtain⟨bit,hbit⟩:∃bit:Nat,bit=2^s:=⟨_,rfl⟩
 have hb63:bit≤2^63:=by rw[hbit];exact Nat.pow_le_pow_right (by omega) (by omega)
 have hb1:1≤bit:=by rw[hbit];exact Nat.one_le_two_pow
 rw[←hbit] at hb ⊢;clear hbit;have hor:=bits_andNot_u64 (m 5) bit hm (by omega);generalize m 5 &&& (2^64-1-bit)=r at *
 have hnz:((bit:Int) != 0)=true:=by simp;omega
 have hnz':¬((bit:Int)=0):=by omega
 go_enter Tryz.func178,Tryz.ntmps178
 go_wp2_with (go_at_call 247;refine(hb _).mono ?_;rintro e w1 ⟨rfl,rfl⟩)
 refine bodyPost_ret (v:=.agg #[.int .u64 (m 0),.int .u64 (m 1),.int .u64 (m 2),.int .u64 (m 3),.int .u64 (m 4),.int .u64 (r:Nat),.int .u64 (m 6),.int .u64 (m 7)]) ?_ rfl ⟨rfl,?_⟩
 ·simp[results,Tryz.results178,go_sem]
 ·exact((Below.refl _ w).alloc (Nat.le_refl _) _).alloc (by simp) _
theorem odrop_6 {m:Nat→Nat} (hm:m 6<18446744073709551616) {s:Nat} (hs:s<64) (w:World):Calls Tryz.prog 178 #[.agg #[.int .u64 (m 0),.int .u64 (m 1),.int .u64 (m 2),.int .u64 (m 3),.int .u64 (m 4),.int .u64 (m 5),.int .u64 (m 6),.int .u64 (m 7)],.int .i64 6,.int .i64 s] w fun e w'=>e=.returned (.agg #[.int .u64 (m 0),.int .u64 (m 1),.int .u64 (m 2),.int .u64 (m 3),.int .u64 (m 4),.int .u64 (m 5),.int .u64 (m 6 &&& (2^64-1-2^s):Nat),.int .u64 (m 7)])∧Below w.heap.size w w':=by
 have hb:=fun w=>bit_at 6 s (by omega) hs w;obtain⟨bit,hbit⟩:∃bit:Nat,bit=2^s:=⟨_,rfl⟩
 have hb63:bit≤2^63:=by rw[hbit];exact Nat.pow_le_pow_right (by omega) (by omega)
 have hb1:1≤bit:=by rw[hbit];exact Nat.one_le_two_pow
 rw[←hbit] at hb ⊢;clear hbit;have hor:=bits_andNot_u64 (m 6) bit hm (by omega);generalize m 6 &&& (2^64-1-bit)=r at *
 have hnz:((bit:Int) != 0)=true:=by simp;omega
 have hnz':¬((bit:Int)=0):=by omega
 go_enter Tryz.func178,Tryz.ntmps178
 go_wp2_with (go_at_call 247;refine(hb _).mono ?_;rintro e w1 ⟨rfl,rfl⟩)
 refine bodyPost_ret (v:=.agg #[.int .u64 (m 0),.int .u64 (m 1),.int .u64 (m 2),.int .u64 (m 3),.int .u64 (m 4),.int .u64 (m 5),.int .u64 (r:Nat),.int .u64 (m 7)]) ?_ rfl ⟨rfl,?_⟩
 ·simp[results,Tryz.results178,go_sem]
 ·exact((Below.refl _ w).alloc (Nat.le_refl _) _).alloc (by simp) _
theorem odrop_7 {m:Nat→Nat} (hm:m 7<18446744073709551616) {s:Nat} (hs:s<64) (w:World):Calls Tryz.prog 178 #[.agg #[.int .u64 (m 0),.int .u64 (m 1),.int .u64 (m 2),.int .u64 (m 3),.int .u64 (m 4),.int .u64 (m 5),.int .u64 (m 6),.int .u64 (m 7)],.int .i64 7,.int .i64 s] w fun e w'=>e=.returned (.agg #[.int .u64 (m 0),.int .u64 (m 1),.int .u64 (m 2),.int .u64 (m 3),.int .u64 (m 4),.int .u64 (m 5),.int .u64 (m 6),.int .u64 (m 7 &&& (2^64-1-2^s):Nat)])∧Below w.heap.size w w':=by
 have hb:=fun w=>bit_at 7 s (by omega) hs w;obtain⟨bit,hbit⟩:∃bit:Nat,bit=2^s:=⟨_,rfl⟩
 have hb63:bit≤2^63:=by rw[hbit];exact Nat.pow_le_pow_right (by omega) (by omega)
 have hb1:1≤bit:=by rw[hbit];exact Nat.one_le_two_pow
 rw[←hbit] at hb ⊢;clear hbit;have hor:=bits_andNot_u64 (m 7) bit hm (by omega);generalize m 7 &&& (2^64-1-bit)=r at *
 have hnz:((bit:Int) != 0)=true:=by simp;omega
 have hnz':¬((bit:Int)=0):=by omega
 go_enter Tryz.func178,Tryz.ntmps178
 go_wp2_with (go_at_call 247;refine(hb _).mono ?_;rintro e w1 ⟨rfl,rfl⟩)
 refine bodyPost_ret (v:=.agg #[.int .u64 (m 0),.int .u64 (m 1),.int .u64 (m 2),.int .u64 (m 3),.int .u64 (m 4),.int .u64 (m 5),.int .u64 (m 6),.int .u64 (r:Nat)]) ?_ rfl ⟨rfl,?_⟩
 ·simp[results,Tryz.results178,go_sem]
 ·exact((Below.refl _ w).alloc (Nat.le_refl _) _).alloc (by simp) _
theorem odrop_no {m:Nat→Nat} {l s:Int} (hl:l<0∨8≤l) (w:World):Calls Tryz.prog 178 #[.agg #[.int .u64 (m 0),.int .u64 (m 1),.int .u64 (m 2),.int .u64 (m 3),.int .u64 (m 4),.int .u64 (m 5),.int .u64 (m 6),.int .u64 (m 7)],.int .i64 l,.int .i64 s] w fun e w'=>e=.returned (.agg #[.int .u64 (m 0),.int .u64 (m 1),.int .u64 (m 2),.int .u64 (m 3),.int .u64 (m 4),.int .u64 (m 5),.int .u64 (m 6),.int .u64 (m 7)])∧Below w.heap.size w w':=by
 have hb:=fun w=>bitNo_at s hl w;go_enter Tryz.func178,Tryz.ntmps178
 go_wp2_with (go_at_call 247;refine(hb _).mono ?_;rintro e w1 ⟨rfl,rfl⟩)
 refine bodyPost_ret (v:=.agg #[.int .u64 (m 0),.int .u64 (m 1),.int .u64 (m 2),.int .u64 (m 3),.int .u64 (m 4),.int .u64 (m 5),.int .u64 (m 6),.int .u64 (m 7)]) ?_ rfl ⟨rfl,?_⟩
 ·simp[results,Tryz.results178,go_sem]
 ·exact((Below.refl _ w).alloc (Nat.le_refl _) _).alloc (by simp) _
def slotK (k:Int×Int):Prop:=∃l s:Nat,k=((l:Int),(s:Int))∧l<8∧s<64
noncomputable def occSet (m:Nat→Nat) (k:Int×Int):Nat→Nat:=if k.1<0∨8≤k.1 then m else fset m k.1.toNat (m k.1.toNat ||| 2^k.2.toNat)
noncomputable def occDrop (m:Nat→Nat) (k:Int×Int):Nat→Nat:=if k.1<0∨8≤k.1 then m else fset m k.1.toNat (m k.1.toNat &&& (2^64-1-2^k.2.toNat))
theorem oset_at {m:Nat→Nat} (hm:∀i,m i<18446744073709551616) {l s:Int} (hk:(l<0∨8≤l)∨slotK (l,s)) (w:World):Calls Tryz.prog 182 #[.agg (arr8 m),.int .i64 l,.int .i64 s] w fun e w'=>e=.returned (.agg (arr8 (occSet m (l,s))))∧Below w.heap.size w w':=by
 by_cases hl:l<0∨8≤l
 ·have e:occSet m (l,s)=m:=if_pos hl
  rw[e];exact oset_no hl w
 ·rcases hk with hk|⟨l',s',he,hl',hs⟩
  ·exact absurd hk hl
  ·simp only[Prod.mk.injEq] at he
   obtain⟨rfl,rfl⟩:=he
   have e:occSet m ((l':Int),(s':Int))=fset m l' (m l' ||| 2^s'):=by
    unfold occSet;rw[if_neg hl];simp
   rw[e]
   match l',hl' with
   | 0,_=>rw[←arr8_set _ _ _ (by omega)];exact oset_0 (hm 0) hs w
   | 1,_=>rw[←arr8_set _ _ _ (by omega)];exact oset_1 (hm 1) hs w
   | 2,_=>rw[←arr8_set _ _ _ (by omega)];exact oset_2 (hm 2) hs w
   | 3,_=>rw[←arr8_set _ _ _ (by omega)];exact oset_3 (hm 3) hs w
   | 4,_=>rw[←arr8_set _ _ _ (by omega)];exact oset_4 (hm 4) hs w
   | 5,_=>rw[←arr8_set _ _ _ (by omega)];exact oset_5 (hm 5) hs w
   | 6,_=>rw[←arr8_set _ _ _ (by omega)];exact oset_6 (hm 6) hs w
   | 7,_=>rw[←arr8_set _ _ _ (by omega)];exact oset_7 (hm 7) hs w
theorem odrop_at {m:Nat→Nat} (hm:∀i,m i<18446744073709551616) {l s:Int} (hk:(l<0∨8≤l)∨slotK (l,s)) (w:World):Calls Tryz.prog 178 #[.agg (arr8 m),.int .i64 l,.int .i64 s] w fun e w'=>e=.returned (.agg (arr8 (occDrop m (l,s))))∧Below w.heap.size w w':=by
 by_cases hl:l<0∨8≤l
 ·have e:occDrop m (l,s)=m:=if_pos hl
  rw[e];exact odrop_no hl w
 ·rcases hk with hk|⟨l',s',he,hl',hs⟩
  ·exact absurd hk hl
  ·simp only[Prod.mk.injEq] at he
   obtain⟨rfl,rfl⟩:=he
   have e:occDrop m ((l':Int),(s':Int))=fset m l' (m l' &&& (2^64-1-2^s')):=by
    unfold occDrop;rw[if_neg hl];simp
   rw[e]
   match l',hl' with
   | 0,_=>rw[←arr8_set _ _ _ (by omega)];exact odrop_0 (hm 0) hs w
   | 1,_=>rw[←arr8_set _ _ _ (by omega)];exact odrop_1 (hm 1) hs w
   | 2,_=>rw[←arr8_set _ _ _ (by omega)];exact odrop_2 (hm 2) hs w
   | 3,_=>rw[←arr8_set _ _ _ (by omega)];exact odrop_3 (hm 3) hs w
   | 4,_=>rw[←arr8_set _ _ _ (by omega)];exact odrop_4 (hm 4) hs w
   | 5,_=>rw[←arr8_set _ _ _ (by omega)];exact odrop_5 (hm 5) hs w
   | 6,_=>rw[←arr8_set _ _ _ (by omega)];exact odrop_6 (hm 6) hs w
   | 7,_=>rw[←arr8_set _ _ _ (by omega)];exact odrop_7 (hm 7) hs w
def MapE (w2:World) (r:Nat) (o:Obj) (b:Bool) (w:World):Prop:=Tch (fun k=>k=r) w2 w∧w.heap[r]?=if b then some o else w2.heap[r]?
theorem mapE_one {w2:World} {r k:Nat} {o:Obj} {T:TypeId} {cs:Array Value} (hk:Blk w2 k cs T) (hne:k≠r) (j:Nat) {v:Value} (hv:cs[j]?=some v):∀x:One (MapE w2 r o false),x.w.cell? ⟨k,j,none⟩=some v:=fun x=>
 Blk.cell ((x.h.1.block _ hk.lt hne).trans hk:Blk x.w k cs T) j hv
theorem mapE_ne (w2:World) (r:Nat) (o:Obj):Nonempty (One (MapE w2 r o false))∧Nonempty (Two (MapE w2 r o)):=⟨⟨⟨w2,Tch.refl _ _,rfl⟩⟩,⟨⟨false,w2,Tch.refl _ _,rfl⟩⟩⟩
theorem mapE_upd {w2:World} {r:Nat} {o':Obj} {o:Oper} {a:Act} {t:TypeId} {mo ko xo:Operand} (h:o.op=.mapUpdate t mo ko xo) (hr:r<w2.heap.size) (hrun:∀W,W.heap[r]?=w2.heap[r]?→(Instr.mapUpdate t (a.eval mo) (a.eval ko) (a.eval xo)).run Tryz.prog W=.ok () (putO W r o')) :
 ∀w,MapE w2 r o' false w→does Tryz.prog o a (MapE w2 r o' true) w undef:=by
 intro w hw;unfold does execOp;rw[h];simp only[Functor.map,Sem.run_bind,Sem.run_map,hrun w hw.2,Result.andThen_ok];exact⟨⟨hw.1.put _ (.inl rfl),putO_at (Nat.lt_of_lt_of_le hr hw.1.size)⟩,rfl⟩
section
variable {B:PB} {S:PS} {w w':World} {a:Nat} {t:Tm}
theorem PoolAt.put {o:Obj} (h:PoolAt B S w) (ht:Tch (fun k=>k=B.re) w w') {ent:Nat→Option Tm} {n:Nat} (hm:MapIs PK w' B.re (entF ent) n):PoolAt B { S with ent:=ent,n:=n } w':=by
 have hl:=h.lt;have ha:=h.apart;obtain⟨f,m,h1,h2⟩:=h.old;have hne:=h.ne;exact⟨(ht.block _ hl.1 (by omega)).trans h.blk,hm,⟨f,m,h1.tch ht (by omega),h2⟩,(ht.block _ hl.2.2.2 (by omega)).trans h.tk,h.ne⟩
theorem entF_set (ent:Nat→Option Tm) (a:Nat) (t:Option Tm):fset (entF ent) (a:Int) (t.map Tm.v)=entF (fset ent a t):=by
 funext x
 cases x with
 |ofNat b=>
   by_cases hb:b=a
   ·subst hb
    show fset (entF ent) (Int.ofNat b) _ (Int.ofNat b)=(fset ent b t b).map Tm.v;rw[fset_same,fset_same]
   ·show fset (entF ent) (Int.ofNat a) _ (Int.ofNat b)=(fset ent a t b).map Tm.v
    rw[fset_ne _ _ hb,fset_ne _ _ (fun e=>hb (Int.ofNat.inj e))];rfl
 |negSucc b=>
   rw[fset_ne _ _ (fun e=>by cases e)];rfl
theorem set_live (h:PoolAt B S w) (hL:LiveAt S a t) (t':Tm):Calls Tryz.prog 187 #[.pointer (some ⟨B.b,0,none⟩),.int .u64 (hN S a:Nat),.agg #[.int .u64 t'.d,.int .u64 t'.p,.int .u64 t'.o]] w fun e w'=>
 e=.returned (.bool true)∧Tch (fun k=>k=B.re) w w'∧PoolAt B { S with ent:=fset S.ent a (some t') } w':=by
 go_enter Tryz.func187,Tryz.ntmps187;have hlw:=h.lt;have hBa:Below w.heap.size w (w.alloc (Obj.cells #[Value.int .u64 t'.d,Value.int .u64 t'.p,Value.int .u64 t'.o] 226)):=(Below.refl _ w).alloc (Nat.le_refl _) _;have h0:=h.below hBa hlw;have hEb:=Blk.new w #[Value.int .u64 t'.d,Value.int .u64 t'.p,Value.int .u64 t'.o] 226
 go_wp2_with (go_at_call 179;refine(find_live h0 hL).mono ?_;rintro e w1 ⟨rfl,hb1⟩)
 have hB1:Below w.heap.size w (w1.alloc (Obj.cells #[Value.int IntKind.i64 (a:Int)] 316)):=(hBa.trans (hb1.mono hBa.size)).alloc (Nat.le_trans hBa.size hb1.size) _;have hsz:w.heap.size<w1.heap.size:=Nat.lt_of_lt_of_le hEb.lt hb1.size;have hE1:=(hEb.below hb1 hEb.lt).alloc (Obj.cells #[Value.int IntKind.i64 (a:Int)] 316);have hX1:=Blk.new w1 #[Value.int IntKind.i64 (a:Int)] 316;have h1:=h.below hB1 hlw;generalize w1.alloc (Obj.cells #[Value.int IntKind.i64 (a:Int)] 316)=w2 at *;generalize w1.heap.size=xb at *;have hl2:=h1.lt;have hap:=h1.apart;obtain⟨o,hrun,hmap⟩:=h1.ent.putP under317 (a:Int) t'.v;have hne:=mapE_ne w2 B.re o;haveI:=hne.1;haveI:=hne.2;have c1:∀x:One (MapE w2 B.re o false),x.w.cell? ⟨B.b,0,none⟩=some (.map (some B.re)):=mapE_one h1.blk (by omega) 0 rfl;have c2:∀x:One (MapE w2 B.re o false),x.w.cell? ⟨xb,0,none⟩=some (.int .i64 (a:Int)):=mapE_one hX1 (by omega) 0 rfl;have c3:∀x:One (MapE w2 B.re o false),x.w.cell? ⟨w.heap.size,0,none⟩=some (.int .u64 t'.d):=mapE_one hE1 (by omega) 0 rfl;have c4:∀x:One (MapE w2 B.re o false),x.w.cell? ⟨w.heap.size,1,none⟩=some (.int .u64 t'.p):=mapE_one hE1 (by omega) 1 rfl;have c5:∀x:One (MapE w2 B.re o false),x.w.cell? ⟨w.heap.size,2,none⟩=some (.int .u64 t'.o):=mapE_one hE1 (by omega) 2 rfl;refine wp_region_two (MapE w2 B.re o) 6 (by decide) (by kernel_rfl) (by kernel_rfl) ⟨(Tch.refl _ _).drew,rfl⟩ ?_
 (repeat (first|(refine lexS_skip (by rfl) (by decide) ?_;simp only[Act.put,List.setIfInBounds_toArray,List.set_cons_succ,List.set_cons_zero])|(refine lexS_ewant (by rfl) (by decide) (by kernel_rfl) (by rfl) ?_;intro K hK;go_big_quiet_op;refine hK _ ?_;clear hK K)))
 refine lexS_turn (by rfl) (by rfl) undef (mapE_upd rfl hl2.2.1 hrun) ?_;simp only[Act.put,List.setIfInBounds_toArray,List.set_cons_succ,List.set_cons_zero];refine fun w3 hw3=>?_;have hm3:=hmap w3 hw3.2
 have e1:(entF S.ent (a:Int)).isSome=true:=by rw[entF_nat,hL.ent];rfl
 rw[e1,if_pos rfl] at hm3;have e2:=entF_set S.ent a (some t')
 have hm4:MapIs PK w3 B.re (entF (fset S.ent a (some t'))) S.n:=by rw[←e2];exact hm3
 have hp:=h1.put (o:=o) hw3.1 hm4;go_wp2;refine bodyPost_ret (v:=.bool true) ?_ rfl ⟨rfl,(Tch.of_below hB1).trans' hw3.1 (fun _ _ h=>h),hp⟩;simp[results,Tryz.results187,go_sem]
def EntE (w2:World) (r:Nat) (o1 o2:Obj):Nat→World→Prop
 | 0,w=>Tch (fun k=>k=r) w2 w∧w.heap[r]?=w2.heap[r]?
 | 1,w=>Tch (fun k=>k=r) w2 w∧w.heap[r]?=some o1
 |_,w=>Tch (fun k=>k=r) w2 w∧w.heap[r]?=some o2
theorem EntE.tch {w2 w:World} {r:Nat} {o1 o2:Obj} {b:Nat} (h:EntE w2 r o1 o2 b w):Tch (fun k=>k=r) w2 w:=by
 match b with
 | 0=>exact h.1
 | 1=>exact h.1
 |_+2=>exact h.1
theorem EntE.cell {w2:World} {r k:Nat} {o1 o2:Obj} {T:TypeId} {cs:Array Value} (hk:Blk w2 k cs T) (hne:k≠r) (j:Nat) {v:Value} (hv:cs[j]?=some v):∀x:Thr (EntE w2 r o1 o2),x.w.cell? ⟨k,j,none⟩=some v:=fun x=>
 Blk.cell ((x.h.tch.block _ hk.lt hne).trans hk:Blk x.w k cs T) j hv
theorem zero37 (w:World):(zeroValue 37).run Tryz.prog w=.ok (.int .u64 0) w:=by kernel_rfl
theorem info37:∃inf,Tryz.prog.info? 37=some inf∧inf.zero=some (.int .u64 0):=by
 have h:(Tryz.prog.info? 37).map (·.zero)=some (some (.int .u64 0)):=by kernel_rfl
 cases hi:Tryz.prog.info? 37 with
 |none=>rw[hi] at h;cases h
 |some inf=>rw[hi] at h;exact⟨inf,rfl,Option.some.inj h⟩
noncomputable def PS.drop (S:PS) (a:Nat):PS:=⟨fset S.ent a none,fset S.gen a (S.gen a+1),S.n-1,markW S.word a false⟩
theorem drop_live (h:PoolAt B S w) (hL:LiveAt S a t) (ha:a<64) (hw:S.word<18446744073709551616):Calls Tryz.prog 118 #[.pointer (some ⟨B.b,0,none⟩),.int .u64 (hN S a:Nat)] w fun e w'=>
 e=.returned (.bool true)∧Tch B.own w w'∧PoolAt B (S.drop a) w':=by
 go_enter Tryz.func118,Tryz.ntmps118;have hlw:=h.lt
 go_wp2_with (go_at_call 179;refine(find_live h hL).mono ?_;rintro e w1 ⟨rfl,hb1⟩)
 have hB1:Below w.heap.size w (w1.alloc (Obj.cells #[Value.int IntKind.i64 (a:Int)] 316)):=hb1.alloc hb1.size _;have hX1:=Blk.new w1 #[Value.int IntKind.i64 (a:Int)] 316;have h1:=h.below hB1 hlw;have hxs:w.heap.size≤w1.heap.size:=hb1.size;generalize w1.alloc (Obj.cells #[Value.int IntKind.i64 (a:Int)] 316)=w2 at *;generalize w1.heap.size=xb at *;have hl2:=h1.lt;have hap:=h1.apart;have hroo:=h1.ne;obtain⟨o,hrun,hmap⟩:=h1.ent.delP (ts:=#[317,316]) (ty:=0) rfl under317 (a:Int);have hne:=mapE_ne w2 B.re o;haveI:=hne.1;haveI:=hne.2;have c1:∀x:One (MapE w2 B.re o false),x.w.cell? ⟨B.b,0,none⟩=some (.map (some B.re)):=mapE_one h1.blk (by omega) 0 rfl;have c2:∀x:One (MapE w2 B.re o false),x.w.cell? ⟨xb,0,none⟩=some (.int .i64 (a:Int)):=mapE_one hX1 (by omega) 0 rfl;refine wp_region_two (MapE w2 B.re o) 5 (by decide) (by kernel_rfl) (by kernel_rfl) ⟨(Tch.refl _ _).drew,rfl⟩ ?_
 (repeat (first|(refine lexS_skip (by rfl) (by decide) ?_;simp only[Act.put,List.setIfInBounds_toArray,List.set_cons_succ,List.set_cons_zero])|(refine lexS_ewant (by rfl) (by decide) (by kernel_rfl) (by rfl) ?_;intro K hK;go_big_quiet_op;refine hK _ ?_;clear hK K)))
 refine lexS_turn (by rfl) (by rfl) (.tuple #[]) (fun W hW=>?_) ?_
 ·have q0:=hrun W hW.2
  unfold does
  go_simp
  rw[show Value.agg #[Value.int .i64 (a:Int)]=PK (a:Int) from rfl,q0];exact⟨⟨hW.1.put _ (.inl rfl),putO_at (Nat.lt_of_lt_of_le hl2.2.1 hW.1.size)⟩,rfl⟩
 simp only[Act.put,List.setIfInBounds_toArray,List.set_cons_succ,List.set_cons_zero];refine fun w3 hw3=>?_;have hm3:=hmap w3 hw3.2
 have e1:(entF S.ent (a:Int)).isSome=true:=by rw[entF_nat,hL.ent];rfl
 rw[e1,if_pos rfl] at hm3;have e2:=entF_set S.ent a none
 have hm4:MapIs PK w3 B.re (entF (fset S.ent a none)) (S.n-1):=by rw[←e2];exact hm3
 have hp:=h1.put (o:=o) hw3.1 hm4;have hX3:Blk w3 xb _ 316:=(hw3.1.block _ hX1.lt (by omega)).trans hX1;have hF3:Tch B.own w w3:=(Tch.of_below hB1).trans' hw3.1 (fun j _ hj=>.inl hj);have hsz3:w2.heap.size≤w3.heap.size:=hw3.1.size;clear hrun hmap hne c1 c2 hw3 hm3 e1 e2 hm4;have hl3:=hp.lt;have hap3:=hp.apart;go_wp2;obtain⟨f,m,hf1,hf2⟩:=hp.old;obtain⟨inf,hi1,hi2⟩:=info37;obtain⟨o1,s,hr1,hlk,hr2⟩:=hf1.entP under318 ⟨hi1,hi2⟩ (a:Int);obtain⟨o2,hr3,hmap⟩:=hr2 (.int .u64 (((S.gen a+1:Nat)):Int));have hfa:=hf2 a;rw[hfa] at hr1 hlk;haveI:Nonempty (Thr (EntE w3 B.ro o1 o2)):=⟨⟨0,w3,Tch.refl _ _,rfl⟩⟩;have c1:∀x:Thr (EntE w3 B.ro o1 o2),x.w.cell? ⟨B.b,1,none⟩=some (.map (some B.ro)):=EntE.cell hp.blk (by omega) 1 rfl;have c2:∀x:Thr (EntE w3 B.ro o1 o2),x.w.cell? ⟨xb,0,none⟩=some (.int .i64 (a:Int)):=EntE.cell hX3 (by omega) 0 rfl
 have hlook:∀(b:Nat) (W:World),b≤1→EntE w3 B.ro o1 o2 b W→(Instr.lookup 318 (.map (some B.ro)) (PK (a:Int)) false).run Tryz.prog W=.ok (.int .u64 (S.gen a)) W:=by
  intro b W hb hW;rcases b with _|_|b
  ·have h5:=(hf1.at (w':=W) hW.2).lookP under318 zero37 (a:Int) false
   rw[hfa] at h5;exact h5
  ·exact hlk W hW.2
  ·omega
 have hgen:=hL.gen;refine wp_region_thr (EntE w3 B.ro o1 o2) 7 9 (by decide) (by kernel_rfl) (by kernel_rfl) ⟨(Tch.refl _ _).drew,rfl⟩ ?_
 (repeat (first|(refine lexT_skip (by rfl) (by decide) ?_;simp only[Act.put,List.setIfInBounds_toArray,List.set_cons_succ,List.set_cons_zero])|(refine lexT_want (by rfl) (by decide) (by rfl) ?_;intro K hK;go_big_quiet_op;refine hK _ ?_;clear hK K)))
 refine lexT_early (by rfl) (by decide) (by kernel_rfl) (.int .u64 (S.gen a)) (fun x hx=>does_look _ _ rfl x.h ?_) ?_
 ·exact hlook x.b x.w hx x.h
 simp only[Act.put,List.setIfInBounds_toArray,List.set_cons_succ,List.set_cons_zero]
 (repeat (first|(refine lexT_skip (by rfl) (by decide) ?_;simp only[Act.put,List.setIfInBounds_toArray,List.set_cons_succ,List.set_cons_zero])|(refine lexT_want (by rfl) (by decide) (by rfl) ?_;intro K hK;go_big_quiet_op;refine hK _ ?_;clear hK K)))
 refine lexT_turn1 (by rfl) (by rfl) (.tuple #[.int .u64 (S.gen a),s]) (fun W hW=>?_) ?_
 ·have q0:=hr1 W hW.2
  unfold does
  go_simp
  rw[show Value.agg #[Value.int .i64 (a:Int)]=PK (a:Int) from rfl,q0];exact⟨⟨hW.1.put _ (.inl rfl),putO_at (Nat.lt_of_lt_of_le hl3.2.2.1 hW.1.size)⟩,rfl⟩
 simp only[Act.put,List.setIfInBounds_toArray,List.set_cons_succ,List.set_cons_zero]
 (repeat (first|(refine lexT_skip (by rfl) (by decide) ?_;simp only[Act.put,List.setIfInBounds_toArray,List.set_cons_succ,List.set_cons_zero])|(refine lexT_want (by rfl) (by decide) (by rfl) ?_;intro K hK;go_big_quiet_op;refine hK _ ?_;clear hK K)))
 refine lexT_turn2 (by rfl) (by rfl) (by decide) undef (fun W hW=>?_) ?_
 ·have q0:=hr3 W hW.2
  rw[show ((S.gen a+1:Nat):Int)=(S.gen a:Int)+1 by omega] at q0;unfold does
  go_simp
  exact⟨⟨hW.1.put _ (.inl rfl),putO_at (Nat.lt_of_lt_of_le hl3.2.2.1 hW.1.size)⟩,rfl⟩
 simp only[Act.put,List.setIfInBounds_toArray,List.set_cons_succ,List.set_cons_zero];refine fun w4 hw4=>?_;have hm4:=hmap w4 hw4.2
 have hp4:PoolAt B { ent:=fset S.ent a none,gen:=fset S.gen a (S.gen a+1),n:=S.n-1,word:=S.word } w4:=by
  refine⟨(hw4.1.block _ hl3.1 (by omega)).trans hp.blk,hp.ent.at (hw4.1.block _ hl3.2.1 (by omega)),⟨_,_,hm4,fun b=>?_⟩,(hw4.1.block _ hl3.2.2.2 (by omega)).trans hp.tk,hp.ne⟩
  by_cases hb:b=a
  ·subst hb
   rw[fset_same];show _=Value.int .u64 ((fset S.gen b (S.gen b+1) b:Nat):Int);rw[fset_same];rfl
  ·rw[fset_ne _ _ (fun e=>hb (by omega))]
   show _=Value.int .u64 ((fset S.gen a (S.gen a+1) b:Nat):Int);rw[fset_ne _ _ hb];exact hf2 b
 have hX4:Blk w4 xb _ 316:=(hw4.1.block _ hX3.lt (by omega)).trans hX3;have hF4:Tch B.own w w4:=hF3.trans' hw4.1 (fun j _ hj=>.inr (.inl hj));have cx:=hX4.cell 0 rfl;clear hr1 hlk hr2 hr3 hmap c1 c2 hlook hm4
 go_wp2_with (go_at_call 186;refine(mark_at hp4 ha hw false).mono ?_;rintro e w5 ⟨rfl,ht5,hb5⟩)
 refine bodyPost_ret (v:=.bool true) ?_ rfl ⟨rfl,hF4.trans' ht5 (fun j _ hj=>.inr (.inr hj)),?_⟩
 ·simp[results,Tryz.results118,go_sem]
 ·have hl4:=hp4.lt
  have hap4:=hp4.apart;obtain⟨f',m',g1,g2⟩:=hp4.old;exact⟨(ht5.block _ hl4.1 (by omega)).trans hp4.blk,hp4.ent.at (ht5.block _ hl4.2.1 (by omega)),⟨f',m',g1.at (ht5.block _ hl4.2.2.1 (by omega)),g2⟩,hb5,hp4.ne⟩
end
section
variable {B:PB} {S:PS} {w w':World} {a:Nat} {t:Tm}
theorem not_u64 {x y:Nat} (hx:x+y=18446744073709551615):bits .xor .u64 IntKind.u64.max (x:Int)=(y:Int):=by
 have e:bits .xor .u64 IntKind.u64.max (x:Int)=IntKind.u64.wrap (((BitVec.ofInt 64 IntKind.u64.max) ^^^ (BitVec.ofInt 64 (x:Int))).toNat:Int):=rfl
 have em:BitVec.ofInt 64 IntKind.u64.max=BitVec.allOnes 64:=by decide
 have ex:(BitVec.ofInt 64 (x:Int)).toNat=x:=by simp;omega
 rw[e,em,BitVec.allOnes_xor,BitVec.toNat_not,ex,IntKind.wrap_u64];omega
theorem free_at (h:PoolAt B S w) (hT:TabW w) {nw:Nat} (hw:S.word+nw=18446744073709551615) (hf:firstN nw 0=(a:Int)) (ha:a<64):Calls Tryz.prog 237 #[.pointer (some ⟨B.b,0,none⟩)] w fun e w'=>e=.returned (.int .i64 (a:Int))∧Below w.heap.size w w':=by
 have hc:Calls Tryz.prog 299 #[.int .u64 (nw:Int),.int .i64 0] w fun e w'=>e=.returned (.int .i64 (a:Int))∧Below w.heap.size w w':=by
  have:=first_at (n:=nw) (m:=0) (by omega) (by omega) hT;rw[hf] at this;exact this
 clear hf;go_enter Tryz.func237,Tryz.ntmps237;have c1:w.cell? ⟨B.b,2,none⟩=some (.slice (some ⟨B.tb,0,none⟩) 1 1):=h.blk.cell 2 rfl;have c2:=h.tk.cell 0 rfl;have hnot:=not_u64 hw;have hsg:IntKind.u64.signed=false:=rfl;go_wp2;go_step3;go_wp2;go_step3;go_wp2;refine wp_loop_rounds 1 ?_;rw[rounds_succ]
 go_wp2_with (go_at_call 299;refine hc.mono ?_;rintro e w1 ⟨rfl,hb1⟩)
 rw[Exit.noGoto_ret];refine bodyPost_ret (v:=.int .i64 (a:Int)) ?_ rfl ⟨rfl,hb1⟩;simp[results,Tryz.results237,go_sem]
theorem put_at (h:PoolAt B S w) (hT:TabW w) (h2:∀r,B.own r→r≠2) {nw:Nat} (hw:S.word+nw=18446744073709551615) (hf:firstN nw 0=(a:Int)) (ha:a<64) (hr:a<B.room) (hn:S.ent a=none) (hg:S.gen a<4294967295) :
 Calls Tryz.prog 169 #[.pointer (some ⟨B.b,0,none⟩),.agg #[.int .u64 0,.int .u64 0,.int .u64 0]] w fun e w'=>
  e=.returned (.tuple #[.int .u64 (hN S a:Nat),.int .i64 0])∧Tch B.own w w'∧PoolAt B ⟨fset S.ent a (some ⟨0,0,0⟩),S.gen,S.n+1,markW S.word a true⟩ w':=by
 go_enter Tryz.func169,Tryz.ntmps169;have hlw:=h.lt;have hBa:Below w.heap.size w (w.alloc (Obj.cells #[Value.int .u64 0,Value.int .u64 0,Value.int .u64 0] 226)):=(Below.refl _ w).alloc (Nat.le_refl _) _;have h0:=h.below hBa hlw;have hT0:TabW (w.alloc (Obj.cells #[Value.int .u64 0,Value.int .u64 0,Value.int .u64 0] 226)):=hT.keep (hBa.block _ hT.lt);have hEb:=Blk.new w #[Value.int .u64 0,Value.int .u64 0,Value.int .u64 0] 226;have hfr:=free_at h0 hT0 hw hf ha;clear hf
 go_wp2_with (go_at_call 237;refine hfr.mono ?_;rintro e w1 ⟨rfl,hb1⟩)
 have hB1:Below w.heap.size w (w1.alloc (Obj.cells #[Value.int IntKind.i64 (a:Int)] 316)):=(hBa.trans (hb1.mono hBa.size)).alloc (Nat.le_trans hBa.size hb1.size) _;have hsz:w.heap.size<w1.heap.size:=Nat.lt_of_lt_of_le hEb.lt hb1.size;have hE1:=(hEb.below hb1 hEb.lt).alloc (Obj.cells #[Value.int IntKind.i64 (a:Int)] 316);have hX1:=Blk.new w1 #[Value.int IntKind.i64 (a:Int)] 316;have h1:=h.below hB1 hlw;generalize w1.alloc (Obj.cells #[Value.int IntKind.i64 (a:Int)] 316)=w2 at *;generalize w1.heap.size=xb at *;have hl2:=h1.lt;have hap:=h1.apart;have cr:=h1.blk.wx 3 (v:=.int .i64 (B.room:Int)) rfl;have cx:=hX1.wx 0 rfl;refine wp_region_grown (by kernel_rfl) (by kernel_rfl) ?_
 repeat (go_big_quiet_step (fail))
 refine wpQuiet_nil ?_;intro w3 hb3;have h3:=h1.below hb3 hl2;have hE3:=hE1.below hb3 hE1.lt;have hX3:=hX1.below hb3 hX1.lt;have hB3:Below w.heap.size w w3:=hB1.trans (hb3.mono hB1.size);have hl3:=h3.lt;have hap3:=h3.apart;clear cr cx
 have hge:¬(B.room≤a):=by omega
 go_wp2;obtain⟨o,hrun,hmap⟩:=h3.ent.putP under317 (a:Int) (Tm.v ⟨0,0,0⟩);have hne:=mapE_ne w3 B.re o;haveI:=hne.1;haveI:=hne.2;have c1:∀x:One (MapE w3 B.re o false),x.w.cell? ⟨B.b,0,none⟩=some (.map (some B.re)):=mapE_one h3.blk (by omega) 0 rfl;have c2:∀x:One (MapE w3 B.re o false),x.w.cell? ⟨xb,0,none⟩=some (.int .i64 (a:Int)):=mapE_one hX3 (by omega) 0 rfl;have c3:∀x:One (MapE w3 B.re o false),x.w.cell? ⟨w.heap.size,0,none⟩=some (.int .u64 0):=mapE_one hE3 (by omega) 0 rfl;have c4:∀x:One (MapE w3 B.re o false),x.w.cell? ⟨w.heap.size,1,none⟩=some (.int .u64 0):=mapE_one hE3 (by omega) 1 rfl;have c5:∀x:One (MapE w3 B.re o false),x.w.cell? ⟨w.heap.size,2,none⟩=some (.int .u64 0):=mapE_one hE3 (by omega) 2 rfl;refine wp_region_two (MapE w3 B.re o) 6 (by decide) (by kernel_rfl) (by kernel_rfl) ⟨(Tch.refl _ _).drew,rfl⟩ ?_
 (repeat (first|(refine lexS_skip (by rfl) (by decide) ?_;simp only[Act.put,List.setIfInBounds_toArray,List.set_cons_succ,List.set_cons_zero])|(refine lexS_ewant (by rfl) (by decide) (by kernel_rfl) (by rfl) ?_;intro K hK;go_big_quiet_op;refine hK _ ?_;clear hK K)))
 refine lexS_turn (by rfl) (by rfl) undef (mapE_upd rfl hl3.2.1 hrun) ?_;simp only[Act.put,List.setIfInBounds_toArray,List.set_cons_succ,List.set_cons_zero];refine fun w4 hw4=>?_;have hm4:=hmap w4 hw4.2
 have e1:(entF S.ent (a:Int)).isSome=false:=by rw[entF_nat,hn];rfl
 rw[e1,if_neg (by decide)] at hm4;have e2:=entF_set S.ent a (some ⟨0,0,0⟩)
 have hm5:MapIs PK w4 B.re (entF (fset S.ent a (some ⟨0,0,0⟩))) (S.n+1):=by rw[←e2];exact hm4
 have hp:=h3.put (o:=o) hw4.1 hm5;have hX4:Blk w4 xb _ 316:=(hw4.1.block _ hX3.lt (by omega)).trans hX3;have hF4:Tch B.own w w4:=(Tch.of_below hB3).trans' hw4.1 (fun j _ hj=>.inl hj);have cx:=hX4.cell 0 rfl;have hl4:=hp.lt;have hap4:=hp.apart;clear hrun hmap hne c1 c2 c3 c4 c5 hm4 e1 e2 hm5 hw4;have hmk:=mark_at hp ha (show S.word<18446744073709551616 by omega) true
 go_wp2_with (first|(go_at_call 186;refine hmk.mono ?_;rintro e w5 ⟨rfl,ht5,hb5⟩;have hX5:Blk w5 xb _ 316:=(ht5.block _ hX4.lt (by omega)).trans hX4;have cx5:=hX5.cell 0 rfl;have hp5:PoolAt B ⟨fset S.ent a (some ⟨0,0,0⟩),S.gen,S.n+1,markW S.word a true⟩ w5:=(by
  obtain⟨f',m',g1,g2⟩:=hp.old
  exact⟨(ht5.block _ hl4.1 (by omega)).trans hp.blk,hp.ent.at (ht5.block _ hl4.2.1 (by omega)),⟨f',m',g1.at (ht5.block _ hl4.2.2.1 (by omega)),g2⟩,hb5,hp.ne⟩);have hF5:Tch B.own w w5:=hF4.trans' ht5 (fun j _ hj=>.inr (.inr hj));have hh:=handle_at hp5 (show a<4096 by omega) hg)|(go_at_call 177;refine hh.mono ?_;rintro e w6 ⟨rfl,hb6⟩))
 refine bodyPost_ret (v:=.tuple #[.int .u64 (hN S a:Nat),.int .i64 0]) ?_ rfl ⟨rfl,hF5.trans (Tch.of_below hb6),hp5.below hb6 hp5.lt⟩;simp[results,Tryz.results169,go_sem,hN]
end
end Go.Proofs.YtkndlfdpmpdihaaGreatDoor
