/- Ways through a round of TopDog: printed by wip/tools/genc.py. Conditions: those that each statement shows. -/
import Derived.Test.YtkndlfdpmpdihaaGreatDoorD2
namespace Go.Proofs.YtkndlfdpmpdihaaGreatDoor
open Go.RowKit Go.Ev
set_option linter.unusedVariables false
set_option linter.unusedSimpArgs false
set_option maxRecDepth 1000000
def t4_0_dl : List (Value × Bool) := [((bn 11 (.bool false) (sy .i64 21) (Lit.i64 0)), false),
  ((bn 11 (.bool false) (sy .i64 21) (Lit.i64 1)), false),
  ((bn 11 (.bool false) (sy .i64 21) (Lit.i64 2)), false),
  ((bn 11 (.bool false) (sy .i64 21) (Lit.i64 3)), false),
  ((bn 11 (.bool false) (sy .i64 21) (Lit.i64 4)), true),
  ((bn 16 (.bool false) (sy .u64 0) (Lit.u64 18446744073709551615)), false)]
def t4_0_ex : List Value := [(sy .u64 0),
  (sy .u64 1),
  (syB 2),
  (sy .u32 3),
  (sy .u32 4),
  (sy .u64 5),
  (sy .u32 6),
  (sy .i64 7),
  (sy .u64 8),
  (sy .u32 9),
  .nilFunc,
  .nilFunc,
  .nilFunc,
  .nilFunc,
  .nilFunc,
  (sy .u64 15),
  (sy .i64 16),
  (sy .u64 17)]
theorem t4_0_run (ρ : Nat → Option Value) (h : DL ρ t4_0_dl) (A : Value) : askC (codeC (mkG 8 ρ t4_0_dl h) rest3 .fresh) (.exit 1) 277 ((4, A) :: envU) (lUof false) piT t4_0_ex envT (lTof false) = some A := by kernel_rfl
theorem t4_0 {s : DT} {x : AC} {k : Nat} (hs : s.ok k) (hk : k ≤ 40) (hlk : s.locked = false) (c0 : x.kind ≠ 0) (c1 : x.kind ≠ 1) (c2 : x.kind ≠ 2) (c3 : x.kind ≠ 3) (c4 : x.kind = 4) {A : Value} {rA : Option Nat} {ft : Nat → Prop} {a : Act} {w : World} (h : Sc (pl (ρU s x)) (lUof s.locked) 277 envU A rA ft a w) (hA : sliceA A) {Q : Exit → Act → World → Prop}
    (hQ : ∀ a' w', Sc (pl (ρT ⟨s.time, s.since, s.shut, s.all, s.sec, s.rest, s.made, s.spent, s.gap, s.last, s.idx, s.armed, s.locked⟩)) (lTof s.locked) 277 envT A rA (grow ft w w') a' w' → Kp (fr ft w) w w' → Q (.exit 1) a' w') : rest3.wp Tryz.prog Q a w := by
  obtain ⟨k1, k2, k3, k4, k5, k6, k7, k8, k9, k10, k11, k12⟩ := hs
  have hd : DL (ρU s x) t4_0_dl := (DL.cons (Da.eqi (a := x.kind) (b := ((0 : Nat) : Int)) (q := false) (Da.giv rfl) (Da.nat .i64 0) ⟨fun h => absurd h (by omega), fun h => by cases h⟩) rfl (DL.cons (Da.eqi (a := x.kind) (b := ((1 : Nat) : Int)) (q := false) (Da.giv rfl) (Da.nat .i64 1) ⟨fun h => absurd h (by omega), fun h => by cases h⟩) rfl (DL.cons (Da.eqi (a := x.kind) (b := ((2 : Nat) : Int)) (q := false) (Da.giv rfl) (Da.nat .i64 2) ⟨fun h => absurd h (by omega), fun h => by cases h⟩) rfl (DL.cons (Da.eqi (a := x.kind) (b := ((3 : Nat) : Int)) (q := false) (Da.giv rfl) (Da.nat .i64 3) ⟨fun h => absurd h (by omega), fun h => by cases h⟩) rfl (DL.cons (Da.eqi (a := x.kind) (b := ((4 : Nat) : Int)) (q := true) (Da.giv rfl) (Da.nat .i64 4) ⟨fun _ => rfl, fun _ => by omega⟩) rfl (DL.cons (Da.geq (a := s.time) (b := 18446744073709551615) (q := false) (Da.giv (k := .u64) (n := ((s.time : Nat) : Int)) rfl) (Da.nat .u64 18446744073709551615) ⟨fun h => absurd h (by omega), fun h => by cases h⟩) rfl (DL.nil _)))))))
  have hx : EX (ρU s x) (ρT ⟨s.time, s.since, s.shut, s.all, s.sec, s.rest, s.made, s.spent, s.gap, s.last, s.idx, s.armed, s.locked⟩) 0 t4_0_ex := (EX.cons (Da.giv (k := .u64) (n := ((s.time : Nat) : Int)) rfl) rfl (EX.cons (Da.giv (k := .u64) (n := ((s.since : Nat) : Int)) rfl) rfl (EX.cons (Da.givB (b := s.armed) rfl) rfl (EX.cons (Da.giv (k := .u32) (n := ((s.shut : Nat) : Int)) rfl) rfl (EX.cons (Da.giv (k := .u32) (n := ((s.all : Nat) : Int)) rfl) rfl (EX.cons (Da.giv (k := .u64) (n := ((s.sec : Nat) : Int)) rfl) rfl (EX.cons (Da.giv (k := .u32) (n := ((s.rest : Nat) : Int)) rfl) rfl (EX.cons (Da.giv (k := .i64) (n := ((s.made : Nat) : Int)) rfl) rfl (EX.cons (Da.giv (k := .u64) (n := ((s.spent : Nat) : Int)) rfl) rfl (EX.cons (Da.giv (k := .u32) (n := ((s.gap : Nat) : Int)) rfl) rfl (EX.skip (EX.skip (EX.skip (EX.skip (EX.skip (EX.cons (Da.giv (k := .u64) (n := ((s.last : Nat) : Int)) rfl) rfl (EX.cons (Da.giv (k := .i64) (n := ((s.idx : Nat) : Int)) rfl) rfl (EX.cons (Da.giv (k := .u64) (n := ((s.time : Nat) : Int)) rfl) rfl (EX.nil _ _ _)))))))))))))))))))
  rw [hlk] at h
  rw [hlk] at hQ
  exact Sc.go h (fun _ _ h => h) hd hx (.inl hA) rfl (lT_len false) (t4_0_run _ hd A) hQ
def t4_1_dl : List (Value × Bool) := [((bn 11 (.bool false) (sy .i64 21) (Lit.i64 0)), false),
  ((bn 11 (.bool false) (sy .i64 21) (Lit.i64 1)), false),
  ((bn 11 (.bool false) (sy .i64 21) (Lit.i64 2)), false),
  ((bn 11 (.bool false) (sy .i64 21) (Lit.i64 3)), false),
  ((bn 11 (.bool false) (sy .i64 21) (Lit.i64 4)), true),
  ((bn 16 (.bool false) (sy .u64 0) (Lit.u64 18446744073709551615)), false)]
def t4_1_ex : List Value := [(sy .u64 0),
  (sy .u64 1),
  (syB 2),
  (sy .u32 3),
  (sy .u32 4),
  (sy .u64 5),
  (sy .u32 6),
  (sy .i64 7),
  (sy .u64 8),
  (sy .u32 9),
  .nilFunc,
  .nilFunc,
  .nilFunc,
  .nilFunc,
  .nilFunc,
  (sy .u64 15),
  (sy .i64 16),
  (sy .u64 17)]
theorem t4_1_run (ρ : Nat → Option Value) (h : DL ρ t4_1_dl) (A : Value) : askC (codeC (mkG 8 ρ t4_1_dl h) rest3 .fresh) (.exit 1) 277 ((4, A) :: envU) (lUof true) piT t4_1_ex envT (lTof true) = some A := by kernel_rfl
theorem t4_1 {s : DT} {x : AC} {k : Nat} (hs : s.ok k) (hk : k ≤ 40) (hlk : s.locked = true) (c0 : x.kind ≠ 0) (c1 : x.kind ≠ 1) (c2 : x.kind ≠ 2) (c3 : x.kind ≠ 3) (c4 : x.kind = 4) {A : Value} {rA : Option Nat} {ft : Nat → Prop} {a : Act} {w : World} (h : Sc (pl (ρU s x)) (lUof s.locked) 277 envU A rA ft a w) (hA : sliceA A) {Q : Exit → Act → World → Prop}
    (hQ : ∀ a' w', Sc (pl (ρT ⟨s.time, s.since, s.shut, s.all, s.sec, s.rest, s.made, s.spent, s.gap, s.last, s.idx, s.armed, s.locked⟩)) (lTof s.locked) 277 envT A rA (grow ft w w') a' w' → Kp (fr ft w) w w' → Q (.exit 1) a' w') : rest3.wp Tryz.prog Q a w := by
  obtain ⟨k1, k2, k3, k4, k5, k6, k7, k8, k9, k10, k11, k12⟩ := hs
  have hd : DL (ρU s x) t4_1_dl := (DL.cons (Da.eqi (a := x.kind) (b := ((0 : Nat) : Int)) (q := false) (Da.giv rfl) (Da.nat .i64 0) ⟨fun h => absurd h (by omega), fun h => by cases h⟩) rfl (DL.cons (Da.eqi (a := x.kind) (b := ((1 : Nat) : Int)) (q := false) (Da.giv rfl) (Da.nat .i64 1) ⟨fun h => absurd h (by omega), fun h => by cases h⟩) rfl (DL.cons (Da.eqi (a := x.kind) (b := ((2 : Nat) : Int)) (q := false) (Da.giv rfl) (Da.nat .i64 2) ⟨fun h => absurd h (by omega), fun h => by cases h⟩) rfl (DL.cons (Da.eqi (a := x.kind) (b := ((3 : Nat) : Int)) (q := false) (Da.giv rfl) (Da.nat .i64 3) ⟨fun h => absurd h (by omega), fun h => by cases h⟩) rfl (DL.cons (Da.eqi (a := x.kind) (b := ((4 : Nat) : Int)) (q := true) (Da.giv rfl) (Da.nat .i64 4) ⟨fun _ => rfl, fun _ => by omega⟩) rfl (DL.cons (Da.geq (a := s.time) (b := 18446744073709551615) (q := false) (Da.giv (k := .u64) (n := ((s.time : Nat) : Int)) rfl) (Da.nat .u64 18446744073709551615) ⟨fun h => absurd h (by omega), fun h => by cases h⟩) rfl (DL.nil _)))))))
  have hx : EX (ρU s x) (ρT ⟨s.time, s.since, s.shut, s.all, s.sec, s.rest, s.made, s.spent, s.gap, s.last, s.idx, s.armed, s.locked⟩) 0 t4_1_ex := (EX.cons (Da.giv (k := .u64) (n := ((s.time : Nat) : Int)) rfl) rfl (EX.cons (Da.giv (k := .u64) (n := ((s.since : Nat) : Int)) rfl) rfl (EX.cons (Da.givB (b := s.armed) rfl) rfl (EX.cons (Da.giv (k := .u32) (n := ((s.shut : Nat) : Int)) rfl) rfl (EX.cons (Da.giv (k := .u32) (n := ((s.all : Nat) : Int)) rfl) rfl (EX.cons (Da.giv (k := .u64) (n := ((s.sec : Nat) : Int)) rfl) rfl (EX.cons (Da.giv (k := .u32) (n := ((s.rest : Nat) : Int)) rfl) rfl (EX.cons (Da.giv (k := .i64) (n := ((s.made : Nat) : Int)) rfl) rfl (EX.cons (Da.giv (k := .u64) (n := ((s.spent : Nat) : Int)) rfl) rfl (EX.cons (Da.giv (k := .u32) (n := ((s.gap : Nat) : Int)) rfl) rfl (EX.skip (EX.skip (EX.skip (EX.skip (EX.skip (EX.cons (Da.giv (k := .u64) (n := ((s.last : Nat) : Int)) rfl) rfl (EX.cons (Da.giv (k := .i64) (n := ((s.idx : Nat) : Int)) rfl) rfl (EX.cons (Da.giv (k := .u64) (n := ((s.time : Nat) : Int)) rfl) rfl (EX.nil _ _ _)))))))))))))))))))
  rw [hlk] at h
  rw [hlk] at hQ
  exact Sc.go h (fun _ _ h => h) hd hx (.inl hA) rfl (lT_len true) (t4_1_run _ hd A) hQ
def t5_0_dl : List (Value × Bool) := [((bn 11 (.bool false) (sy .i64 21) (Lit.i64 0)), false),
  ((bn 11 (.bool false) (sy .i64 21) (Lit.i64 1)), false),
  ((bn 11 (.bool false) (sy .i64 21) (Lit.i64 2)), false),
  ((bn 11 (.bool false) (sy .i64 21) (Lit.i64 3)), false),
  ((bn 11 (.bool false) (sy .i64 21) (Lit.i64 4)), false),
  ((bn 16 (.bool false) (bn 4 (Lit.u64 0) (sy .u64 22) (Lit.u64 700)) (bn 1 (Lit.u64 0) (cv .u64 (sy .u32 4)) (sy .u64 1))), false),
  ((bn 16 (.bool false) (ad (sy .u64 0) (bn 4 (Lit.u64 0) (sy .u64 22) (Lit.u64 700))) (Lit.u64 18446744073709551615)), false),
  ((bn 16 (.bool false) (bn 0 (Lit.u64 0) (sy .u64 17) (bn 4 (Lit.u64 0) (sy .u64 22) (Lit.u64 700))) (bn 0 (Lit.u64 0) (sy .u64 15) (cv .u64 (sy .u32 4)))), false),
  ((bn 12 (.bool false) (ad (sy .u64 0) (bn 4 (Lit.u64 0) (sy .u64 22) (Lit.u64 700))) (bn 0 (Lit.u64 0) (sy .u64 17) (bn 4 (Lit.u64 0) (sy .u64 22) (Lit.u64 700)))), false)]
def t5_0_ex : List Value := [(ad (sy .u64 0) (bn 4 (Lit.u64 0) (sy .u64 22) (Lit.u64 700))),
  (bn 0 (Lit.u64 0) (sy .u64 1) (bn 4 (Lit.u64 0) (sy .u64 22) (Lit.u64 700))),
  (syB 2),
  (sy .u32 3),
  (sy .u32 4),
  (ad (sy .u64 5) (bn 0 (Lit.u64 0) (bn 3 (Lit.u64 0) (bn 4 (Lit.u64 0) (sy .u64 22) (Lit.u64 700)) (Lit.u64 10)) (bn 3 (Lit.u64 0) (bn 0 (Lit.u64 0) (cv .u64 (sy .u32 6)) (bn 4 (Lit.u64 0) (bn 4 (Lit.u64 0) (sy .u64 22) (Lit.u64 700)) (Lit.u64 10))) (Lit.u64 10)))),
  (cv .u32 (bn 4 (Lit.u64 0) (bn 0 (Lit.u64 0) (cv .u64 (sy .u32 6)) (bn 4 (Lit.u64 0) (bn 4 (Lit.u64 0) (sy .u64 22) (Lit.u64 700)) (Lit.u64 10))) (Lit.u64 10))),
  (sy .i64 7),
  (sy .u64 8),
  (sy .u32 9),
  .nilFunc,
  .nilFunc,
  .nilFunc,
  .nilFunc,
  .nilFunc,
  (sy .u64 15),
  (sy .i64 16),
  (bn 0 (Lit.u64 0) (sy .u64 17) (bn 4 (Lit.u64 0) (sy .u64 22) (Lit.u64 700)))]
theorem t5_0_run (ρ : Nat → Option Value) (h : DL ρ t5_0_dl) (A : Value) : askC (codeC (mkG 8 ρ t5_0_dl h) rest3 .fresh) .normal 277 ((4, A) :: envU) (lUof false) piT t5_0_ex envT (lTof false) = some A := by kernel_rfl
theorem t5_0 {s : DT} {x : AC} {k : Nat} (hs : s.ok k) (hk : k ≤ 40) (hlk : s.locked = false) (c0 : x.kind ≠ 0) (c1 : x.kind ≠ 1) (c2 : x.kind ≠ 2) (c3 : x.kind ≠ 3) (c4 : x.kind ≠ 4) (c5 : (x.d % 700) < (s.all - s.since)) {A : Value} {rA : Option Nat} {ft : Nat → Prop} {a : Act} {w : World} (h : Sc (pl (ρU s x)) (lUof s.locked) 277 envU A rA ft a w) (hA : sliceA A) {Q : Exit → Act → World → Prop}
    (hQ : ∀ a' w', Sc (pl (ρT ⟨(s.time + (x.d % 700)), (s.since + (x.d % 700)), s.shut, s.all, (s.sec + (((x.d % 700) / 10) + ((s.rest + ((x.d % 700) % 10)) / 10))), ((s.rest + ((x.d % 700) % 10)) % 10), s.made, s.spent, s.gap, s.last, s.idx, s.armed, s.locked⟩)) (lTof s.locked) 277 envT A rA (grow ft w w') a' w' → Kp (fr ft w) w w' → Q .normal a' w') : rest3.wp Tryz.prog Q a w := by
  obtain ⟨k1, k2, k3, k4, k5, k6, k7, k8, k9, k10, k11, k12⟩ := hs
  have hd : DL (ρU s x) t5_0_dl := (DL.cons (Da.eqi (a := x.kind) (b := ((0 : Nat) : Int)) (q := false) (Da.giv rfl) (Da.nat .i64 0) ⟨fun h => absurd h (by omega), fun h => by cases h⟩) rfl (DL.cons (Da.eqi (a := x.kind) (b := ((1 : Nat) : Int)) (q := false) (Da.giv rfl) (Da.nat .i64 1) ⟨fun h => absurd h (by omega), fun h => by cases h⟩) rfl (DL.cons (Da.eqi (a := x.kind) (b := ((2 : Nat) : Int)) (q := false) (Da.giv rfl) (Da.nat .i64 2) ⟨fun h => absurd h (by omega), fun h => by cases h⟩) rfl (DL.cons (Da.eqi (a := x.kind) (b := ((3 : Nat) : Int)) (q := false) (Da.giv rfl) (Da.nat .i64 3) ⟨fun h => absurd h (by omega), fun h => by cases h⟩) rfl (DL.cons (Da.eqi (a := x.kind) (b := ((4 : Nat) : Int)) (q := false) (Da.giv rfl) (Da.nat .i64 4) ⟨fun h => absurd h (by omega), fun h => by cases h⟩) rfl (DL.cons (Da.geq (a := (x.d % 700)) (b := (s.all - s.since)) (q := false) (Da.rem (a := x.d) (b := 700) rfl (Da.giv (k := .u64) (n := ((x.d : Nat) : Int)) rfl) (Da.nat .u64 700) (by omega)) (Da.sub (a := s.all) (b := s.since) rfl (Da.cvt (k := .u64) (a := s.all) (Da.giv (k := .u32) (n := ((s.all : Nat) : Int)) rfl) (by simp only [lim]; omega)) (Da.giv (k := .u64) (n := ((s.since : Nat) : Int)) rfl) (by omega) (by simp only [lim]; omega)) ⟨fun h => absurd h (by omega), fun h => by cases h⟩) rfl (DL.cons (Da.geq (a := (s.time + (x.d % 700))) (b := 18446744073709551615) (q := false) (Da.add64 (a := s.time) (b := (x.d % 700)) (Da.giv (k := .u64) (n := ((s.time : Nat) : Int)) rfl) (Da.rem (a := x.d) (b := 700) rfl (Da.giv (k := .u64) (n := ((x.d : Nat) : Int)) rfl) (Da.nat .u64 700) (by omega)) (by omega)) (Da.nat .u64 18446744073709551615) ⟨fun h => absurd h (by omega), fun h => by cases h⟩) rfl (DL.cons (Da.geq (a := (s.time + (x.d % 700))) (b := (s.last + s.all)) (q := false) (Da.add (a := s.time) (b := (x.d % 700)) rfl (Da.giv (k := .u64) (n := ((s.time : Nat) : Int)) rfl) (Da.rem (a := x.d) (b := 700) rfl (Da.giv (k := .u64) (n := ((x.d : Nat) : Int)) rfl) (Da.nat .u64 700) (by omega)) (by simp only [lim]; omega)) (Da.add (a := s.last) (b := s.all) rfl (Da.giv (k := .u64) (n := ((s.last : Nat) : Int)) rfl) (Da.cvt (k := .u64) (a := s.all) (Da.giv (k := .u32) (n := ((s.all : Nat) : Int)) rfl) (by simp only [lim]; omega)) (by simp only [lim]; omega)) ⟨fun h => absurd h (by omega), fun h => by cases h⟩) rfl (DL.cons (Da.neq (a := (s.time + (x.d % 700))) (b := (s.time + (x.d % 700))) (q := false) (Da.add64 (a := s.time) (b := (x.d % 700)) (Da.giv (k := .u64) (n := ((s.time : Nat) : Int)) rfl) (Da.rem (a := x.d) (b := 700) rfl (Da.giv (k := .u64) (n := ((x.d : Nat) : Int)) rfl) (Da.nat .u64 700) (by omega)) (by omega)) (Da.add (a := s.time) (b := (x.d % 700)) rfl (Da.giv (k := .u64) (n := ((s.time : Nat) : Int)) rfl) (Da.rem (a := x.d) (b := 700) rfl (Da.giv (k := .u64) (n := ((x.d : Nat) : Int)) rfl) (Da.nat .u64 700) (by omega)) (by simp only [lim]; omega)) ⟨fun h => absurd h (by omega), fun h => by cases h⟩) rfl (DL.nil _))))))))))
  have hx : EX (ρU s x) (ρT ⟨(s.time + (x.d % 700)), (s.since + (x.d % 700)), s.shut, s.all, (s.sec + (((x.d % 700) / 10) + ((s.rest + ((x.d % 700) % 10)) / 10))), ((s.rest + ((x.d % 700) % 10)) % 10), s.made, s.spent, s.gap, s.last, s.idx, s.armed, s.locked⟩) 0 t5_0_ex := (EX.cons (Da.add64 (a := s.time) (b := (x.d % 700)) (Da.giv (k := .u64) (n := ((s.time : Nat) : Int)) rfl) (Da.rem (a := x.d) (b := 700) rfl (Da.giv (k := .u64) (n := ((x.d : Nat) : Int)) rfl) (Da.nat .u64 700) (by omega)) (by omega)) rfl (EX.cons (Da.add (a := s.since) (b := (x.d % 700)) rfl (Da.giv (k := .u64) (n := ((s.since : Nat) : Int)) rfl) (Da.rem (a := x.d) (b := 700) rfl (Da.giv (k := .u64) (n := ((x.d : Nat) : Int)) rfl) (Da.nat .u64 700) (by omega)) (by simp only [lim]; omega)) rfl (EX.cons (Da.givB (b := s.armed) rfl) rfl (EX.cons (Da.giv (k := .u32) (n := ((s.shut : Nat) : Int)) rfl) rfl (EX.cons (Da.giv (k := .u32) (n := ((s.all : Nat) : Int)) rfl) rfl (EX.cons (Da.add64 (a := s.sec) (b := (((x.d % 700) / 10) + ((s.rest + ((x.d % 700) % 10)) / 10))) (Da.giv (k := .u64) (n := ((s.sec : Nat) : Int)) rfl) (Da.add (a := ((x.d % 700) / 10)) (b := ((s.rest + ((x.d % 700) % 10)) / 10)) rfl (Da.quo (a := (x.d % 700)) (b := 10) rfl (Da.rem (a := x.d) (b := 700) rfl (Da.giv (k := .u64) (n := ((x.d : Nat) : Int)) rfl) (Da.nat .u64 700) (by omega)) (Da.nat .u64 10) (by omega) (by simp only [lim]; omega)) (Da.quo (a := (s.rest + ((x.d % 700) % 10))) (b := 10) rfl (Da.add (a := s.rest) (b := ((x.d % 700) % 10)) rfl (Da.cvt (k := .u64) (a := s.rest) (Da.giv (k := .u32) (n := ((s.rest : Nat) : Int)) rfl) (by simp only [lim]; omega)) (Da.rem (a := (x.d % 700)) (b := 10) rfl (Da.rem (a := x.d) (b := 700) rfl (Da.giv (k := .u64) (n := ((x.d : Nat) : Int)) rfl) (Da.nat .u64 700) (by omega)) (Da.nat .u64 10) (by omega)) (by simp only [lim]; omega)) (Da.nat .u64 10) (by omega) (by simp only [lim]; omega)) (by simp only [lim]; omega)) (by omega)) rfl (EX.cons (Da.cvt (k := .u32) (a := ((s.rest + ((x.d % 700) % 10)) % 10)) (Da.rem (a := (s.rest + ((x.d % 700) % 10))) (b := 10) rfl (Da.add (a := s.rest) (b := ((x.d % 700) % 10)) rfl (Da.cvt (k := .u64) (a := s.rest) (Da.giv (k := .u32) (n := ((s.rest : Nat) : Int)) rfl) (by simp only [lim]; omega)) (Da.rem (a := (x.d % 700)) (b := 10) rfl (Da.rem (a := x.d) (b := 700) rfl (Da.giv (k := .u64) (n := ((x.d : Nat) : Int)) rfl) (Da.nat .u64 700) (by omega)) (Da.nat .u64 10) (by omega)) (by simp only [lim]; omega)) (Da.nat .u64 10) (by omega)) (by simp only [lim]; omega)) rfl (EX.cons (Da.giv (k := .i64) (n := ((s.made : Nat) : Int)) rfl) rfl (EX.cons (Da.giv (k := .u64) (n := ((s.spent : Nat) : Int)) rfl) rfl (EX.cons (Da.giv (k := .u32) (n := ((s.gap : Nat) : Int)) rfl) rfl (EX.skip (EX.skip (EX.skip (EX.skip (EX.skip (EX.cons (Da.giv (k := .u64) (n := ((s.last : Nat) : Int)) rfl) rfl (EX.cons (Da.giv (k := .i64) (n := ((s.idx : Nat) : Int)) rfl) rfl (EX.cons (Da.add (a := s.time) (b := (x.d % 700)) rfl (Da.giv (k := .u64) (n := ((s.time : Nat) : Int)) rfl) (Da.rem (a := x.d) (b := 700) rfl (Da.giv (k := .u64) (n := ((x.d : Nat) : Int)) rfl) (Da.nat .u64 700) (by omega)) (by simp only [lim]; omega)) rfl (EX.nil _ _ _)))))))))))))))))))
  rw [hlk] at h
  rw [hlk] at hQ
  exact Sc.go h (fun _ _ h => h) hd hx (.inl hA) rfl (lT_len false) (t5_0_run _ hd A) hQ
def t5_1_dl : List (Value × Bool) := [((bn 11 (.bool false) (sy .i64 21) (Lit.i64 0)), false),
  ((bn 11 (.bool false) (sy .i64 21) (Lit.i64 1)), false),
  ((bn 11 (.bool false) (sy .i64 21) (Lit.i64 2)), false),
  ((bn 11 (.bool false) (sy .i64 21) (Lit.i64 3)), false),
  ((bn 11 (.bool false) (sy .i64 21) (Lit.i64 4)), false),
  ((bn 16 (.bool false) (bn 4 (Lit.u64 0) (sy .u64 22) (Lit.u64 700)) (bn 1 (Lit.u64 0) (cv .u64 (sy .u32 4)) (sy .u64 1))), false),
  ((bn 16 (.bool false) (ad (sy .u64 0) (bn 4 (Lit.u64 0) (sy .u64 22) (Lit.u64 700))) (Lit.u64 18446744073709551615)), false),
  ((bn 16 (.bool false) (bn 0 (Lit.u64 0) (sy .u64 17) (bn 4 (Lit.u64 0) (sy .u64 22) (Lit.u64 700))) (bn 0 (Lit.u64 0) (sy .u64 15) (cv .u64 (sy .u32 4)))), false),
  ((bn 12 (.bool false) (ad (sy .u64 0) (bn 4 (Lit.u64 0) (sy .u64 22) (Lit.u64 700))) (bn 0 (Lit.u64 0) (sy .u64 17) (bn 4 (Lit.u64 0) (sy .u64 22) (Lit.u64 700)))), false)]
def t5_1_ex : List Value := [(ad (sy .u64 0) (bn 4 (Lit.u64 0) (sy .u64 22) (Lit.u64 700))),
  (bn 0 (Lit.u64 0) (sy .u64 1) (bn 4 (Lit.u64 0) (sy .u64 22) (Lit.u64 700))),
  (syB 2),
  (sy .u32 3),
  (sy .u32 4),
  (ad (sy .u64 5) (bn 0 (Lit.u64 0) (bn 3 (Lit.u64 0) (bn 4 (Lit.u64 0) (sy .u64 22) (Lit.u64 700)) (Lit.u64 10)) (bn 3 (Lit.u64 0) (bn 0 (Lit.u64 0) (cv .u64 (sy .u32 6)) (bn 4 (Lit.u64 0) (bn 4 (Lit.u64 0) (sy .u64 22) (Lit.u64 700)) (Lit.u64 10))) (Lit.u64 10)))),
  (cv .u32 (bn 4 (Lit.u64 0) (bn 0 (Lit.u64 0) (cv .u64 (sy .u32 6)) (bn 4 (Lit.u64 0) (bn 4 (Lit.u64 0) (sy .u64 22) (Lit.u64 700)) (Lit.u64 10))) (Lit.u64 10))),
  (sy .i64 7),
  (sy .u64 8),
  (sy .u32 9),
  .nilFunc,
  .nilFunc,
  .nilFunc,
  .nilFunc,
  .nilFunc,
  (sy .u64 15),
  (sy .i64 16),
  (bn 0 (Lit.u64 0) (sy .u64 17) (bn 4 (Lit.u64 0) (sy .u64 22) (Lit.u64 700)))]
theorem t5_1_run (ρ : Nat → Option Value) (h : DL ρ t5_1_dl) (A : Value) : askC (codeC (mkG 8 ρ t5_1_dl h) rest3 .fresh) .normal 277 ((4, A) :: envU) (lUof true) piT t5_1_ex envT (lTof true) = some A := by kernel_rfl
theorem t5_1 {s : DT} {x : AC} {k : Nat} (hs : s.ok k) (hk : k ≤ 40) (hlk : s.locked = true) (c0 : x.kind ≠ 0) (c1 : x.kind ≠ 1) (c2 : x.kind ≠ 2) (c3 : x.kind ≠ 3) (c4 : x.kind ≠ 4) (c5 : (x.d % 700) < (s.all - s.since)) {A : Value} {rA : Option Nat} {ft : Nat → Prop} {a : Act} {w : World} (h : Sc (pl (ρU s x)) (lUof s.locked) 277 envU A rA ft a w) (hA : sliceA A) {Q : Exit → Act → World → Prop}
    (hQ : ∀ a' w', Sc (pl (ρT ⟨(s.time + (x.d % 700)), (s.since + (x.d % 700)), s.shut, s.all, (s.sec + (((x.d % 700) / 10) + ((s.rest + ((x.d % 700) % 10)) / 10))), ((s.rest + ((x.d % 700) % 10)) % 10), s.made, s.spent, s.gap, s.last, s.idx, s.armed, s.locked⟩)) (lTof s.locked) 277 envT A rA (grow ft w w') a' w' → Kp (fr ft w) w w' → Q .normal a' w') : rest3.wp Tryz.prog Q a w := by
  obtain ⟨k1, k2, k3, k4, k5, k6, k7, k8, k9, k10, k11, k12⟩ := hs
  have hd : DL (ρU s x) t5_1_dl := (DL.cons (Da.eqi (a := x.kind) (b := ((0 : Nat) : Int)) (q := false) (Da.giv rfl) (Da.nat .i64 0) ⟨fun h => absurd h (by omega), fun h => by cases h⟩) rfl (DL.cons (Da.eqi (a := x.kind) (b := ((1 : Nat) : Int)) (q := false) (Da.giv rfl) (Da.nat .i64 1) ⟨fun h => absurd h (by omega), fun h => by cases h⟩) rfl (DL.cons (Da.eqi (a := x.kind) (b := ((2 : Nat) : Int)) (q := false) (Da.giv rfl) (Da.nat .i64 2) ⟨fun h => absurd h (by omega), fun h => by cases h⟩) rfl (DL.cons (Da.eqi (a := x.kind) (b := ((3 : Nat) : Int)) (q := false) (Da.giv rfl) (Da.nat .i64 3) ⟨fun h => absurd h (by omega), fun h => by cases h⟩) rfl (DL.cons (Da.eqi (a := x.kind) (b := ((4 : Nat) : Int)) (q := false) (Da.giv rfl) (Da.nat .i64 4) ⟨fun h => absurd h (by omega), fun h => by cases h⟩) rfl (DL.cons (Da.geq (a := (x.d % 700)) (b := (s.all - s.since)) (q := false) (Da.rem (a := x.d) (b := 700) rfl (Da.giv (k := .u64) (n := ((x.d : Nat) : Int)) rfl) (Da.nat .u64 700) (by omega)) (Da.sub (a := s.all) (b := s.since) rfl (Da.cvt (k := .u64) (a := s.all) (Da.giv (k := .u32) (n := ((s.all : Nat) : Int)) rfl) (by simp only [lim]; omega)) (Da.giv (k := .u64) (n := ((s.since : Nat) : Int)) rfl) (by omega) (by simp only [lim]; omega)) ⟨fun h => absurd h (by omega), fun h => by cases h⟩) rfl (DL.cons (Da.geq (a := (s.time + (x.d % 700))) (b := 18446744073709551615) (q := false) (Da.add64 (a := s.time) (b := (x.d % 700)) (Da.giv (k := .u64) (n := ((s.time : Nat) : Int)) rfl) (Da.rem (a := x.d) (b := 700) rfl (Da.giv (k := .u64) (n := ((x.d : Nat) : Int)) rfl) (Da.nat .u64 700) (by omega)) (by omega)) (Da.nat .u64 18446744073709551615) ⟨fun h => absurd h (by omega), fun h => by cases h⟩) rfl (DL.cons (Da.geq (a := (s.time + (x.d % 700))) (b := (s.last + s.all)) (q := false) (Da.add (a := s.time) (b := (x.d % 700)) rfl (Da.giv (k := .u64) (n := ((s.time : Nat) : Int)) rfl) (Da.rem (a := x.d) (b := 700) rfl (Da.giv (k := .u64) (n := ((x.d : Nat) : Int)) rfl) (Da.nat .u64 700) (by omega)) (by simp only [lim]; omega)) (Da.add (a := s.last) (b := s.all) rfl (Da.giv (k := .u64) (n := ((s.last : Nat) : Int)) rfl) (Da.cvt (k := .u64) (a := s.all) (Da.giv (k := .u32) (n := ((s.all : Nat) : Int)) rfl) (by simp only [lim]; omega)) (by simp only [lim]; omega)) ⟨fun h => absurd h (by omega), fun h => by cases h⟩) rfl (DL.cons (Da.neq (a := (s.time + (x.d % 700))) (b := (s.time + (x.d % 700))) (q := false) (Da.add64 (a := s.time) (b := (x.d % 700)) (Da.giv (k := .u64) (n := ((s.time : Nat) : Int)) rfl) (Da.rem (a := x.d) (b := 700) rfl (Da.giv (k := .u64) (n := ((x.d : Nat) : Int)) rfl) (Da.nat .u64 700) (by omega)) (by omega)) (Da.add (a := s.time) (b := (x.d % 700)) rfl (Da.giv (k := .u64) (n := ((s.time : Nat) : Int)) rfl) (Da.rem (a := x.d) (b := 700) rfl (Da.giv (k := .u64) (n := ((x.d : Nat) : Int)) rfl) (Da.nat .u64 700) (by omega)) (by simp only [lim]; omega)) ⟨fun h => absurd h (by omega), fun h => by cases h⟩) rfl (DL.nil _))))))))))
  have hx : EX (ρU s x) (ρT ⟨(s.time + (x.d % 700)), (s.since + (x.d % 700)), s.shut, s.all, (s.sec + (((x.d % 700) / 10) + ((s.rest + ((x.d % 700) % 10)) / 10))), ((s.rest + ((x.d % 700) % 10)) % 10), s.made, s.spent, s.gap, s.last, s.idx, s.armed, s.locked⟩) 0 t5_1_ex := (EX.cons (Da.add64 (a := s.time) (b := (x.d % 700)) (Da.giv (k := .u64) (n := ((s.time : Nat) : Int)) rfl) (Da.rem (a := x.d) (b := 700) rfl (Da.giv (k := .u64) (n := ((x.d : Nat) : Int)) rfl) (Da.nat .u64 700) (by omega)) (by omega)) rfl (EX.cons (Da.add (a := s.since) (b := (x.d % 700)) rfl (Da.giv (k := .u64) (n := ((s.since : Nat) : Int)) rfl) (Da.rem (a := x.d) (b := 700) rfl (Da.giv (k := .u64) (n := ((x.d : Nat) : Int)) rfl) (Da.nat .u64 700) (by omega)) (by simp only [lim]; omega)) rfl (EX.cons (Da.givB (b := s.armed) rfl) rfl (EX.cons (Da.giv (k := .u32) (n := ((s.shut : Nat) : Int)) rfl) rfl (EX.cons (Da.giv (k := .u32) (n := ((s.all : Nat) : Int)) rfl) rfl (EX.cons (Da.add64 (a := s.sec) (b := (((x.d % 700) / 10) + ((s.rest + ((x.d % 700) % 10)) / 10))) (Da.giv (k := .u64) (n := ((s.sec : Nat) : Int)) rfl) (Da.add (a := ((x.d % 700) / 10)) (b := ((s.rest + ((x.d % 700) % 10)) / 10)) rfl (Da.quo (a := (x.d % 700)) (b := 10) rfl (Da.rem (a := x.d) (b := 700) rfl (Da.giv (k := .u64) (n := ((x.d : Nat) : Int)) rfl) (Da.nat .u64 700) (by omega)) (Da.nat .u64 10) (by omega) (by simp only [lim]; omega)) (Da.quo (a := (s.rest + ((x.d % 700) % 10))) (b := 10) rfl (Da.add (a := s.rest) (b := ((x.d % 700) % 10)) rfl (Da.cvt (k := .u64) (a := s.rest) (Da.giv (k := .u32) (n := ((s.rest : Nat) : Int)) rfl) (by simp only [lim]; omega)) (Da.rem (a := (x.d % 700)) (b := 10) rfl (Da.rem (a := x.d) (b := 700) rfl (Da.giv (k := .u64) (n := ((x.d : Nat) : Int)) rfl) (Da.nat .u64 700) (by omega)) (Da.nat .u64 10) (by omega)) (by simp only [lim]; omega)) (Da.nat .u64 10) (by omega) (by simp only [lim]; omega)) (by simp only [lim]; omega)) (by omega)) rfl (EX.cons (Da.cvt (k := .u32) (a := ((s.rest + ((x.d % 700) % 10)) % 10)) (Da.rem (a := (s.rest + ((x.d % 700) % 10))) (b := 10) rfl (Da.add (a := s.rest) (b := ((x.d % 700) % 10)) rfl (Da.cvt (k := .u64) (a := s.rest) (Da.giv (k := .u32) (n := ((s.rest : Nat) : Int)) rfl) (by simp only [lim]; omega)) (Da.rem (a := (x.d % 700)) (b := 10) rfl (Da.rem (a := x.d) (b := 700) rfl (Da.giv (k := .u64) (n := ((x.d : Nat) : Int)) rfl) (Da.nat .u64 700) (by omega)) (Da.nat .u64 10) (by omega)) (by simp only [lim]; omega)) (Da.nat .u64 10) (by omega)) (by simp only [lim]; omega)) rfl (EX.cons (Da.giv (k := .i64) (n := ((s.made : Nat) : Int)) rfl) rfl (EX.cons (Da.giv (k := .u64) (n := ((s.spent : Nat) : Int)) rfl) rfl (EX.cons (Da.giv (k := .u32) (n := ((s.gap : Nat) : Int)) rfl) rfl (EX.skip (EX.skip (EX.skip (EX.skip (EX.skip (EX.cons (Da.giv (k := .u64) (n := ((s.last : Nat) : Int)) rfl) rfl (EX.cons (Da.giv (k := .i64) (n := ((s.idx : Nat) : Int)) rfl) rfl (EX.cons (Da.add (a := s.time) (b := (x.d % 700)) rfl (Da.giv (k := .u64) (n := ((s.time : Nat) : Int)) rfl) (Da.rem (a := x.d) (b := 700) rfl (Da.giv (k := .u64) (n := ((x.d : Nat) : Int)) rfl) (Da.nat .u64 700) (by omega)) (by simp only [lim]; omega)) rfl (EX.nil _ _ _)))))))))))))))))))
  rw [hlk] at h
  rw [hlk] at hQ
  exact Sc.go h (fun _ _ h => h) hd hx (.inl hA) rfl (lT_len true) (t5_1_run _ hd A) hQ
end Go.Proofs.YtkndlfdpmpdihaaGreatDoor
