/- TopDog: all ways of a round, the loop, the whole. No conditions beyond those that each statement shows. -/
import Derived.Test.YtkndlfdpmpdihaaGreatDoorQA
import Derived.Test.YtkndlfdpmpdihaaGreatDoorQB
import Derived.Test.YtkndlfdpmpdihaaGreatDoorQC
import Derived.Test.YtkndlfdpmpdihaaGreatDoorQD
import Derived.Test.YtkndlfdpmpdihaaGreatDoorQE
import Derived.Test.YtkndlfdpmpdihaaGreatDoorQF
import Derived.Test.YtkndlfdpmpdihaaGreatDoorQG
import Derived.Test.YtkndlfdpmpdihaaGreatDoorQH
import Derived.Test.YtkndlfdpmpdihaaGreatDoorQI
import Derived.Test.YtkndlfdpmpdihaaGreatDoorQJ
import Derived.Test.YtkndlfdpmpdihaaGreatDoorQK
import Derived.Test.YtkndlfdpmpdihaaGreatDoorQO
import Derived.Test.YtkndlfdpmpdihaaGreatDoorQP
import Derived.Test.YtkndlfdpmpdihaaGreatDoorD2
namespace Go.Proofs.YtkndlfdpmpdihaaGreatDoor
open Go.RowKit Go.Ev
set_option linter.unusedVariables false
set_option linter.unusedSimpArgs false
set_option maxRecDepth 1000000
theorem kind0_0 {s : DT} {x : AC} {k : Nat} (hs : s.ok k) (hk : k ≤ 40) (hlk : s.locked = false) (k0 : x.kind = 0) {A : Value} {rA : Option Nat} {ft : Nat → Prop} {a : Act} {w : World} (h : Sc (pl (ρU s x)) (lUof s.locked) 277 envU A rA ft a w) (hA : sliceA A) {Q : Exit → Act → World → Prop}
    (hN : ∀ (s' : DT) (a' : Act) (w' : World), Sc (pl (ρT s')) (lTof s'.locked) 277 envT A rA (grow ft w w') a' w' → s'.ok (k + 1) → s'.idx = s.idx → s'.locked = s.locked → Kp (fr ft w) w w' → Q .normal a' w' ∧ Q (.exit 1) a' w')
    (hR : ∀ a' w', Sc (pl (fun _ => none)) Lit.l00 277 envR A rA (grow ft w w') a' w' → Kp (fr ft w) w w' → Q .ret a' w') : rest3.wp Tryz.prog Q a w := by
  obtain ⟨k1, k2, k3, k4, k5, k6, k7, k8, k9, k10, k11, k12⟩ := id hs
  by_cases t1 : s.gap ≥ s.all - s.since
  · exact q0a_0 hs hk hlk (by omega) (by omega) (by omega) h hA hR
  · by_cases t2 : s.gap ≥ s.all - (s.since + s.gap)
    · exact q0b_0 hs hk hlk (by omega) (by omega) (by omega) (by omega) h hA hR
    · by_cases e1 : (s.since + s.gap) + s.gap < s.shut
      · by_cases z1 : ((s.sec + ((s.gap / 10) + ((s.rest + (s.gap % 10)) / 10))) + ((s.gap / 10) + ((((s.rest + (s.gap % 10)) % 10) + (s.gap % 10)) / 10))) = 0 ∧ ((((s.rest + (s.gap % 10)) % 10) + (s.gap % 10)) % 10) = 0
        · exact q0f_0 hs hk hlk (by omega) (by omega) (by omega) (by omega) (by omega) h hA hR
        · exact q0e_0 hs hk hlk (by omega) (by omega) (by omega) (by omega) (by omega) h hA hR
      · exact q0d_0 hs hk hlk (by omega) (by omega) (by omega) (by omega) h hA (fun a' w' h1 h2 => (hN _ a' w' h1 (by constructor <;> dsimp only <;> omega) rfl rfl h2).1)
theorem kind1_0 {s : DT} {x : AC} {k : Nat} (hs : s.ok k) (hk : k ≤ 40) (hlk : s.locked = false) (k0 : x.kind = 1) {A : Value} {rA : Option Nat} {ft : Nat → Prop} {a : Act} {w : World} (h : Sc (pl (ρU s x)) (lUof s.locked) 277 envU A rA ft a w) (hA : sliceA A) {Q : Exit → Act → World → Prop}
    (hN : ∀ (s' : DT) (a' : Act) (w' : World), Sc (pl (ρT s')) (lTof s'.locked) 277 envT A rA (grow ft w w') a' w' → s'.ok (k + 1) → s'.idx = s.idx → s'.locked = s.locked → Kp (fr ft w) w w' → Q .normal a' w' ∧ Q (.exit 1) a' w')
    (hR : ∀ a' w', Sc (pl (fun _ => none)) Lit.l00 277 envR A rA (grow ft w w') a' w' → Kp (fr ft w) w w' → Q .ret a' w') : rest3.wp Tryz.prog Q a w := by
  obtain ⟨k1, k2, k3, k4, k5, k6, k7, k8, k9, k10, k11, k12⟩ := id hs
  by_cases t1 : s.gap ≥ s.all - s.since
  · exact q1r_0 hs hk hlk (by omega) (by omega) (by omega) (by omega) h hA hR
  · exact q1d_0 hs hk hlk (by omega) (by omega) (by omega) h hA (fun a' w' h1 h2 => (hN _ a' w' h1 (by constructor <;> dsimp only <;> omega) rfl rfl h2).1)
theorem kind2_0 {s : DT} {x : AC} {k : Nat} (hs : s.ok k) (hk : k ≤ 40) (hlk : s.locked = false) (k0 : x.kind = 2) {A : Value} {rA : Option Nat} {ft : Nat → Prop} {a : Act} {w : World} (h : Sc (pl (ρU s x)) (lUof s.locked) 277 envU A rA ft a w) (hA : sliceA A) {Q : Exit → Act → World → Prop}
    (hN : ∀ (s' : DT) (a' : Act) (w' : World), Sc (pl (ρT s')) (lTof s'.locked) 277 envT A rA (grow ft w w') a' w' → s'.ok (k + 1) → s'.idx = s.idx → s'.locked = s.locked → Kp (fr ft w) w w' → Q .normal a' w' ∧ Q (.exit 1) a' w')
    (hR : ∀ a' w', Sc (pl (fun _ => none)) Lit.l00 277 envR A rA (grow ft w w') a' w' → Kp (fr ft w) w w' → Q .ret a' w') : rest3.wp Tryz.prog Q a w := by
  obtain ⟨k1, k2, k3, k4, k5, k6, k7, k8, k9, k10, k11, k12⟩ := id hs
  by_cases t1 : s.gap ≥ s.all - s.since
  · exact q2r_0 hs hk hlk (by omega) (by omega) (by omega) (by omega) (by omega) h hA hR
  · by_cases ha : s.armed = true
    · by_cases e1 : s.since + s.gap < s.shut
      · by_cases z1 : (s.sec + ((s.gap / 10) + ((s.rest + (s.gap % 10)) / 10))) = 0 ∧ ((s.rest + (s.gap % 10)) % 10) = 0
        · exact q2a_0 hs hk hlk (by omega) (by omega) (by omega) (by omega) ha (by omega) (by omega) h hA hR
        · exact q2b_0 hs hk hlk (by omega) (by omega) (by omega) (by omega) ha (by omega) (by omega) h hA hR
      · exact q2f_0 hs hk hlk (by omega) (by omega) (by omega) (by omega) ha (by omega) h hA (fun a' w' h1 h2 => (hN _ a' w' h1 (by constructor <;> dsimp only <;> omega) rfl rfl h2).1)
    · rw [Bool.not_eq_true] at ha
      by_cases e1 : s.since + s.gap < s.shut
      · by_cases z1 : (s.sec + ((s.gap / 10) + ((s.rest + (s.gap % 10)) / 10))) = 0 ∧ ((s.rest + (s.gap % 10)) % 10) = 0
        · exact q2e_0 hs hk hlk (by omega) (by omega) (by omega) (by omega) ha (by omega) (by omega) h hA hR
        · exact q2d_0 hs hk hlk (by omega) (by omega) (by omega) (by omega) ha (by omega) (by omega) h hA hR
      · exact q2c_0 hs hk hlk (by omega) (by omega) (by omega) (by omega) ha (by omega) h hA (fun a' w' h1 h2 => (hN _ a' w' h1 (by constructor <;> dsimp only <;> omega) rfl rfl h2).1)
theorem kind3_0 {s : DT} {x : AC} {k : Nat} (hs : s.ok k) (hk : k ≤ 40) (hlk : s.locked = false) (k0 : x.kind = 3) {A : Value} {rA : Option Nat} {ft : Nat → Prop} {a : Act} {w : World} (h : Sc (pl (ρU s x)) (lUof s.locked) 277 envU A rA ft a w) (hA : sliceA A) {Q : Exit → Act → World → Prop}
    (hN : ∀ (s' : DT) (a' : Act) (w' : World), Sc (pl (ρT s')) (lTof s'.locked) 277 envT A rA (grow ft w w') a' w' → s'.ok (k + 1) → s'.idx = s.idx → s'.locked = s.locked → Kp (fr ft w) w w' → Q .normal a' w' ∧ Q (.exit 1) a' w')
    (hR : ∀ a' w', Sc (pl (fun _ => none)) Lit.l00 277 envR A rA (grow ft w w') a' w' → Kp (fr ft w) w w' → Q .ret a' w') : rest3.wp Tryz.prog Q a w := by
  obtain ⟨k1, k2, k3, k4, k5, k6, k7, k8, k9, k10, k11, k12⟩ := id hs
  by_cases t1 : s.gap ≥ s.all - s.since
  · exact q3r_0 hs hk hlk (by omega) (by omega) (by omega) (by omega) (by omega) (by omega) h hA hR
  · by_cases e1 : s.since + s.gap < s.shut
    · by_cases z1 : (s.sec + ((s.gap / 10) + ((s.rest + (s.gap % 10)) / 10))) = 0 ∧ ((s.rest + (s.gap % 10)) % 10) = 0
      · exact q3b_0 hs hk hlk (by omega) (by omega) (by omega) (by omega) (by omega) (by omega) (by omega) (by omega) (by omega) h hA hR
      · exact q3a_0 hs hk hlk (by omega) (by omega) (by omega) (by omega) (by omega) (by omega) (by omega) (by omega) (by omega) h hA hR
    · exact q3d_0 hs hk hlk (by omega) (by omega) (by omega) (by omega) (by omega) (by omega) (by omega) (by omega) h hA (fun a' w' h1 h2 => (hN _ a' w' h1 (by constructor <;> dsimp only <;> omega) rfl rfl h2).1)
theorem kind4_0 {s : DT} {x : AC} {k : Nat} (hs : s.ok k) (hk : k ≤ 40) (hlk : s.locked = false) (k0 : x.kind = 4) {A : Value} {rA : Option Nat} {ft : Nat → Prop} {a : Act} {w : World} (h : Sc (pl (ρU s x)) (lUof s.locked) 277 envU A rA ft a w) (hA : sliceA A) {Q : Exit → Act → World → Prop}
    (hN : ∀ (s' : DT) (a' : Act) (w' : World), Sc (pl (ρT s')) (lTof s'.locked) 277 envT A rA (grow ft w w') a' w' → s'.ok (k + 1) → s'.idx = s.idx → s'.locked = s.locked → Kp (fr ft w) w w' → Q .normal a' w' ∧ Q (.exit 1) a' w')
    (hR : ∀ a' w', Sc (pl (fun _ => none)) Lit.l00 277 envR A rA (grow ft w w') a' w' → Kp (fr ft w) w w' → Q .ret a' w') : rest3.wp Tryz.prog Q a w := by
  obtain ⟨k1, k2, k3, k4, k5, k6, k7, k8, k9, k10, k11, k12⟩ := id hs
  exact t4_0 hs hk hlk (by omega) (by omega) (by omega) (by omega) (by omega) h hA (fun a' w' h1 h2 => (hN _ a' w' h1 (by constructor <;> dsimp only <;> omega) rfl rfl h2).2)
theorem kind5_0 {s : DT} {x : AC} {k : Nat} (hs : s.ok k) (hk : k ≤ 40) (hlk : s.locked = false) (k0 : x.kind ≠ 0 ∧ x.kind ≠ 1 ∧ x.kind ≠ 2 ∧ x.kind ≠ 3 ∧ x.kind ≠ 4) {A : Value} {rA : Option Nat} {ft : Nat → Prop} {a : Act} {w : World} (h : Sc (pl (ρU s x)) (lUof s.locked) 277 envU A rA ft a w) (hA : sliceA A) {Q : Exit → Act → World → Prop}
    (hN : ∀ (s' : DT) (a' : Act) (w' : World), Sc (pl (ρT s')) (lTof s'.locked) 277 envT A rA (grow ft w w') a' w' → s'.ok (k + 1) → s'.idx = s.idx → s'.locked = s.locked → Kp (fr ft w) w w' → Q .normal a' w' ∧ Q (.exit 1) a' w')
    (hR : ∀ a' w', Sc (pl (fun _ => none)) Lit.l00 277 envR A rA (grow ft w w') a' w' → Kp (fr ft w) w w' → Q .ret a' w') : rest3.wp Tryz.prog Q a w := by
  obtain ⟨k1, k2, k3, k4, k5, k6, k7, k8, k9, k10, k11, k12⟩ := id hs
  by_cases t1 : x.d % 700 ≥ s.all - s.since
  · exact tr_0 hs hk hlk (by omega) (by omega) (by omega) (by omega) (by omega) (by omega) (by omega) h hA hR
  · exact t5_0 hs hk hlk (by omega) (by omega) (by omega) (by omega) (by omega) (by omega) h hA (fun a' w' h1 h2 => (hN _ a' w' h1 (by constructor <;> dsimp only <;> omega) rfl rfl h2).1)
theorem kind0_1 {s : DT} {x : AC} {k : Nat} (hs : s.ok k) (hk : k ≤ 40) (hlk : s.locked = true) (k0 : x.kind = 0) {A : Value} {rA : Option Nat} {ft : Nat → Prop} {a : Act} {w : World} (h : Sc (pl (ρU s x)) (lUof s.locked) 277 envU A rA ft a w) (hA : sliceA A) {Q : Exit → Act → World → Prop}
    (hN : ∀ (s' : DT) (a' : Act) (w' : World), Sc (pl (ρT s')) (lTof s'.locked) 277 envT A rA (grow ft w w') a' w' → s'.ok (k + 1) → s'.idx = s.idx → s'.locked = s.locked → Kp (fr ft w) w w' → Q .normal a' w' ∧ Q (.exit 1) a' w')
    (hR : ∀ a' w', Sc (pl (fun _ => none)) Lit.l00 277 envR A rA (grow ft w w') a' w' → Kp (fr ft w) w w' → Q .ret a' w') : rest3.wp Tryz.prog Q a w := by
  obtain ⟨k1, k2, k3, k4, k5, k6, k7, k8, k9, k10, k11, k12⟩ := id hs
  by_cases t1 : s.gap ≥ s.all - s.since
  · exact q0a_1 hs hk hlk (by omega) (by omega) (by omega) h hA hR
  · by_cases t2 : s.gap ≥ s.all - (s.since + s.gap)
    · exact q0b_1 hs hk hlk (by omega) (by omega) (by omega) (by omega) h hA hR
    · by_cases e1 : (s.since + s.gap) + s.gap < s.shut
      · by_cases z1 : ((s.sec + ((s.gap / 10) + ((s.rest + (s.gap % 10)) / 10))) + ((s.gap / 10) + ((((s.rest + (s.gap % 10)) % 10) + (s.gap % 10)) / 10))) = 0 ∧ ((((s.rest + (s.gap % 10)) % 10) + (s.gap % 10)) % 10) = 0
        · exact q0f_1 hs hk hlk (by omega) (by omega) (by omega) (by omega) (by omega) h hA hR
        · exact q0e_1 hs hk hlk (by omega) (by omega) (by omega) (by omega) (by omega) h hA hR
      · exact q0d_1 hs hk hlk (by omega) (by omega) (by omega) (by omega) h hA (fun a' w' h1 h2 => (hN _ a' w' h1 (by constructor <;> dsimp only <;> omega) rfl rfl h2).1)
theorem kind1_1 {s : DT} {x : AC} {k : Nat} (hs : s.ok k) (hk : k ≤ 40) (hlk : s.locked = true) (k0 : x.kind = 1) {A : Value} {rA : Option Nat} {ft : Nat → Prop} {a : Act} {w : World} (h : Sc (pl (ρU s x)) (lUof s.locked) 277 envU A rA ft a w) (hA : sliceA A) {Q : Exit → Act → World → Prop}
    (hN : ∀ (s' : DT) (a' : Act) (w' : World), Sc (pl (ρT s')) (lTof s'.locked) 277 envT A rA (grow ft w w') a' w' → s'.ok (k + 1) → s'.idx = s.idx → s'.locked = s.locked → Kp (fr ft w) w w' → Q .normal a' w' ∧ Q (.exit 1) a' w')
    (hR : ∀ a' w', Sc (pl (fun _ => none)) Lit.l00 277 envR A rA (grow ft w w') a' w' → Kp (fr ft w) w w' → Q .ret a' w') : rest3.wp Tryz.prog Q a w := by
  obtain ⟨k1, k2, k3, k4, k5, k6, k7, k8, k9, k10, k11, k12⟩ := id hs
  by_cases t1 : s.gap ≥ s.all - s.since
  · exact q1r_1 hs hk hlk (by omega) (by omega) (by omega) (by omega) h hA hR
  · exact q1d_1 hs hk hlk (by omega) (by omega) (by omega) h hA (fun a' w' h1 h2 => (hN _ a' w' h1 (by constructor <;> dsimp only <;> omega) rfl rfl h2).1)
theorem kind2_1 {s : DT} {x : AC} {k : Nat} (hs : s.ok k) (hk : k ≤ 40) (hlk : s.locked = true) (k0 : x.kind = 2) {A : Value} {rA : Option Nat} {ft : Nat → Prop} {a : Act} {w : World} (h : Sc (pl (ρU s x)) (lUof s.locked) 277 envU A rA ft a w) (hA : sliceA A) {Q : Exit → Act → World → Prop}
    (hN : ∀ (s' : DT) (a' : Act) (w' : World), Sc (pl (ρT s')) (lTof s'.locked) 277 envT A rA (grow ft w w') a' w' → s'.ok (k + 1) → s'.idx = s.idx → s'.locked = s.locked → Kp (fr ft w) w w' → Q .normal a' w' ∧ Q (.exit 1) a' w')
    (hR : ∀ a' w', Sc (pl (fun _ => none)) Lit.l00 277 envR A rA (grow ft w w') a' w' → Kp (fr ft w) w w' → Q .ret a' w') : rest3.wp Tryz.prog Q a w := by
  obtain ⟨k1, k2, k3, k4, k5, k6, k7, k8, k9, k10, k11, k12⟩ := id hs
  by_cases t1 : s.gap ≥ s.all - s.since
  · exact q2r_1 hs hk hlk (by omega) (by omega) (by omega) (by omega) (by omega) h hA hR
  · by_cases ha : s.armed = true
    · by_cases e1 : s.since + s.gap < s.shut
      · by_cases z1 : (s.sec + ((s.gap / 10) + ((s.rest + (s.gap % 10)) / 10))) = 0 ∧ ((s.rest + (s.gap % 10)) % 10) = 0
        · exact q2a_1 hs hk hlk (by omega) (by omega) (by omega) (by omega) ha (by omega) (by omega) h hA hR
        · exact q2b_1 hs hk hlk (by omega) (by omega) (by omega) (by omega) ha (by omega) (by omega) h hA hR
      · exact q2f_1 hs hk hlk (by omega) (by omega) (by omega) (by omega) ha (by omega) h hA (fun a' w' h1 h2 => (hN _ a' w' h1 (by constructor <;> dsimp only <;> omega) rfl rfl h2).1)
    · rw [Bool.not_eq_true] at ha
      by_cases e1 : s.since + s.gap < s.shut
      · by_cases z1 : (s.sec + ((s.gap / 10) + ((s.rest + (s.gap % 10)) / 10))) = 0 ∧ ((s.rest + (s.gap % 10)) % 10) = 0
        · exact q2e_1 hs hk hlk (by omega) (by omega) (by omega) (by omega) ha (by omega) (by omega) h hA hR
        · exact q2d_1 hs hk hlk (by omega) (by omega) (by omega) (by omega) ha (by omega) (by omega) h hA hR
      · exact q2c_1 hs hk hlk (by omega) (by omega) (by omega) (by omega) ha (by omega) h hA (fun a' w' h1 h2 => (hN _ a' w' h1 (by constructor <;> dsimp only <;> omega) rfl rfl h2).1)
theorem kind3_1 {s : DT} {x : AC} {k : Nat} (hs : s.ok k) (hk : k ≤ 40) (hlk : s.locked = true) (k0 : x.kind = 3) {A : Value} {rA : Option Nat} {ft : Nat → Prop} {a : Act} {w : World} (h : Sc (pl (ρU s x)) (lUof s.locked) 277 envU A rA ft a w) (hA : sliceA A) {Q : Exit → Act → World → Prop}
    (hN : ∀ (s' : DT) (a' : Act) (w' : World), Sc (pl (ρT s')) (lTof s'.locked) 277 envT A rA (grow ft w w') a' w' → s'.ok (k + 1) → s'.idx = s.idx → s'.locked = s.locked → Kp (fr ft w) w w' → Q .normal a' w' ∧ Q (.exit 1) a' w')
    (hR : ∀ a' w', Sc (pl (fun _ => none)) Lit.l00 277 envR A rA (grow ft w w') a' w' → Kp (fr ft w) w w' → Q .ret a' w') : rest3.wp Tryz.prog Q a w := by
  obtain ⟨k1, k2, k3, k4, k5, k6, k7, k8, k9, k10, k11, k12⟩ := id hs
  by_cases t1 : s.gap ≥ s.all - s.since
  · exact q3r_1 hs hk hlk (by omega) (by omega) (by omega) (by omega) (by omega) (by omega) h hA hR
  · by_cases e1 : s.since + s.gap < s.shut
    · by_cases z1 : (s.sec + ((s.gap / 10) + ((s.rest + (s.gap % 10)) / 10))) = 0 ∧ ((s.rest + (s.gap % 10)) % 10) = 0
      · exact q3b_1 hs hk hlk (by omega) (by omega) (by omega) (by omega) (by omega) (by omega) (by omega) (by omega) (by omega) h hA hR
      · exact q3a_1 hs hk hlk (by omega) (by omega) (by omega) (by omega) (by omega) (by omega) (by omega) (by omega) (by omega) h hA hR
    · exact q3d_1 hs hk hlk (by omega) (by omega) (by omega) (by omega) (by omega) (by omega) (by omega) (by omega) h hA (fun a' w' h1 h2 => (hN _ a' w' h1 (by constructor <;> dsimp only <;> omega) rfl rfl h2).1)
theorem kind4_1 {s : DT} {x : AC} {k : Nat} (hs : s.ok k) (hk : k ≤ 40) (hlk : s.locked = true) (k0 : x.kind = 4) {A : Value} {rA : Option Nat} {ft : Nat → Prop} {a : Act} {w : World} (h : Sc (pl (ρU s x)) (lUof s.locked) 277 envU A rA ft a w) (hA : sliceA A) {Q : Exit → Act → World → Prop}
    (hN : ∀ (s' : DT) (a' : Act) (w' : World), Sc (pl (ρT s')) (lTof s'.locked) 277 envT A rA (grow ft w w') a' w' → s'.ok (k + 1) → s'.idx = s.idx → s'.locked = s.locked → Kp (fr ft w) w w' → Q .normal a' w' ∧ Q (.exit 1) a' w')
    (hR : ∀ a' w', Sc (pl (fun _ => none)) Lit.l00 277 envR A rA (grow ft w w') a' w' → Kp (fr ft w) w w' → Q .ret a' w') : rest3.wp Tryz.prog Q a w := by
  obtain ⟨k1, k2, k3, k4, k5, k6, k7, k8, k9, k10, k11, k12⟩ := id hs
  exact t4_1 hs hk hlk (by omega) (by omega) (by omega) (by omega) (by omega) h hA (fun a' w' h1 h2 => (hN _ a' w' h1 (by constructor <;> dsimp only <;> omega) rfl rfl h2).2)
theorem kind5_1 {s : DT} {x : AC} {k : Nat} (hs : s.ok k) (hk : k ≤ 40) (hlk : s.locked = true) (k0 : x.kind ≠ 0 ∧ x.kind ≠ 1 ∧ x.kind ≠ 2 ∧ x.kind ≠ 3 ∧ x.kind ≠ 4) {A : Value} {rA : Option Nat} {ft : Nat → Prop} {a : Act} {w : World} (h : Sc (pl (ρU s x)) (lUof s.locked) 277 envU A rA ft a w) (hA : sliceA A) {Q : Exit → Act → World → Prop}
    (hN : ∀ (s' : DT) (a' : Act) (w' : World), Sc (pl (ρT s')) (lTof s'.locked) 277 envT A rA (grow ft w w') a' w' → s'.ok (k + 1) → s'.idx = s.idx → s'.locked = s.locked → Kp (fr ft w) w w' → Q .normal a' w' ∧ Q (.exit 1) a' w')
    (hR : ∀ a' w', Sc (pl (fun _ => none)) Lit.l00 277 envR A rA (grow ft w w') a' w' → Kp (fr ft w) w w' → Q .ret a' w') : rest3.wp Tryz.prog Q a w := by
  obtain ⟨k1, k2, k3, k4, k5, k6, k7, k8, k9, k10, k11, k12⟩ := id hs
  by_cases t1 : x.d % 700 ≥ s.all - s.since
  · exact tr_1 hs hk hlk (by omega) (by omega) (by omega) (by omega) (by omega) (by omega) (by omega) h hA hR
  · exact t5_1 hs hk hlk (by omega) (by omega) (by omega) (by omega) (by omega) (by omega) h hA (fun a' w' h1 h2 => (hN _ a' w' h1 (by constructor <;> dsimp only <;> omega) rfl rfl h2).1)
theorem rest_go {s : DT} {x : AC} {k : Nat} (hs : s.ok k) (hk : k ≤ 40) {A : Value} {rA : Option Nat} {ft : Nat → Prop} {a : Act} {w : World} (h : Sc (pl (ρU s x)) (lUof s.locked) 277 envU A rA ft a w) (hA : sliceA A) {Q : Exit → Act → World → Prop}
    (hN : ∀ (s' : DT) (a' : Act) (w' : World), Sc (pl (ρT s')) (lTof s'.locked) 277 envT A rA (grow ft w w') a' w' → s'.ok (k + 1) → s'.idx = s.idx → s'.locked = s.locked → Kp (fr ft w) w w' → Q .normal a' w' ∧ Q (.exit 1) a' w')
    (hR : ∀ a' w', Sc (pl (fun _ => none)) Lit.l00 277 envR A rA (grow ft w w') a' w' → Kp (fr ft w) w w' → Q .ret a' w') : rest3.wp Tryz.prog Q a w := by
  cases hlk : s.locked with
  | false =>
    by_cases k0 : x.kind = 0
    · exact kind0_0 hs hk hlk k0 h hA hN hR
    by_cases k1 : x.kind = 1
    · exact kind1_0 hs hk hlk k1 h hA hN hR
    by_cases k2 : x.kind = 2
    · exact kind2_0 hs hk hlk k2 h hA hN hR
    by_cases k3 : x.kind = 3
    · exact kind3_0 hs hk hlk k3 h hA hN hR
    by_cases k4 : x.kind = 4
    · exact kind4_0 hs hk hlk k4 h hA hN hR
    exact kind5_0 hs hk hlk ⟨k0, k1, k2, k3, k4⟩ h hA hN hR
  | true =>
    by_cases k0 : x.kind = 0
    · exact kind0_1 hs hk hlk k0 h hA hN hR
    by_cases k1 : x.kind = 1
    · exact kind1_1 hs hk hlk k1 h hA hN hR
    by_cases k2 : x.kind = 2
    · exact kind2_1 hs hk hlk k2 h hA hN hR
    by_cases k3 : x.kind = 3
    · exact kind3_1 hs hk hlk k3 h hA hN hR
    by_cases k4 : x.kind = 4
    · exact kind4_1 hs hk hlk k4 h hA hN hR
    exact kind5_1 hs hk hlk ⟨k0, k1, k2, k3, k4⟩ h hA hN hR
end Go.Proofs.YtkndlfdpmpdihaaGreatDoor
namespace Go.Proofs.YtkndlfdpmpdihaaGreatDoor
open Go.RowKit Go.Ev
set_option linter.unusedVariables false
set_option linter.unusedSimpArgs false
set_option maxRecDepth 1000000
theorem look_mem {l : List (Nat × Value)} {t : Nat} {v : Value} (h : Ev.look l t = some v) : t ∈ l.map Prod.fst := by
  induction l with
  | nil => cases h
  | cons x l ih =>
    obtain ⟨k, u⟩ := x
    unfold Ev.look at h
    cases hk : Nat.beq k t with
    | true => rw [Nat.eq_of_beq_eq_true hk]; simp
    | false => rw [hk] at h; simp only [List.map_cons, List.mem_cons]; exact .inr (ih h)
theorem envT_keep {A v : Value} {t : Nat} (h : Ev.look ((4, A) :: envT) t = some v) : t ∈ keepS := by
  have h1 := look_mem h
  have h2 : ((4, A) :: envT).map Prod.fst = [4, 0, 1, 3, 11, 13, 15, 16, 17, 18, 19, 20, 21] := rfl
  rw [h2] at h1
  simp only [List.mem_cons, List.not_mem_nil, or_false, keepS] at h1 ⊢
  omega
/-- What does not touch the temporaries that outlive a round. -/
theorem Sc.keepA {G : Gl} {l : List Obj} {A : Value} {rA : Option Nat} {ft : Nat → Prop} {a a' : Act} {w : World} (h : Sc G l 277 envT A rA ft a w) (hs : a'.tmps.size = 277) (hd : a'.defers = []) (hk : ∀ t ∈ keepS, a'.tmps.getD t undef = a.tmps.getD t undef) : Sc G l 277 envT A rA ft a' w := by
  obtain ⟨τ, hst, henv, hra⟩ := h
  exact ⟨τ, hst, ⟨fun t v hv => by rw [hk t (envT_keep hv)]; exact henv.tmps t v hv, hs, hd⟩, hra⟩
def Aof (p : Option Addr) (len cap : Nat) : Value := match p with
  | none => .slice none len cap
  | some ⟨_, so, _⟩ => .slice (some ⟨8, so, none⟩) len cap
def rof (p : Option Addr) : Option Nat := match p with
  | none => none
  | some ⟨sb, _, _⟩ => some sb
def spotless (p : Option Addr) : Prop := ∀ x, p = some x → x.spot = none
theorem Aof_slice (p : Option Addr) (len cap : Nat) : sliceA (Aof p len cap) := by
  cases p with
  | none => exact .inl ⟨_, _, rfl⟩
  | some x => exact .inr ⟨_, _, _, rfl⟩
theorem Sc.slice {G : Gl} {l : List Obj} {m : Nat} {e : List (Nat × Value)} {p : Option Addr} (hp : spotless p) {len cap : Nat} {ft : Nat → Prop} {a : Act} {w : World} (h : Sc G l m e (Aof p len cap) (rof p) ft a w) : a.tmps.getD 4 undef = .slice p len cap := by
  obtain ⟨τ, hst, henv, hra⟩ := h
  have hv := henv.tmps 4 (Aof p len cap) rfl
  cases p with
  | none =>
    generalize a.tmps.getD 4 undef = v at hv
    cases hv
    rfl
  | some x =>
    obtain ⟨sb, so, sp⟩ := x
    have hsp : sp = none := hp _ rfl
    subst hsp
    have hr := hra sb rfl
    generalize a.tmps.getD 4 undef = v at hv
    obtain ⟨H, hR, hw⟩ := hst.wt
    cases hv with
    | sl k r o l c c' i ht hc =>
      obtain ⟨rfl, rfl⟩ := hw.fn _ _ _ _ _ hr ht
      have : cap = c' := hc
      subst this
      rfl
theorem Sc.nat {l : List Obj} {m : Nat} {e : List (Nat × Value)} {A : Value} {rA : Option Nat} {ρ : Nat → Option Value} {ft : Nat → Prop} {a : Act} {w : World} (h : Sc (pl ρ) l m e A rA ft a w) {t i : Nat} {k : IntKind} {n : Int} (ht : Ev.look ((4, A) :: e) t = some (sy k i)) (hr : ρ i = some (.int k n)) : a.tmps.getD t undef = .int k n := by
  obtain ⟨τ, hst, henv, hra⟩ := h
  have hs : τ.s = symS ρ := by obtain ⟨H, _, hw⟩ := hst.wt; exact hw.sy
  exact vr_val (henv.tmps t _ ht) hs (Da.giv hr) rfl
theorem act_eta2 {a : Act} (hs : a.tmps.size = 277) (hd : a.defers = []) : a = ⟨⟨(List.range 277).map fun t => a.tmps.getD t undef⟩, []⟩ := by
  obtain ⟨tm, ds⟩ := a
  simp only at hs hd
  subst hd
  have := row_of tm 277 hs
  show Act.mk tm [] = Act.mk _ []
  congr
def actO : Obj := .cells #[sy .i64 21, sy .u64 22, sy .u64 23, sy .i64 24] 39 (0, 0)
theorem lU_eq (lk : Bool) : lUof lk = lTof lk ++ [actO] := by cases lk <;> rfl
theorem lT_noOld (lk : Bool) : noOld 8 (lTof lk) = true := by cases lk <;> decide
theorem lT_length (lk : Bool) : (lTof lk).length = 23 := by cases lk <;> rfl
/-- The act of a round is one of the small world's blocks. -/
theorem Sc.act {s : DT} {x : AC} {A : Value} {rA : Option Nat} {ft : Nat → Prop} {a a' : Act} {w w' : World} (h : Sc (pl (ρT s)) (lTof s.locked) 277 envT A rA ft a w) (hs : a'.tmps.size = 277) (hd : a'.defers = []) (hk : ∀ t ∈ keepS, a'.tmps.getD t undef = a.tmps.getD t undef)
    (h22 : a'.tmps.getD 22 undef = .pointer (some ⟨w.heap.size, 0, none⟩)) (hsz : w'.heap.size = w.heap.size + 1) (hb : Below w.heap.size w w') (hn : w'.heap[w.heap.size]? = some (.cells #[.int .i64 x.kind, .int .u64 x.d, .int .u64 x.p, .int .i64 x.of] 39 (0, 0))) :
    Sc (pl (ρU s x)) (lUof s.locked) 277 envU A rA (fun r => ft r ∨ r = w.heap.size) a' w' := by
  have h := h.keepA hs hd hk
  obtain ⟨τ, hst, henv, hra⟩ := h
  have h1 : St (pl (ρU s x)) (lTof s.locked) ⟨τ.r, symS (ρU s x)⟩ ft w := hst.wider (G := pl (ρT s)) (G' := pl (ρU s x)) rfl (fun e v q => symS_wider (ρU_T s x) q)
  have hle0 : τ.le ⟨τ.r, symS (ρU s x)⟩ := ⟨fun _ _ _ q => q, fun e v q => by
    have hs : τ.s = symS (ρT s) := by obtain ⟨H, _, hw⟩ := hst.wt; exact hw.sy
    rw [hs] at q; exact symS_wider (ρU_T s x) q⟩
  have hor : OR (⟨τ.r, symS (ρU s x)⟩ : Rel) none actO (.cells #[.int .i64 x.kind, .int .u64 x.d, .int .u64 x.p, .int .i64 x.of] 39 (0, 0)) := by
    refine .cells _ _ _ ((((AR.one ?_).push ?_).push ?_).push ?_)
    · exact .sym _ _ _ _ ((Da.giv (k := .i64) (i := 21) (n := x.kind) rfl).sym rfl) rfl
    · exact .sym _ _ _ _ ((Da.giv (k := .u64) (i := 22) (n := (x.d : Int)) rfl).sym rfl) rfl
    · exact .sym _ _ _ _ ((Da.giv (k := .u64) (i := 23) (n := (x.p : Int)) rfl).sym rfl) rfl
    · exact .sym _ _ _ _ ((Da.giv (k := .i64) (i := 24) (n := x.of) rfl).sym rfl) rfl
  obtain ⟨τ', hle, hτ, hst'⟩ := St.add (o := actO) (by rw [lT_length]; omega) (lT_noOld _) h1 (by omega) (fun r hr => hb.block r hr) hn hor
  rw [lT_length] at hτ
  refine ⟨τ', by rw [lU_eq]; exact hst', ⟨fun t v hv => ?_, hs, hd⟩, fun r hr => hle.r _ _ _ (hra r hr)⟩
  by_cases h2 : t = 22
  · subst h2
    have : v = P_ 23 := by
      have : Ev.look ((4, A) :: envU) 22 = some (P_ 23) := rfl
      rw [this] at hv
      exact (Option.some.inj hv).symm
    subst this
    rw [h22]
    exact .ptr _ _ _ _ hτ
  · have hv2 : Ev.look ((4, A) :: envT) t = some v := by
      have hsplit : ((4, A) :: envU) = ((4, A) :: envT) ++ [(22, P_ 23)] := rfl
      rw [hsplit] at hv
      generalize ((4, A) :: envT) = l at hv ⊢
      induction l with
      | nil =>
        exfalso
        simp only [List.nil_append, Ev.look] at hv
        have : Nat.beq 22 t = false := by
          cases hq : Nat.beq 22 t with
          | false => rfl
          | true => exact absurd (Nat.eq_of_beq_eq_true hq).symm h2
        rw [this] at hv
        cases hv
      | cons y l ih =>
        obtain ⟨k, u⟩ := y
        simp only [List.cons_append, Ev.look] at hv ⊢
        cases hq : Nat.beq k t with
        | true => rw [hq] at hv; exact hv
        | false => rw [hq] at hv; exact ih hv
    exact (henv.tmps t v hv2).mono (hle0.trans hle)
/-- What holds ahead of round k. -/
def Inv (W : World) (p : Option Addr) (len cap : Nat) (k : Nat) (a : Act) (w : World) : Prop :=
  ∃ (s : DT) (ft : Nat → Prop), s.ok k ∧ s.idx = k ∧ k ≤ 40 ∧ k ≤ len ∧ Sc (pl (ρT s)) (lTof s.locked) 277 envT (Aof p len cap) (rof p) ft a w ∧ (∀ r, ft r → W.heap.size ≤ r) ∧ Below W.heap.size W w
theorem below_of_kp {n : Nat} {ft : Nat → Prop} {w w' : World} (h : Kp (fr ft w) w w') (hn : n ≤ w.heap.size) (hft : ∀ r, ft r → n ≤ r) : Below n w w' :=
  ⟨h.os, h.tape, h.output, h.size, fun j hj => kp_keep h (by omega) (fun hq => by have := hft j hq; omega)⟩
theorem grow_ft {n : Nat} {ft : Nat → Prop} {w w' : World} (hn : n ≤ w.heap.size) (hft : ∀ r, ft r → n ≤ r) : ∀ r, grow ft w w' r → n ≤ r := by
  rintro r (h | h)
  · exact hft r h
  · omega
theorem inBlock_exit {id : Nat} {Q : Exit → Act → World → Prop} {a : Act} {w : World} (h : Q .normal a w) : Exit.inBlock id Q (.exit id) a w := by
  show (if id = id then Q .normal a w else Q (.exit id) a w)
  rw [if_pos rfl]
  exact h
theorem rounds_go {W : World} {p : Option Addr} (hp : spotless p) {len cap : Nat} (hacts : Acts W p len) {Q : Exit → Act → World → Prop}
    (hX : ∀ a w (s : DT) (ft : Nat → Prop), Sc (pl (ρT s)) (lTof s.locked) 277 envT (Aof p len cap) (rof p) ft a w → (∀ r, ft r → W.heap.size ≤ r) → Below W.heap.size W w → Q (.exit 0) a w)
    (hR : ∀ a w, a.tmps.getD 10 undef = .bool true → a.defers = [] → a.tmps.size = 277 → Below W.heap.size W w → Q .ret a w) :
    ∀ (n k : Nat) (a : Act) (w : World), k + n = 41 → Inv W p len cap k a w → Code.rounds Tryz.prog round3 Q n a w := by
  intro n
  induction n with
  | zero =>
    rintro k a w hkn ⟨s, ft, _, _, hk, _⟩
    omega
  | succ n ih =>
    rintro k a w hkn ⟨s, ft, hok, hidx, hk, hkl, hsc, hft, hbel⟩
    rw [rounds_succ, round3_eq]
    refine wp_seq ?_
    have h4 := hsc.slice hp
    have h21 : a.tmps.getD 21 undef = .int .i64 ((k : Nat) : Int) := by
      have := hsc.nat (t := 21) (i := 16) (k := .i64) (n := ((s.idx : Nat) : Int)) rfl rfl
      rw [hidx] at this
      exact this
    have hsz : a.tmps.size = 277 := by obtain ⟨τ, _, henv, _⟩ := hsc; exact henv.size
    have hdf : a.defers = [] := by obtain ⟨τ, _, henv, _⟩ := hsc; exact henv.d'
    rw [act_eta2 hsz hdf]
    refine head_go h4 h21 ?_ ?_
    · intro hkl' hk40 a1 hs1 hd1 hk1
      have hsc1 : Sc (pl (ρT s)) (lTof s.locked) 277 envT (Aof p len cap) (rof p) ft a1 w := hsc.keepA hs1 hd1 hk1
      refine wp_seq (wp_block (wp_seq ?_))
      obtain ⟨sb, so, x, hpx, hat⟩ := hacts k hkl'
      have hlt := hat.lt
      have hat' : ActAt w sb (so + k * 4) x := hat.below hbel hlt
      have h4' := hsc1.slice hp
      have h21' : a1.tmps.getD 21 undef = .int .i64 ((k : Nat) : Int) := by rw [hk1 21 (by simp [keepS])]; exact h21
      rw [hpx] at h4'
      rw [act_eta2 hs1 hd1]
      refine r14_go h4' h21' hkl' hat' ?_
      intro a2 w2 hs2 hd2 hk2 h22 hsz2 hb2 hn2
      have hsc2 := hsc1.act (x := x) hs2 hd2 hk2 h22 hsz2 hb2 hn2
      have hws := hbel.size
      have hbel2 : Below W.heap.size W w2 := hbel.trans ⟨hb2.os, hb2.tape, hb2.output, hb2.size, fun j hj => hb2.block j (Nat.lt_of_lt_of_le hj hws)⟩
      have hft2 : ∀ r, (ft r ∨ r = w.heap.size) → W.heap.size ≤ r := by
        rintro r (h | rfl)
        · exact hft r h
        · exact hws
      refine rest_go hok hk hsc2 (Aof_slice p len cap) ?_ ?_
      · intro s' a3 w3 hsc3 hok3 hidx3 hlk3 hkp3
        have hb3 : Below W.heap.size W w3 := hbel2.trans (below_of_kp hkp3 hbel2.size hft2)
        have hft3 := grow_ft (w' := w3) hbel2.size hft2
        have key : r13.wp Tryz.prog (Exit.then (Code.rounds Tryz.prog round3 Q n) Q) a3 w3 := by
          refine r13_go (s := s') (by omega) hsc3 (Aof_slice p len cap) ?_
          intro a4 w4 hsc4 hkp4
          refine ih (k + 1) a4 w4 (by omega) ⟨{ s' with idx := s'.idx + 1 }, _, ?_, ?_, by omega, by omega, hsc4, grow_ft hb3.size hft3, hb3.trans (below_of_kp hkp4 hb3.size hft3)⟩
          · obtain ⟨k1, k2, k3, k4, k5, k6, k7, k8, k9, k10, k11, k12⟩ := hok3
            exact ⟨k1, k2, k3, k4, k5, k6, k7, k8, k9, k10, k11, by dsimp only; omega⟩
          · show s'.idx + 1 = k + 1
            omega
        exact ⟨key, inBlock_exit key⟩
      · intro a3 w3 hsc3 hkp3
        show Q .ret a3 w3
        obtain ⟨τ, hst, henv, _⟩ := hsc3
        have hv := henv.tmps 10 (.bool true) rfl
        refine hR a3 w3 ?_ henv.d' henv.size (hbel2.trans (below_of_kp hkp3 hbel2.size hft2))
        generalize a3.tmps.getD 10 undef = v at hv
        cases hv
        rfl
    · intro a1 hs1 hd1 hk1
      exact hX a1 w s ft (hsc.keepA hs1 hd1 hk1) hft hbel
end Go.Proofs.YtkndlfdpmpdihaaGreatDoor
namespace Go.Proofs.YtkndlfdpmpdihaaGreatDoor
open Go.RowKit Go.Ev
set_option linter.unusedVariables false
set_option linter.unusedSimpArgs false
set_option maxRecDepth 1000000
/-- A block that is given up may lie anywhere. -/
theorem WR.addDead {G : Gl} {B : FM} {w0 w : World} {τ : Rel} {H : Array Obj} (h : WR G B w0 τ H w) (r : Option Nat) (hr : ∀ x, r = some x → x < w.heap.size) : WR G B w0 ⟨fun k u i => τ.r k u i ∨ (k = H.size ∧ r = some u ∧ i = none), τ.s⟩ (H.push dead) w := by
  have hle : τ.le (⟨fun k u i => τ.r k u i ∨ (k = H.size ∧ r = some u ∧ i = none), τ.s⟩ : Rel) := ⟨fun k r j x => .inl x, fun _ _ x => x⟩
  have hal : ∀ k, alive (H.push dead) k → alive H k ∧ k < H.size := by
    rintro k ⟨u, hu, hl⟩
    rw [Array.getElem?_push] at hu
    by_cases he : k = H.size
    · rw [if_pos he] at hu; cases hu; cases hl
    · rw [if_neg he] at hu; exact ⟨⟨u, hu, hl⟩, (Array.getElem?_eq_some_iff.1 hu).1⟩
  refine ⟨fun k u hk hu => ?_, ?_, ?_, ?_, fun k u hk => ?_, fun k cs e hk => ?_, fun g hg => .inl (h.glob g hg), h.kp, h.sy⟩
  · rw [Array.getElem?_push] at hk
    by_cases he : k = H.size
    · rw [if_pos he] at hk; cases hk; cases hu
    · rw [if_neg he] at hk
      obtain ⟨r2, j, u', h1, h2, h3⟩ := h.blk k u hk hu
      exact ⟨r2, j, u', .inl h1, h2, h3.mono hle⟩
  · rintro k u j u' j' (h1 | ⟨e1, e2, rfl⟩) (h2 | ⟨e3, e4, rfl⟩)
    · exact h.fn _ _ _ _ _ h1 h2
    · have := (h.dom _ _ _ h1).1; omega
    · have := (h.dom _ _ _ h2).1; omega
    · rw [e2] at e4; exact ⟨Option.some.inj e4, rfl⟩
  · rintro k k' u j j' (h1 | ⟨e1, e2, _⟩) (h2 | ⟨e3, e4, _⟩) l1 l2
    · exact h.inj _ _ _ _ _ h1 h2 (hal _ l1).1 (hal _ l2).1
    · have := (hal _ l2).2; omega
    · have := (hal _ l1).2; omega
    · omega
  · rintro k u j (h1 | ⟨e1, e2, _⟩)
    · have := h.dom _ _ _ h1
      exact ⟨by simp; omega, this.2.1, fun l => this.2.2 (hal _ l).1⟩
    · exact ⟨by simp; omega, hr _ e2, fun l => by have := (hal _ l).2; omega⟩
  · rw [Array.getElem?_push] at hk
    by_cases he : k = H.size
    · rw [if_pos he] at hk; cases hk; exact .inr (.inl rfl)
    · rw [if_neg he] at hk; exact h.ok k u hk
  · rw [Array.getElem?_push] at hk
    by_cases he : k = H.size
    · rw [if_pos he] at hk
      have hk := Option.some.inj hk
      simp only [dead, oldB, Obj.cells.injEq, Prod.mk.injEq] at hk
      omega
    · rw [if_neg he] at hk
      obtain ⟨r2, j, cs', e', f, h1, h2, h3, h4, h5⟩ := h.old k cs e hk
      refine ⟨r2, j, cs', e', f, .inl h1, h2, h3.mono hle, ?_, h5⟩
      rintro k' i' (q | ⟨q, _, _⟩) l
      · exact h4 k' i' q (hal _ l).1
      · have := (hal _ l).2; omega
theorem l00_rep : Rep (fillT Lit.l00) ((⟨g8⟩ : Array Obj).push dead) := by
  have := fillT_rep (l := Lit.l00) (by decide)
  have e : ((⟨g8⟩ : Array Obj).push dead) = ⟨Lit.l00⟩ := by
    apply Array.toList_inj.1
    rfl
  rw [e]
  exact this
/-- How TopDog's fourth temporary may be told. -/
def Told (W : World) (p : Option Addr) (len cap : Nat) (A : Value) (rA : Option Nat) (v : Option Value) : Prop :=
  (A = Aof p len cap ∧ rA = rof p ∧ v = none ∧ spotless p ∧ ∀ x, rof p = some x → x < W.heap.size) ∨ (A = slS ∧ rA = none ∧ v = some (.slice p len cap))
theorem Told.ok {W : World} {p : Option Addr} {len cap : Nat} {A : Value} {rA : Option Nat} {v : Option Value} (h : Told W p len cap A rA v) : tOk A := by
  rcases h with ⟨rfl, _⟩ | ⟨rfl, _⟩
  · exact .inl (Aof_slice _ _ _)
  · exact .inr rfl
theorem Sc.start {W : World} (htabs : Tabs W) {c t g : Nat} {lk : Bool} {p : Option Addr} {len cap : Nat} {A : Value} {rA : Option Nat} {v : Option Value} (hA : Told W p len cap A rA v) {a : Act} (h0 : a.tmps.getD 0 undef = .int .u32 (c : Int)) (h1 : a.tmps.getD 1 undef = .int .u32 (t : Int)) (h2 : a.tmps.getD 2 undef = .bool lk) (h3 : a.tmps.getD 3 undef = .int .u32 (g : Int))
    (h4 : a.tmps.getD 4 undef = .slice p len cap) (hs : a.tmps.size = 277) (hd : a.defers = []) : Sc (pl (ρX (ρP c t g) v)) Lit.l00 277 (envI lk) A rA (fun _ => False) a W := by
  have hB : fr (fun _ => False) W = fun r => W.heap[r]? := funext fun r => fr_of id
  have hw := Tabs.start (G := pl (ρX (ρP c t g) v)) rfl htabs
  have hx : ∀ x, rof p = some x → rA = some x → x < W.heap.size := by
    intro x hx hr
    rcases hA with ⟨_, e, _, _, h⟩ | ⟨_, e, _⟩
    · exact h x hx
    · rw [e] at hr; cases hr
  have hrl : ∀ x, rA = some x → x < W.heap.size := by
    intro x hr
    rcases hA with ⟨_, e, _, _, h⟩ | ⟨_, e, _⟩
    · rw [e] at hr; exact h x hr
    · rw [e] at hr; cases hr
  have hw2 := WR.addDead hw rA hrl
  refine ⟨(⟨fun k r i => (k = r ∧ k < 8 ∧ i = none) ∨ (k = (⟨g8⟩ : Array Obj).size ∧ rA = some r ∧ i = none), (pl (ρX (ρP c t g) v)).s⟩ : Rel), ⟨⟨_, l00_rep, by rw [hB]; exact hw2⟩, fun r _ h => h⟩, ⟨fun k u hk => ?_, hs, hd⟩, fun r hr => Or.inr ⟨rfl, hr, rfl⟩⟩
  have hsym : ∀ (i : Nat) (n : Int), ρX (ρP c t g) v i = some (.int .u32 n) → ∀ τ : Rel, τ.s = symS (ρX (ρP c t g) v) → VR τ (sy .u32 i) (.int .u32 n) := fun i n hi τ hτ => .sym _ _ _ _ (by rw [hτ]; exact (Da.giv hi).sym rfl) rfl
  unfold Ev.look at hk
  cases e4 : Nat.beq 4 k with
  | true =>
    rw [e4] at hk
    cases hk
    rw [← Nat.eq_of_beq_eq_true e4, h4]
    rcases hA with ⟨rfl, rfl, rfl, hsp, _⟩ | ⟨rfl, rfl, rfl⟩
    · cases p with
      | none => exact .sl0 _ _
      | some x =>
        obtain ⟨sb, so, sp⟩ := x
        have : sp = none := hsp _ rfl
        subst this
        exact .sl _ _ _ _ _ _ none (Or.inr ⟨rfl, rfl, rfl⟩) rfl
    · exact .sym _ _ _ _ (den_slS rfl) rfl
  | false =>
    rw [e4] at hk
    have hm := look_mem hk
    have hl : (envI lk).map Prod.fst = [0, 1, 2, 3] := rfl
    rw [hl] at hm
    simp only [List.mem_cons, List.not_mem_nil, or_false] at hm
    rcases hm with rfl | rfl | rfl | rfl
    · have : u = sy .u32 3 := (Option.some.inj hk).symm
      subst this
      rw [h0]; exact hsym 3 _ rfl _ rfl
    · have : u = sy .u32 4 := (Option.some.inj hk).symm
      subst this
      rw [h1]; exact hsym 4 _ rfl _ rfl
    · have : u = .bool lk := (Option.some.inj hk).symm
      subst this
      rw [h2]; exact .bool _
    · have : u = sy .u32 9 := (Option.some.inj hk).symm
      subst this
      rw [h3]; exact hsym 9 _ rfl _ rfl
theorem results3_run {a : Act} {w : World} (h : a.tmps.getD 10 undef = .bool true) : (results Tryz.f3 a.tmps).run Tryz.prog w = .ok (.bool true) w := by
  rw [Array.getD_eq_getD_getElem?] at h
  simp [results, Tryz.results3, go_sem, h]
/-- From the first call on. -/
theorem tail_go {W : World} (htabs : Tabs W) {c t g : Nat} (hc : c < t) (ht : t ≤ 1000) (hg : g < 10) {lk : Bool} {p : Option Addr} {len cap : Nat} (hacts : Acts W p len) {A : Value} {rA : Option Nat} {v : Option Value} (hA : Told W p len cap A rA v) (h25 : v ≠ none → len = 0) {a : Act}
    (hsc : Sc (pl (ρX (ρP c t g) v)) Lit.l00 277 (envI lk) A rA (fun _ => False) a W) {Q : Exit → Act → World → Prop}
    (hR : ∀ a w, a.tmps.getD 10 undef = .bool true → a.defers = [] → a.tmps.size = 277 → Below W.heap.size W w → Q .ret a w) : s4.wp Tryz.prog Q a W := by
  have hft0 : ∀ r : Nat, (fun _ : Nat => False) r → W.heap.size ≤ r := fun r h => h.elim
  have main : ∀ a' w', Sc (pl (ρX (ρT ⟨0, 0, c, t, 0, 0, 6, 0, g, 0, 0, false, lk⟩) v)) (lTof lk) 277 envP A rA (grow (fun _ => False) W w') a' w' → Kp (fr (fun _ => False) W) W w' → s10.wp Tryz.prog Q a' w' := by
    intro a1 w1 hsc1 hkp1
    have hb1 := below_of_kp hkp1 (Nat.le_refl _) hft0
    have hft1 := grow_ft (w' := w1) (Nat.le_refl _) hft0
    rw [s10_eq]
    refine wp_seq (wp_seq ?_)
    refine r11_go (s := ⟨0, 0, c, t, 0, 0, 6, 0, g, 0, 0, false, lk⟩) rfl hsc1 hA.ok ?_
    intro a2 w2 hsc2 hkp2
    have hb2 : Below W.heap.size W w2 := hb1.trans (below_of_kp hkp2 hb1.size hft1)
    have hft2 := grow_ft (w' := w2) hb1.size hft1
    show loop0.wp Tryz.prog (Exit.then (s11.wp Tryz.prog Q) Q) a2 w2
    rw [loop0_eq]
    have hout : ∀ (a : Act) (w : World) (s : DT) (ft : Nat → Prop), Sc (pl (ρX (ρT s) v)) (lTof s.locked) 277 envT A rA ft a w → (∀ r, ft r → W.heap.size ≤ r) → Below W.heap.size W w → s11.wp Tryz.prog Q a w := by
      intro a w s ft hsc hft hbel
      refine s11_go hsc hA.ok ?_
      intro a3 w3 hsc3 hkp3
      obtain ⟨τ, hst, henv, _⟩ := hsc3
      have hv := henv.tmps 10 (.bool true) rfl
      refine hR a3 w3 ?_ henv.d' henv.size (hbel.trans (below_of_kp hkp3 hbel.size hft))
      generalize a3.tmps.getD 10 undef = u at hv
      cases hv
      rfl
    rcases hA with ⟨rfl, rfl, rfl, hsp, _⟩ | ⟨rfl, rfl, hv⟩
    · have hX : ∀ s : DT, ρX (ρT s) none = ρT s := fun s => ρX_none rfl
      rw [hX] at hsc2
      refine wp_block (wp_loop_rounds 41 (rounds_go hsp hacts ?_ ?_ 41 0 a2 w2 rfl ⟨⟨0, 0, c, t, 0, 0, 6, 0, g, 0, 0, false, lk⟩, _, ?_, rfl, by omega, by omega, hsc2, hft2, hb2⟩))
      · intro a w s ft hsc hft hbel
        refine inBlock_exit ?_
        exact hout a w s ft (by rw [hX]; exact hsc) hft hbel
      · intro a w h10 hd hs hbel
        exact hR a w h10 hd hs hbel
      · constructor <;> dsimp only <;> omega
    · have hlen : len = 0 := h25 (by rw [hv]; simp)
      subst hlen
      refine wp_block (wp_loop_rounds 1 ?_)
      rw [rounds_succ, round3_eq]
      refine wp_seq ?_
      have hsz : a2.tmps.size = 277 := by obtain ⟨τ, _, henv, _⟩ := hsc2; exact henv.size
      have hdf : a2.defers = [] := by obtain ⟨τ, _, henv, _⟩ := hsc2; exact henv.d'
      have h21 : a2.tmps.getD 21 undef = .int .i64 ((0 : Nat) : Int) := hsc2.nat (t := 21) (i := 16) (k := .i64) (n := ((0 : Nat) : Int)) rfl rfl
      have h4 : a2.tmps.getD 4 undef = .slice p 0 cap := by
        obtain ⟨τ, hst, henv, _⟩ := hsc2
        have hs : τ.s = symS (ρX (ρT ⟨0, 0, c, t, 0, 0, 6, 0, g, 0, 0, false, lk⟩) v) := by obtain ⟨H, _, hw⟩ := hst.wt; exact hw.sy
        have hvr := henv.tmps 4 slS rfl
        generalize a2.tmps.getD 4 undef = u at hvr
        cases hvr with
        | func fn xs ys us vs hf => exact absurd rfl (hf _)
        | sym l xs ys v' hsy hb =>
          rw [hs] at hsy
          have h2 : v = some u := slS_den hsy
          rw [hv] at h2
          exact (Option.some.inj h2).symm
      rw [act_eta2 hsz hdf]
      refine head_go h4 h21 ?_ ?_
      · intro h; omega
      · intro a1 hs1 hd1 hk1
        show Exit.inBlock 0 (Exit.then (s11.wp Tryz.prog Q) Q) (.exit 0) a1 w2
        refine inBlock_exit ?_
        exact hout a1 w2 ⟨0, 0, c, t, 0, 0, 6, 0, g, 0, 0, false, lk⟩ _ (hsc2.keepA hs1 hd1 hk1) hft2 hb2
  by_cases hz : c = 0
  · exact proz_go hc ht hg hz lk hsc hA.ok main
  · exact pron_go hc ht hg hz lk hsc hA.ok main
theorem peel4 {x0 x1 x2 x3 rest : Code} {P : Program} {Q : Exit → Act → World → Prop} {a : Act} {w : World} (RC : Code) (hrc : rest = RC) (h : ∀ rest' : Code, rest' = RC → (x0.seq (x1.seq (x2.seq (x3.seq rest')))).wp P Q a w) : (x0.seq (x1.seq (x2.seq (x3.seq rest)))).wp P Q a w := h rest hrc
theorem dog_walk (W : World) (c t g : Nat) (lk : Bool) (p : Option Addr) (len cap : Nat) (hc : c < 4294967296) (ht : t < 4294967296) (hg : g < 4294967296) (hlen : len ≤ maxLen) (hacts : Acts W p len) (htabs : Tabs W) {A : Value} {rA : Option Nat} {v : Option Value} (hA : Told W p len cap A rA v) (h25 : v ≠ none → len = 0) :
    Calls Tryz.prog 3 #[.int .u32 (c : Int), .int .u32 (t : Int), .bool lk, .int .u32 (g : Int), .slice p len cap] W fun e w' => e = .returned (.bool true) ∧ Below W.heap.size W w' := by
  go_enter Tryz.func3, Tryz.ntmps3
  refine peel4 s4 (by kernel_rfl) ?_
  intro rest' hrest
  have hd : ((1 : Int) + (t : Int) % 1000) ≠ 0 := by omega
  have HA := Lib.hid hA
  have HB := Lib.hid hacts
  have HC := Lib.hid htabs
  have HD := Lib.hid hrest
  clear hA hacts htabs hrest
  go_wp2
  have hQ : ∀ (a : Act) (w : World), a.tmps.getD 10 undef = .bool true → a.defers = [] → a.tmps.size = 277 → Below W.heap.size W w → bodyPost Tryz.prog Tryz.f3 (fun e w' => e = Ending.returned (Value.bool true) ∧ Below W.heap.size W w') .ret a w :=
    fun a w h10 hd _ hb => bodyPost_ret (results3_run h10) hd ⟨rfl, hb⟩
  rw [HD.out]
  refine tail_go HC.out (c := c % (1 + t % 1000)) (t := 1 + t % 1000) (g := g % 10) (lk := lk) (Nat.mod_lt _ (by omega)) (by omega) (Nat.mod_lt _ (by omega)) HB.out HA.out h25 (Sc.start HC.out HA.out ?_ ?_ rfl ?_ rfl rfl rfl) hQ
  · show Value.int .u32 ((c : Int) % (1 + (t : Int) % 1000)) = Value.int .u32 ((c % (1 + t % 1000) : Nat) : Int)
    simp
  · show Value.int .u32 (1 + (t : Int) % 1000) = Value.int .u32 ((1 + t % 1000 : Nat) : Int)
    simp
  · show Value.int .u32 ((g : Int) % 10) = Value.int .u32 ((g % 10 : Nat) : Int)
    simp
end Go.Proofs.YtkndlfdpmpdihaaGreatDoor
