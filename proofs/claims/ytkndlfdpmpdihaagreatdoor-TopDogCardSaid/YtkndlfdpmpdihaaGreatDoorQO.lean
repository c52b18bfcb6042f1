/- The pieces of TopDog beside its rounds: printed by wip/tools/genp.py. Conditions: those that each statement shows. -/
import Derived.Test.YtkndlfdpmpdihaaGreatDoorD2
namespace Go.Proofs.YtkndlfdpmpdihaaGreatDoor
open Go.RowKit Go.Ev
set_option linter.unusedVariables false
set_option linter.unusedSimpArgs false
set_option maxRecDepth 1000000
def envP : List (Nat × Value) := [(0, sy .u32 3), (1, sy .u32 4), (3, sy .u32 9), (11, P_ 17), (13, P_ 20), (15, P_ 21), (16, sy .u64 17), (17, sy .u64 15), (18, syB 2), (19, .int .u64 (.ofNat 0)), (20, .int .i64 (.ofNat 0))]
def r11_ex : List Value := [(sy .u64 0), (sy .u64 1), (syB 2), (sy .u32 3), (sy .u32 4), (sy .u64 5), (sy .u32 6), (sy .i64 7), (sy .u64 8), (sy .u32 9), .nilFunc, .nilFunc, .nilFunc, .nilFunc, .nilFunc, (sy .u64 15), (Lit.i64 0), (sy .u64 17)]
def r13_ex : List Value := [(sy .u64 0), (sy .u64 1), (syB 2), (sy .u32 3), (sy .u32 4), (sy .u64 5), (sy .u32 6), (sy .i64 7), (sy .u64 8), (sy .u32 9), .nilFunc, .nilFunc, .nilFunc, .nilFunc, .nilFunc, (sy .u64 15), (bn 0 (Lit.i64 0) (sy .i64 16) (Lit.i64 1)), (sy .u64 17)]
theorem r11_false_run (ρ : Nat → Option Value) (h : DL ρ []) (A : Value) : askC (codeC (mkG 8 ρ [] h) r11 .fresh) .normal 277 ((4, A) :: envP) (lTof false) piT r11_ex envT (lTof false) = some A := by kernel_rfl
theorem r11_true_run (ρ : Nat → Option Value) (h : DL ρ []) (A : Value) : askC (codeC (mkG 8 ρ [] h) r11 .fresh) .normal 277 ((4, A) :: envP) (lTof true) piT r11_ex envT (lTof true) = some A := by kernel_rfl
theorem r13_false_run (ρ : Nat → Option Value) (h : DL ρ []) (A : Value) : askC (codeC (mkG 8 ρ [] h) r13 .fresh) .normal 277 ((4, A) :: envT) (lTof false) piT r13_ex envT (lTof false) = some A := by kernel_rfl
theorem r13_true_run (ρ : Nat → Option Value) (h : DL ρ []) (A : Value) : askC (codeC (mkG 8 ρ [] h) r13 .fresh) .normal 277 ((4, A) :: envT) (lTof true) piT r13_ex envT (lTof true) = some A := by kernel_rfl
theorem s11_false_run (ρ : Nat → Option Value) (h : DL ρ []) (A : Value) : askC (codeC (mkG 8 ρ [] h) s11 .fresh) .ret 277 ((4, A) :: envT) (lTof false) piR [] envR Lit.l00 = some A := by kernel_rfl
theorem s11_true_run (ρ : Nat → Option Value) (h : DL ρ []) (A : Value) : askC (codeC (mkG 8 ρ [] h) s11 .fresh) .ret 277 ((4, A) :: envT) (lTof true) piR [] envR Lit.l00 = some A := by kernel_rfl
theorem r11_go {s : DT} (h0 : s.idx = 0) {v : Option Value} {A : Value} {rA : Option Nat} {ft : Nat → Prop} {a : Act} {w : World} (h : Sc (pl (ρX (ρT s) v)) (lTof s.locked) 277 envP A rA ft a w) (hA : tOk A) {Q : Exit → Act → World → Prop}
    (hQ : ∀ a' w', Sc (pl (ρX (ρT s) v)) (lTof s.locked) 277 envT A rA (grow ft w w') a' w' → Kp (fr ft w) w w' → Q .normal a' w') : r11.wp Tryz.prog Q a w := by
  have hx : EX (ρX (ρT s) v) (ρX (ρT s) v) 0 r11_ex := (EX.cons (Da.giv rfl) rfl (EX.cons (Da.giv rfl) rfl (EX.cons (Da.givB rfl) rfl (EX.cons (Da.giv rfl) rfl (EX.cons (Da.giv rfl) rfl (EX.cons (Da.giv rfl) rfl (EX.cons (Da.giv rfl) rfl (EX.cons (Da.giv rfl) rfl (EX.cons (Da.giv rfl) rfl (EX.cons (Da.giv rfl) rfl (EX.skip (EX.skip (EX.skip (EX.skip (EX.skip (EX.cons (Da.giv rfl) rfl (EX.cons (Da.to (Da.nat .i64 0) (congrArg (fun n : Nat => Value.int .i64 (n : Int)) h0.symm)) rfl (EX.cons (Da.giv rfl) rfl (EX.nil _ _ _)))))))))))))))))))
  cases hl : s.locked with
  | false => rw [hl] at h hQ; exact Sc.go h (fun _ _ h => h) (DL.nil _) hx (tOk_X hA) rfl (lT_len false) (r11_false_run _ (DL.nil _) A) hQ
  | true => rw [hl] at h hQ; exact Sc.go h (fun _ _ h => h) (DL.nil _) hx (tOk_X hA) rfl (lT_len true) (r11_true_run _ (DL.nil _) A) hQ
theorem r13_go {s : DT} (h0 : s.idx ≤ 1000) {A : Value} {rA : Option Nat} {ft : Nat → Prop} {a : Act} {w : World} (h : Sc (pl (ρT s)) (lTof s.locked) 277 envT A rA ft a w) (hA : sliceA A) {Q : Exit → Act → World → Prop}
    (hQ : ∀ a' w', Sc (pl (ρT { s with idx := s.idx + 1 })) (lTof s.locked) 277 envT A rA (grow ft w w') a' w' → Kp (fr ft w) w w' → Q .normal a' w') : r13.wp Tryz.prog Q a w := by
  have hx : EX (ρT s) (ρT { s with idx := s.idx + 1 }) 0 r13_ex := (EX.cons (Da.giv rfl) rfl (EX.cons (Da.giv rfl) rfl (EX.cons (Da.givB rfl) rfl (EX.cons (Da.giv rfl) rfl (EX.cons (Da.giv rfl) rfl (EX.cons (Da.giv rfl) rfl (EX.cons (Da.giv rfl) rfl (EX.cons (Da.giv rfl) rfl (EX.cons (Da.giv rfl) rfl (EX.cons (Da.giv rfl) rfl (EX.skip (EX.skip (EX.skip (EX.skip (EX.skip (EX.cons (Da.giv rfl) rfl (EX.cons (Da.add (a := s.idx) (b := 1) rfl (Da.giv (k := .i64) (n := ((s.idx : Nat) : Int)) rfl) (Da.nat .i64 1) (by simp only [lim]; omega)) rfl (EX.cons (Da.giv rfl) rfl (EX.nil _ _ _)))))))))))))))))))
  cases hl : s.locked with
  | false => rw [hl] at h hQ; exact Sc.go h (fun _ _ h => h) (DL.nil _) hx (.inl hA) rfl (lT_len false) (r13_false_run _ (DL.nil _) A) (by rw [← hl] at hQ ⊢; exact hQ)
  | true => rw [hl] at h hQ; exact Sc.go h (fun _ _ h => h) (DL.nil _) hx (.inl hA) rfl (lT_len true) (r13_true_run _ (DL.nil _) A) (by rw [← hl] at hQ ⊢; exact hQ)
theorem s11_go {s : DT} {v : Option Value} {A : Value} {rA : Option Nat} {ft : Nat → Prop} {a : Act} {w : World} (h : Sc (pl (ρX (ρT s) v)) (lTof s.locked) 277 envT A rA ft a w) (hA : tOk A) {Q : Exit → Act → World → Prop}
    (hQ : ∀ a' w', Sc (pl (ρX (fun _ => none) v)) Lit.l00 277 envR A rA (grow ft w w') a' w' → Kp (fr ft w) w w' → Q .ret a' w') : s11.wp Tryz.prog Q a w := by
  cases hl : s.locked with
  | false => rw [hl] at h; exact Sc.go h (fun _ _ h => h) (DL.nil _) (EX.nil _ _ _) (tOk_X hA) rfl (by decide) (s11_false_run _ (DL.nil _) A) hQ
  | true => rw [hl] at h; exact Sc.go h (fun _ _ h => h) (DL.nil _) (EX.nil _ _ _) (tOk_X hA) rfl (by decide) (s11_true_run _ (DL.nil _) A) hQ
end Go.Proofs.YtkndlfdpmpdihaaGreatDoor
