/- Lemmas for the laws of chapter 30 (civil): contracts of functions of the program, each under the premises that its own statement shows. -/
import Derived.Test.YtajjibfipkijfaaA1
import Derived.Deep.RegionHeld3
import Derived.Deep.DrawnRows
set_option linter.unusedVariables false
namespace Go.Proofs.Ytajjibfipkijfaa
open Go.RowKit

/-- A world that grew out of w0: what lay in w0 is as it was. -/
structure WX (w0 : World) where
  w : World
  h : Below w0.heap.size w0 w

instance WX.ne (w0 : World) : Nonempty (WX w0) := ⟨⟨w0, Below.refl _ _⟩⟩

theorem WX.cell {w0 : World} (x : WX w0) {b o : Nat} {v : Value} (hc : w0.cell? ⟨b, o, none⟩ = some v) : x.w.cell? ⟨b, o, none⟩ = some v := by
  have hlt := World.block_lt_of_cell? (w := w0) (a := ⟨b, o, none⟩) hc
  rw [x.h.cell (p := ⟨b, o, none⟩) hlt]; exact hc

/-- The class of worlds that grew out of w0. -/
def WC (w0 : World) : World → Prop := fun w' => ∃ x : WX w0, w' = x.w

theorem WX.of {P : Program} {f : FuncId} {args : Array Value} {w0 : World} {x : WX w0} {v : Value}
    (h : Calls P f args x.w fun e w' => e = .returned v ∧ Below x.w.heap.size x.w w') : Calls P f args x.w fun e w'' => e = .returned v ∧ ∃ y : WX w0, w'' = y.w :=
  h.mono fun _ w' ⟨he, hb⟩ => ⟨he, ⟨w', x.h.trans (hb.mono x.h.size)⟩, rfl⟩

theorem WX.of_same {P : Program} {f : FuncId} {args : Array Value} {w0 : World} {x : WX w0} {v : Value}
    (h : Calls P f args x.w fun e w' => e = .returned v ∧ x.w = w') : Calls P f args x.w fun e w'' => e = .returned v ∧ ∃ y : WX w0, w'' = y.w :=
  h.mono fun _ w' ⟨he, hb⟩ => ⟨he, x, hb.symm⟩

theorem wp_region_grown {P : Program} {id : Nat} {Q : Exit → Act → World → Prop} {a : Act} {w : World} {l : List Oper} (hm : P.follows .mixedOrders = true) (hB : Region.lexB .any l.toArray = true)
    (h : wpQuiet P l.toArray (fun w' => ∃ x : WX w, w' = x.w) (fun a' => ∀ w', Below w.heap.size w w' → Q .normal a' w') l a) : (Code.region id l.toArray true).wp P Q a w :=
  wp_region_quiet (C := fun w' => ∃ x : WX w, w' = x.w) hm hB ⟨⟨w.drew, (Below.refl _ _).drew⟩, rfl⟩ (by
    have : (fun a' => ∀ w', (∃ x : WX w, w' = x.w) → Q .normal a' w') = (fun a' => ∀ w', Below w.heap.size w w' → Q .normal a' w') := by
      funext a'; apply propext; constructor
      · intro h w' hb; exact h w' ⟨⟨w', hb⟩, rfl⟩
      · rintro h w' ⟨x, rfl⟩; exact h _ x.h
    rw [this]; simpa using h)

def rightB (y m d h i s : Int) : Bool := withinB y 1970 9999 && withinB d 1 (daysB y m) && withinB h 0 23 && withinB i 0 59 && withinB s 0 59

theorem bcell {W w1 : World} (hb : Below W.heap.size W w1) : (∀ b o, b < W.heap.size → w1.cell? ⟨b, o, none⟩ = W.cell? ⟨b, o, none⟩) ∧ (∀ b o, b < W.heap.size → w1.frozen? ⟨b, o, none⟩ = W.frozen? ⟨b, o, none⟩) :=
  ⟨fun b o h => hb.cell (p := ⟨b, o, none⟩) h, fun b o h => hb.frozen (p := ⟨b, o, none⟩) h⟩

end Go.Proofs.Ytajjibfipkijfaa
