/- Words on memory: worlds that grew, blocks that are known whole, a region that draws its order and only reads or calls what makes memory. No conditions beyond those that each statement shows. -/
import Derived.Test.YtfjkfigjenalgaaProg
import Derived.WalkKit
import Derived.WalkLawsBesides
import Derived.WalkSpells
import Derived.Deep.QuietTactic
import Derived.BigQuiet
import Derived.KernelRfl
import Derived.Deep.LoopGhost
import Derived.Lib.Hide
import Derived.Deep.DrawnRows
import Derived.Maps.AppendAt
import Derived.Laws.OwnMore
import Derived.Deep.AppendLies
import Derived.OwnWalk
namespace Go.Proofs.Ytfjkfigjenalgaa
open Go.RowKit
set_option linter.unusedVariables false

theorem ret_int {k : IntKind} {a b : Int} (h : a = b) : Ending.returned (.int k a) = .returned (.int k b) := by rw [h]
theorem ret_bool {a b : Bool} (h : a = b) : Ending.returned (.bool a) = .returned (.bool b) := by rw [h]

/-- A world that grew out of w0: what lay in w0 is as it was. -/
structure WX (w0 : World) where
  w : World
  h : Below w0.heap.size w0 w

instance WX.ne (w0 : World) : Nonempty (WX w0) := ⟨⟨w0, Below.refl _ _⟩⟩

theorem WX.cell {w0 : World} (x : WX w0) {b o : Nat} {v : Value} (hc : w0.cell? ⟨b, o, none⟩ = some v) : x.w.cell? ⟨b, o, none⟩ = some v := by
  have hlt := World.block_lt_of_cell? (w := w0) (a := ⟨b, o, none⟩) hc
  rw [x.h.cell (p := ⟨b, o, none⟩) hlt]; exact hc

/-- The class of worlds that grew out of w0. -/
def WC (w0 : World) : World → Prop := fun w' => ∃ x : WX w0, w' = x.w

theorem WX.of {P : Program} {f : FuncId} {args : Array Value} {w0 : World} {x : WX w0} {v : Value}
    (h : Calls P f args x.w fun e w' => e = .returned v ∧ Below x.w.heap.size x.w w') : Calls P f args x.w fun e w'' => e = .returned v ∧ ∃ y : WX w0, w'' = y.w :=
  h.mono fun _ w' ⟨he, hb⟩ => ⟨he, ⟨w', x.h.trans (hb.mono x.h.size)⟩, rfl⟩

theorem WX.of_same {P : Program} {f : FuncId} {args : Array Value} {w0 : World} {x : WX w0} {v : Value}
    (h : Calls P f args x.w fun e w' => e = .returned v ∧ x.w = w') : Calls P f args x.w fun e w'' => e = .returned v ∧ ∃ y : WX w0, w'' = y.w :=
  h.mono fun _ w' ⟨he, hb⟩ => ⟨he, x, hb.symm⟩

theorem wp_region_grown {P : Program} {id : Nat} {Q : Exit → Act → World → Prop} {a : Act} {w : World} {l : List Oper} (hm : P.follows .mixedOrders = true) (hB : Region.lexB .any l.toArray = true)
    (h : wpQuiet P l.toArray (fun w' => ∃ x : WX w, w' = x.w) (fun a' => ∀ w', Below w.heap.size w w' → Q .normal a' w') l a) : (Code.region id l.toArray true).wp P Q a w :=
  wp_region_quiet (C := fun w' => ∃ x : WX w, w' = x.w) hm hB ⟨⟨w.drew, (Below.refl _ _).drew⟩, rfl⟩ (by
    have : (fun a' => ∀ w', (∃ x : WX w, w' = x.w) → Q .normal a' w') = (fun a' => ∀ w', Below w.heap.size w w' → Q .normal a' w') := by
      funext a'; apply propext; constructor
      · intro h w' hb; exact h w' ⟨⟨w', hb⟩, rfl⟩
      · rintro h w' ⟨x, rfl⟩; exact h _ x.h
    rw [this]; simpa using h)

theorem bcell {W w1 : World} (hb : Below W.heap.size W w1) : (∀ b o, b < W.heap.size → w1.cell? ⟨b, o, none⟩ = W.cell? ⟨b, o, none⟩) ∧ (∀ b o, b < W.heap.size → w1.frozen? ⟨b, o, none⟩ = W.frozen? ⟨b, o, none⟩) :=
  ⟨fun b o h => hb.cell (p := ⟨b, o, none⟩) h, fun b o h => hb.frozen (p := ⟨b, o, none⟩) h⟩

/-- A block of cells, known whole. -/
def Blk (w : World) (b : Nat) (vs : Array Value) (T : TypeId) : Prop := w.heap[b]? = some (.cells vs T (0, 0))

theorem Blk.cell {w : World} {b : Nat} {vs : Array Value} {T : TypeId} (h : Blk w b vs T) (j : Nat) {v : Value} (hv : vs[j]? = some v) : w.cell? ⟨b, j, none⟩ = some v := by
  unfold Blk at h; simp [World.cell?, h, hv]
theorem Blk.free {w : World} {b : Nat} {vs : Array Value} {T : TypeId} (h : Blk w b vs T) (j : Nat) : w.frozen? ⟨b, j, none⟩ = false := by
  unfold Blk at h; simp [World.frozen?, h]
theorem Blk.lt {w : World} {b : Nat} {vs : Array Value} {T : TypeId} (h : Blk w b vs T) : b < w.heap.size := by
  unfold Blk at h; exact (Array.getElem?_eq_some_iff.1 h).1
theorem Blk.below {w w' : World} {B b : Nat} {vs : Array Value} {T : TypeId} (h : Blk w b vs T) (hb : Below B w w') (hlt : b < B) : Blk w' b vs T := by
  unfold Blk at *; rw [hb.block b hlt]; exact h
theorem Blk.set {w : World} {b : Nat} {vs : Array Value} {T : TypeId} (h : Blk w b vs T) (j : Nat) (v : Value) : Blk (w.setCell ⟨b, j, none⟩ v) b (vs.setIfInBounds j v) T := by
  unfold Blk at *; simp [World.setCell, Array.getElem?_modify, h]
theorem Blk.set_ne {w : World} {b c : Nat} {vs : Array Value} {T : TypeId} (h : Blk w b vs T) (j : Nat) (v : Value) (hne : c ≠ b) : Blk (w.setCell ⟨c, j, none⟩ v) b vs T := by
  unfold Blk at *; simp [World.setCell, Array.getElem?_modify, hne, h]
theorem Blk.alloc {w : World} {b : Nat} {vs : Array Value} {T : TypeId} (h : Blk w b vs T) (o : Obj) : Blk (w.alloc o) b vs T := by
  have := h.lt; unfold Blk at *; rw [← h]; exact Below.heap_alloc w o b this
theorem Blk.drew {w : World} {b : Nat} {vs : Array Value} {T : TypeId} (h : Blk w b vs T) : Blk w.drew b vs T := h
theorem Blk.new (w : World) (vs : Array Value) (T : TypeId) : Blk (w.alloc (.cells vs T)) w.heap.size vs T := by
  unfold Blk; show (w.heap.push _)[w.heap.size]? = _; simp

abbrev I (n : Int) : Value := .int .i64 n
abbrev U (n : Int) : Value := .int .u32 n
abbrev L (n : Int) : Value := .int .u64 n

theorem Blk.grown {w w' : World} {g : Nat} {t : TypeId} {cs : Array Value} {row : Option Nat} (h : Blk w g cs t) (hb : w.grownBy w' row) (hg : some g ≠ row) : Blk w' g cs t := (hb.block g h.lt hg).trans h
theorem Blk.ne_ {w : World} {g g' : Nat} {t t' : TypeId} {cs cs' : Array Value} (h : Blk w g cs t) (h' : Blk w g' cs' t') (hne : t ≠ t') : g ≠ g' := by
  rintro rfl
  unfold Blk at h h'
  rw [h] at h'
  injection h' with h'
  injection h' with _ ht
  exact hne ht
theorem own_blk_ne {w : World} {g : Nat} {t : TypeId} {cs : Array Value} {base : Nat} {e : TypeId} {size n : Nat} {v : Value} {xs : List Value} (h : w.ownsRow base e size v n xs) (hg : Blk w g cs t) (hne : e ≠ t) : some g ≠ v.ownBlock := by
  rcases h.2 with ⟨rfl, _⟩ | ⟨g', cap, cur, rfl, _, hh, _⟩
  · simp [Value.ownBlock]
  · intro he
    have : g = g' := by simpa [Value.ownBlock] using he
    subst this
    exact Blk.ne_ (t := e) hh hg hne rfl
theorem own_base {w : World} {base : Nat} {e : TypeId} {size n : Nat} {v : Value} {xs : List Value} (h : w.ownsRow base e size v n xs) : ∀ k, v.ownBlock = some k → base ≤ k := by
  rcases h.2 with ⟨rfl, _⟩ | ⟨g', cap, cur, rfl, hb, hh, _⟩
  · intro k hk; simp [Value.ownBlock] at hk
  · intro k hk
    have : g' = k := by simpa [Value.ownBlock] using hk
    omega

theorem Blk.wx {w : World} {b : Nat} {vs : Array Value} {T : TypeId} (h : Blk w b vs T) (j : Nat) {v : Value} (hv : vs[j]? = some v) : ∀ x : WX w, x.w.cell? ⟨b, j, none⟩ = some v := fun x => x.cell (h.cell j hv)

end Go.Proofs.Ytfjkfigjenalgaa
