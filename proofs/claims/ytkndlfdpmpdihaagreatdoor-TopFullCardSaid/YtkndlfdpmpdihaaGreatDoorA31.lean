/- Calls with closed arguments, reckoned. Short words for told worlds. Conditions: those that each statement shows. -/
import Derived.Test.YtkndlfdpmpdihaaGreatDoorA29
import Derived.Test.YtkndlfdpmpdihaaGreatDoorA30
import Derived.KernelRfl
set_option linter.unusedVariables false
set_option linter.unusedSimpArgs false
namespace Go.Ev
open Go.Proofs Go.Proofs.YtkndlfdpmpdihaaGreatDoor
set_option maxRecDepth 1000000
namespace Lit
def e0 : Ent := ⟨158, [.string ⟨#[98,111,97,114,100,32,49,32,49,32,49,32,48,32,50]⟩], .tuple #[.agg #[.int .i64 1, .int .i64 1, .int .u32 1, .int .i64 0, .int .i64 2], .int .i64 0]⟩
def e1 : Ent := ⟨215, [.string ⟨#[97,116]⟩], .int .i64 1⟩
def e2 : Ent := ⟨215, [.string ⟨#[116,105,99,107]⟩], .int .i64 5⟩
def e3 : Ent := ⟨215, [.string ⟨#[115,101,114,118,101]⟩], .int .i64 6⟩
def e4 : Ent := ⟨216, [.string ⟨#[51]⟩], .tuple #[.int .u64 3, .int .i64 0]⟩
def e5 : Ent := ⟨216, [.string ⟨#[48]⟩], .tuple #[.int .u64 0, .int .i64 0]⟩
def e6 : Ent := ⟨231, [.int .i64 1], .agg #[.string ⟨#[97,116]⟩, .int .i64 2, .bool false, .bool true]⟩
def e7 : Ent := ⟨231, [.int .i64 5], .agg #[.string ⟨#[116,105,99,107]⟩, .int .i64 1, .bool false, .bool false]⟩
def e8 : Ent := ⟨231, [.int .i64 6], .agg #[.string ⟨#[115,101,114,118,101]⟩, .int .i64 0, .bool false, .bool true]⟩
end Lit
def G8 : Gl := plainG 8
noncomputable def ev0 : EvF := evY Tryz.prog G8 (evalDrawnP Tryz.prog G8) noB 3000 100
theorem draws_ok {G : Gl} (ev : EvF) (h : EvOkT Tryz.prog G ev) : DrOkW Tryz.prog G (evalDrawnP Tryz.prog G ev) := evalDrawnP_okW (by kernel_rfl) ev h
theorem ev0_ok : EvOkT Tryz.prog G8 ev0 := evY_ok draws_ok noB_ok 3000 100
theorem e0_ok : EntOk Tryz.prog 8 Lit.e0 := ent_is ev0_ok (by decide) (by kernel_rfl)
theorem e1_ok : EntOk Tryz.prog 8 Lit.e1 := ent_is ev0_ok (by decide) (by kernel_rfl)
theorem e2_ok : EntOk Tryz.prog 8 Lit.e2 := ent_is ev0_ok (by decide) (by kernel_rfl)
theorem e3_ok : EntOk Tryz.prog 8 Lit.e3 := ent_is ev0_ok (by decide) (by kernel_rfl)
theorem e4_ok : EntOk Tryz.prog 8 Lit.e4 := ent_is ev0_ok (by decide) (by kernel_rfl)
theorem e5_ok : EntOk Tryz.prog 8 Lit.e5 := ent_is ev0_ok (by decide) (by kernel_rfl)
theorem e6_ok : EntOk Tryz.prog 8 Lit.e6 := ent_is ev0_ok (by decide) (by kernel_rfl)
theorem e7_ok : EntOk Tryz.prog 8 Lit.e7 := ent_is ev0_ok (by decide) (by kernel_rfl)
theorem e8_ok : EntOk Tryz.prog 8 Lit.e8 := ent_is ev0_ok (by decide) (by kernel_rfl)
def ents : List Ent := [Lit.e0, Lit.e1, Lit.e2, Lit.e3, Lit.e4, Lit.e5, Lit.e6, Lit.e7, Lit.e8]
theorem ents_ok : ∀ en ∈ ents, EntOk Tryz.prog 8 en := by
  intro en h
  simp only [ents, List.mem_cons, List.not_mem_nil, or_false] at h
  rcases h with rfl | rfl | rfl | rfl | rfl | rfl | rfl | rfl | rfl
  · exact e0_ok
  · exact e1_ok
  · exact e2_ok
  · exact e3_ok
  · exact e4_ok
  · exact e5_ok
  · exact e6_ok
  · exact e7_ok
  · exact e8_ok
noncomputable def bk : EvF := orB (entB ents) regionsT
theorem bk_any {G : Gl} (h : G.n = 8) : EvOkT Tryz.prog G bk := orB_ok (entB_ok (by rw [h]; decide) ents (by rw [h]; exact ents_ok)) regionsT_ok
theorem bk_ok : EvOkT Tryz.prog G8 bk := bk_any rfl
end Go.Ev
namespace Go.Ev.Lit
open Go
def sl (k l c : Nat) : Value := .slice (some ⟨k, 0, none⟩) l c
def pt (k : Nat) : Value := .pointer (some ⟨k, 0, none⟩)
def st (x : Array UInt8) : Value := .string ⟨x⟩
def bF : Value := .bool false
def bT : Value := .bool true
def s0 : Value := .slice none 0 0
def cl (t : TypeId) (x : Array Value) : Obj := .cells x t (0, 0)
def dd : Obj := .cells #[] 0 (1, 1)
abbrev me := @Go.MapEntry.mk
end Go.Ev.Lit
