/- Calls with closed arguments, reckoned. No conditions beyond those that each statement shows. -/
import Derived.Test.YtkndlfdpmpdihaaGreatDoorE1
import Derived.Test.YtkndlfdpmpdihaaGreatDoorE7
import Derived.Test.YtkndlfdpmpdihaaGreatDoorS2
import Derived.KernelRfl
set_option linter.unusedVariables false
set_option linter.unusedSimpArgs false
namespace Go.Ev
def tab64 : List Value := [.int .u8 0, .int .u8 1, .int .u8 56, .int .u8 2, .int .u8 57, .int .u8 49, .int .u8 28, .int .u8 3, .int .u8 61, .int .u8 58, .int .u8 42, .int .u8 50, .int .u8 38, .int .u8 29, .int .u8 17, .int .u8 4, .int .u8 62, .int .u8 47, .int .u8 59, .int .u8 36, .int .u8 45, .int .u8 43, .int .u8 51, .int .u8 22, .int .u8 53, .int .u8 39, .int .u8 33, .int .u8 30, .int .u8 24, .int .u8 18, .int .u8 12, .int .u8 5, .int .u8 63, .int .u8 55, .int .u8 48, .int .u8 27, .int .u8 60, .int .u8 41, .int .u8 37, .int .u8 16, .int .u8 46, .int .u8 35, .int .u8 44, .int .u8 21, .int .u8 52, .int .u8 32, .int .u8 23, .int .u8 11, .int .u8 54, .int .u8 26, .int .u8 40, .int .u8 15, .int .u8 34, .int .u8 20, .int .u8 31, .int .u8 10, .int .u8 25, .int .u8 14, .int .u8 19, .int .u8 9, .int .u8 13, .int .u8 8, .int .u8 7, .int .u8 6]
def pow10 : List Value := [.int .u64 1, .int .u64 10, .int .u64 100, .int .u64 1000, .int .u64 10000, .int .u64 100000, .int .u64 1000000, .int .u64 10000000, .int .u64 100000000, .int .u64 1000000000, .int .u64 10000000000, .int .u64 100000000000, .int .u64 1000000000000, .int .u64 10000000000000, .int .u64 100000000000000, .int .u64 1000000000000000, .int .u64 10000000000000000, .int .u64 100000000000000000, .int .u64 1000000000000000000, .int .u64 10000000000000000000]
def g8 : List Obj := [.cells ⟨pow10⟩ 0 (0, 21), dead, .cells ⟨tab64⟩ 0 (0, 65), dead, dead, dead, dead, dead]
end Go.Ev
namespace Go.Ev
open Go.Proofs Go.Proofs.YtkndlfdpmpdihaaGreatDoor
set_option maxRecDepth 1000000
namespace Lit
def e0 : Ent := ⟨158, [.string ⟨#[98,111,97,114,100,32,49,32,49,32,49,32,48,32,50]⟩], .tuple #[.agg #[.int .i64 1, .int .i64 1, .int .u32 1, .int .i64 0, .int .i64 2], .int .i64 0]⟩
def e1 : Ent := ⟨215, [.string ⟨#[97,116]⟩], .int .i64 1⟩
def e2 : Ent := ⟨215, [.string ⟨#[116,105,99,107]⟩], .int .i64 5⟩
def e3 : Ent := ⟨215, [.string ⟨#[115,101,114,118,101]⟩], .int .i64 6⟩
def e4 : Ent := ⟨216, [.string ⟨#[51]⟩], .tuple #[.int .u64 3, .int .i64 0]⟩
def e5 : Ent := ⟨216, [.string ⟨#[48]⟩], .tuple #[.int .u64 0, .int .i64 0]⟩
def e6 : Ent := ⟨231, [.int .i64 1], .agg #[.string ⟨#[97,116]⟩, .int .i64 2, .bool false, .bool true]⟩
def e7 : Ent := ⟨231, [.int .i64 5], .agg #[.string ⟨#[116,105,99,107]⟩, .int .i64 1, .bool false, .bool false]⟩
def e8 : Ent := ⟨231, [.int .i64 6], .agg #[.string ⟨#[115,101,114,118,101]⟩, .int .i64 0, .bool false, .bool true]⟩
end Lit
def G8 : Gl := plainG 8
noncomputable def ev0 : EvF := evY Tryz.prog G8 (evalDrawnP Tryz.prog G8) noB 3000 100
theorem draws_ok {G : Gl} (ev : EvF) (h : EvOkT Tryz.prog G ev) : DrOkW Tryz.prog G (evalDrawnP Tryz.prog G ev) := evalDrawnP_okW (by kernel_rfl) ev h
theorem ev0_ok : EvOkT Tryz.prog G8 ev0 := evY_ok draws_ok noB_ok 3000 100
theorem e0_ok : EntOk Tryz.prog 8 Lit.e0 := ent_is ev0_ok (by decide) (by kernel_rfl)
theorem e1_ok : EntOk Tryz.prog 8 Lit.e1 := ent_is ev0_ok (by decide) (by kernel_rfl)
theorem e2_ok : EntOk Tryz.prog 8 Lit.e2 := ent_is ev0_ok (by decide) (by kernel_rfl)
theorem e3_ok : EntOk Tryz.prog 8 Lit.e3 := ent_is ev0_ok (by decide) (by kernel_rfl)
theorem e4_ok : EntOk Tryz.prog 8 Lit.e4 := ent_is ev0_ok (by decide) (by kernel_rfl)
theorem e5_ok : EntOk Tryz.prog 8 Lit.e5 := ent_is ev0_ok (by decide) (by kernel_rfl)
theorem e6_ok : EntOk Tryz.prog 8 Lit.e6 := ent_is ev0_ok (by decide) (by kernel_rfl)
theorem e7_ok : EntOk Tryz.prog 8 Lit.e7 := ent_is ev0_ok (by decide) (by kernel_rfl)
theorem e8_ok : EntOk Tryz.prog 8 Lit.e8 := ent_is ev0_ok (by decide) (by kernel_rfl)
def ents : List Ent := [Lit.e0, Lit.e1, Lit.e2, Lit.e3, Lit.e4, Lit.e5, Lit.e6, Lit.e7, Lit.e8]
theorem ents_ok : ∀ en ∈ ents, EntOk Tryz.prog 8 en := by
  intro en h
  simp only [ents, List.mem_cons, List.not_mem_nil, or_false] at h
  rcases h with rfl | rfl | rfl | rfl | rfl | rfl | rfl | rfl | rfl
  · exact e0_ok
  · exact e1_ok
  · exact e2_ok
  · exact e3_ok
  · exact e4_ok
  · exact e5_ok
  · exact e6_ok
  · exact e7_ok
  · exact e8_ok
noncomputable def bk : EvF := orB (entB ents) regionsT
theorem bk_any {G : Gl} (h : G.n = 8) : EvOkT Tryz.prog G bk := orB_ok (entB_ok (by rw [h]; decide) ents (by rw [h]; exact ents_ok)) regionsT_ok
theorem bk_ok : EvOkT Tryz.prog G8 bk := bk_any rfl
end Go.Ev
