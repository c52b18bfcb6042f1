/- The bank's law on the nil bank, and the chapter's example. No conditions beyond those that each statement shows. -/
import Derived.Test.YtfjkfigjenalgaaV5
namespace Go.Proofs.Ytfjkfigjenalgaa
open Go.RowKit
set_option linter.unusedVariables false
set_option linter.unusedSimpArgs false

def z1_ : CS := ⟨0, 0, true, false, false, 0, 0, false⟩

theorem known_bank (w : World) : Calls Try.prog 25 #[] w fun e w' => e = .returned (.bool true) ∧ Below w.heap.size w w' := by
  have NB := Lib.hid (bnew_any 2 (by decide) (by decide) w)
  have e1 : Hid (bstoreB [CS.zero, CS.zero] 40 1 = ([CS.zero, z1_], 0)) := Lib.hid rfl
  have e2 : Hid (leftN [CS.zero, z1_] 2 = (1, 1)) := Lib.hid rfl
  have e3 : Hid (wordN [CS.zero, z1_] (fun s => s.en) 2 = 2) := Lib.hid rfl
  go_enter Try.func25, Try.ntmps25
  go_wp2_with ((go_at_call 24; fail))
  refine NB.out.mono ?_
  rintro e w2 ⟨bb, ab, cs, rfl, hB, hbb, hcs, hb⟩
  have H := Lib.hid hB
  have HB := Lib.hid hb
  have HC_ := Lib.hid hcs
  clear hB hb hcs
  go_wp2_with ((go_at_call 28; fail))
  refine (bstore_any (ss := [CS.zero, CS.zero]) H.out 40 1 (by decide) (by decide) (by decide) (by decide)).mono ?_
  rw [e1.out]
  rintro e w3 ⟨rfl, hB3, hK3⟩
  have H3 := Lib.hid hB3
  have B3 := Lib.hid (HB.out.trans (hK3.below_ HC_.out HB.out.size))
  clear hB3 hK3
  go_wp2_with ((go_at_call 29; fail))
  refine (bleft_any H3.out).mono ?_
  rw [show [CS.zero, z1_].length = 2 from rfl, e2.out]
  rintro e w4 ⟨rfl, hb4⟩
  have H4 := Lib.hid (H3.out.below hb4)
  have B4 := Lib.hid (B3.out.trans (hb4.mono B3.out.size))
  clear hb4
  go_wp2_with ((go_at_call 30; fail))
  refine (bruns_any H4.out).mono ?_
  rw [show [CS.zero, z1_].length = 2 from rfl, e3.out]
  rintro e w5 ⟨rfl, hb5⟩
  have B5 := Lib.hid (B4.out.trans (hb5.mono B4.out.size))
  clear hb5
  go_wp2_with fail
  go_ret
  exact ⟨rfl, B5.out⟩

set_option maxHeartbeats 1000000 in
theorem bnil_walk (off v n : Int) (h0 : 0 ≤ off) (h1 : off ≤ 4294967295) (w : World) : Calls Try.prog 10 #[U off, U v, L n] w fun e w' => e = .returned (.bool true) ∧ Below w.heap.size w w' := by
  have LD := Lib.hid (bload_nil off h0 h1)
  have ST := Lib.hid (bstore_nil off v h0 h1)
  go_enter Try.func10, Try.ntmps10
  go_wp2_with ((go_at_call 31; fail))
  refine (btick_nil _ _).mono ?_
  rintro e w31 ⟨rfl, rfl⟩
  go_wp2_with ((go_at_call 34; fail))
  refine (breset_nil _).mono ?_
  rintro e w34 ⟨rfl, rfl⟩
  go_wp2_with ((go_at_call 32; fail))
  refine (LD.out _).mono ?_
  rintro e w32 ⟨rfl, rfl⟩
  go_wp2_with ((go_at_call 29; fail))
  refine (bleft_nil _).mono ?_
  rintro e w29 ⟨rfl, rfl⟩
  go_wp2_with ((go_at_call 25; fail))
  refine (known_bank _).mono ?_
  rintro e wk ⟨rfl, hb⟩
  have HB := Lib.hid hb
  clear hb
  go_wp2_with ((go_at_call 35; fail))
  refine (len_nil _).mono ?_
  rintro e wx35 ⟨rfl, rfl⟩
  go_wp2_with ((go_at_call 36; fail))
  refine (blines_nil _).mono ?_
  rintro e wx36 ⟨rfl, rfl⟩
  go_wp2_with ((go_at_call 30; fail))
  refine (bruns_nil _).mono ?_
  rintro e wx30 ⟨rfl, rfl⟩
  go_wp2_with ((go_at_call 33; fail))
  refine (timer_nil _).mono ?_
  rintro e wx33 ⟨rfl, rfl⟩
  go_wp2_with ((go_at_call 28; fail))
  refine (ST.out _).mono ?_
  rintro e wx28 ⟨rfl, rfl⟩
  go_wp2_with ((go_at_call 37; fail))
  refine (bcopy_nil _).mono ?_
  rintro e wx37 ⟨rfl, rfl⟩
  go_wp2_with fail
  go_ret
  exact ⟨ret_bool (by simp), HB.out⟩

theorem bnil_row (off v n : Int) (h0 : (Lit.int .u32 off).wf = true) (_h1 : (Lit.int .u32 v).wf = true) (_h2 : (Lit.int .u64 n).wf = true) (w : World) :
    Calls Try.prog 10 #[U off, U v, L n] w fun e w' => e = .returned (.bool true) ∧ Below w.heap.size w w' := by
  have hb : 0 ≤ off ∧ off ≤ 4294967295 := by
    simp [Lit.wf, IntKind.min, IntKind.max, IntKind.signed, IntKind.bits] at h0; omega
  exact bnil_walk off v n hb.1 hb.2 w
end Go.Proofs.Ytfjkfigjenalgaa
