/- The law's own functions: the chapter's example. Its conditions: those that its statement shows. -/
import Derived.Test.YtfjkfigjenalgaaQ1
namespace Go.Proofs.Ytfjkfigjenalgaa
open Go.RowKit
set_option linter.unusedVariables false

theorem store_of {b : Nat} {s : CS} {w : World} (h : s.Ok) (hc : HC w b s) (off v e : Int) (s' : CS) (h0 : 0 ≤ off) (h1 : off ≤ 4294967295) (v0 : 0 ≤ v) (v1 : v ≤ 4294967295) (hv : Hid (s.storeB off v = (s', e))) :
    Calls Try.prog 20 #[.pointer (some ⟨b, 0, none⟩), U off, U v] w fun x w' => x = .returned (I e) ∧ Stored w w' b s' := by
  have := store_any h hc off v h0 h1 v0 v1
  rw [hv.out] at this; exact this
theorem tick_of {b : Nat} {s : CS} {w : World} (h : s.Ok) (hc : HC w b s) (n : Int) (s' : CS) (hn0 : 0 ≤ n) (hn1 : n ≤ 18446744073709551615) (hv : Hid (s.tick n = s')) :
    Calls Try.prog 16 #[.pointer (some ⟨b, 0, none⟩), L n] w fun e w' => e = .returned (.tuple #[]) ∧ Stored w w' b s' := by
  have := tick_any h hc n hn0 hn1
  rw [hv.out] at this; exact this
theorem leftA_of {b : Nat} {s : CS} {w : World} (h : s.Ok) (hc : HC w b s) (n : Int) (hv : Hid (s.left = n)) :
    Calls Try.prog 19 #[.pointer (some ⟨b, 0, none⟩)] w fun e w' => e = .returned (L n) ∧ Below w.heap.size w w' := by
  have := left_any h hc
  rw [hv.out] at this; exact this
theorem Stored.below_ {w w' : World} {b B : Nat} {s : CS} (h : Stored w w' b s) (hB : B ≤ b) (hs : B ≤ w.heap.size) : Below B w w' :=
  ⟨h.os, h.tape, h.output, h.size, fun k hk => h.other k (by omega) (by omega)⟩

def k1 : CS := ⟨3, 0, false, false, false, 0, 0, false⟩
def k2 : CS := ⟨3, 3, true, true, false, 1, 0, false⟩
def k3 : CS := ⟨3, 1, true, true, false, 1, 1, false⟩
def k4 : CS := ⟨3, 3, true, true, false, 1, 0, true⟩

set_option maxHeartbeats 2000000 in
theorem known_count (w : World) : Calls Try.prog 14 #[] w fun e w' => e = .returned (.bool true) ∧ Below w.heap.size w w' := by
  have e1 : Hid (CS.zero.storeB 0 3 = (k1, 0)) := Lib.hid rfl
  have e2 : Hid (k1.storeB 8 259 = (k2, 0)) := Lib.hid rfl
  have e3 : Hid (k2.left = 6) := Lib.hid rfl
  have e4 : Hid (k2.tick 5 = k3) := Lib.hid rfl
  have e5 : Hid (k3.loadB 4 = (1, 0)) := Lib.hid rfl
  have e6 : Hid (k3.tick 1 = k4) := Lib.hid rfl
  have e7 : Hid (k4.loadB 4 = (3, 0)) := Lib.hid rfl
  have e8 : Hid (k4.loadB 12 = (1, 0)) := Lib.hid rfl
  have o1 : k1.Ok := ⟨by decide, by decide, by decide, by decide, by decide, by decide, by decide, by decide⟩
  have o2 : k2.Ok := ⟨by decide, by decide, by decide, by decide, by decide, by decide, by decide, by decide⟩
  have o3 : k3.Ok := ⟨by decide, by decide, by decide, by decide, by decide, by decide, by decide, by decide⟩
  have H1 : Hid (HC (w.alloc (.cells CS.zero.cells 67)) w.heap.size CS.zero) := Lib.hid (Blk.new _ _ _)
  have B1 : Hid (Below w.heap.size w (w.alloc (.cells CS.zero.cells 67))) := Lib.hid ((Below.refl _ _).alloc (Nat.le_refl _) _)
  go_enter Try.func14, Try.ntmps14
  go_wp2_with (go_at_call 11; refine (new_any _).mono ?_; rintro e w1 ⟨rfl, hw1⟩)
  rw [hw1] at H1 B1
  clear hw1
  refine (store_of CS.zero_ok H1.out _ _ _ _ (by decide) (by decide) (by decide) (by decide) e1).mono ?_; rintro e w2 ⟨rfl, S2⟩
  have B2 := Lib.hid (B1.out.trans (S2.below_ (Nat.le_refl _) B1.out.size)); have H2 := Lib.hid S2.hc; clear S2
  go_wp2_with ((go_at_call 20; fail))
  refine (store_of o1 H2.out _ _ _ _ (by decide) (by decide) (by decide) (by decide) e2).mono ?_; rintro e w3 ⟨rfl, S3⟩
  have B3 := Lib.hid (B2.out.trans (S3.below_ (Nat.le_refl _) B2.out.size)); have H3 := Lib.hid S3.hc; clear S3
  go_wp2_with ((go_at_call 19; fail))
  refine (leftA_of o2 H3.out _ e3).mono ?_; rintro e w4 ⟨rfl, b4⟩
  have B4 := Lib.hid (B3.out.trans (b4.mono B3.out.size)); have H4 := Lib.hid (H3.out.below b4 H3.out.lt); clear b4
  go_wp2_with ((go_at_call 16; fail))
  refine (tick_of o2 H4.out _ _ (by decide) (by decide) e4).mono ?_; rintro e w5 ⟨rfl, S5⟩
  have B5 := Lib.hid (B4.out.trans (S5.below_ (Nat.le_refl _) B4.out.size)); have H5 := Lib.hid S5.hc; clear S5
  go_wp2_with ((go_at_call 18; fail))
  refine (load_of H5.out _ _ _ (by decide) (by decide) e5).mono ?_; rintro e w6 ⟨rfl, rfl⟩
  go_wp2_with ((go_at_call 16; fail))
  refine (tick_of o3 H5.out _ _ (by decide) (by decide) e6).mono ?_; rintro e w6 ⟨rfl, S6⟩
  have B6 := Lib.hid (B5.out.trans (S6.below_ (Nat.le_refl _) B5.out.size)); have H6 := Lib.hid S6.hc; clear S6
  go_wp2_with ((go_at_call 18; fail))
  refine (load_of H6.out _ _ _ (by decide) (by decide) e7).mono ?_; rintro e w7 ⟨rfl, rfl⟩
  go_wp2_with ((go_at_call 18; fail))
  refine (load_of H6.out _ _ _ (by decide) (by decide) e8).mono ?_; rintro e w7 ⟨rfl, rfl⟩
  go_wp2
  go_ret
  exact ⟨rfl, B6.out⟩
end Go.Proofs.Ytfjkfigjenalgaa
