/- The law's own functions: a call, of both, whole. Its conditions: those that its statement shows. -/
import Derived.Test.YtfjkfigjenalgaaQ6
namespace Go.Proofs.Ytfjkfigjenalgaa
open Go.RowKit
set_option linter.unusedVariables false

/-- What a call leaves. -/
def doB (s : CS) (k n off v : Int) : CS := if k = 0 then s.tick n else if k = 2 then (s.storeB off v).1 else if k = 3 then CS.zero else s

theorem doB_ok {s : CS} (h : s.Ok) (k n off v : Int) (n0 : 0 ≤ n) (v0 : 0 ≤ v) (v1 : v ≤ 4294967295) : (doB s k n off v).Ok := by
  unfold doB
  split
  · exact s.tick_ok h n n0
  · split
    · exact s.storeB_ok h off v v0 v1
    · split
      · exact CS.zero_ok
      · exact h

theorem do_any {b : Nat} {s : CS} {w : World} (h : s.Ok) (hc : HC w b s) (k n off v : Int) (n0 : 0 ≤ n) (n1 : n ≤ 18446744073709551615) (o0 : 0 ≤ off) (o1 : off ≤ 4294967295) (v0 : 0 ≤ v) (v1 : v ≤ 4294967295) :
    Calls Try.prog 12 #[.pointer (some ⟨b, 0, none⟩), .agg s.rc, .agg #[I k, L n, U off, U v]] w (DoP w b (doB s k n off v)) := by
  unfold doB
  by_cases k0 : k = 0
  · rw [if_pos k0]; subst k0; exact do_0 h hc n off v n0 n1
  rw [if_neg k0]
  by_cases k2 : k = 2
  · rw [if_pos k2]; subst k2; exact do_2 h hc n off v o0 o1 v0 v1
  rw [if_neg k2]
  by_cases k3 : k = 3
  · rw [if_pos k3]; subst k3; exact do_3 h hc n off v
  rw [if_neg k3]
  by_cases k1 : k = 1
  · subst k1; exact do_1 h hc n off v o0 o1
  by_cases k4 : k = 4
  · subst k4; exact do_4 h hc n off v
  exact do_else h hc k n off v k0 k1 k2 k3 k4
end Go.Proofs.Ytfjkfigjenalgaa
